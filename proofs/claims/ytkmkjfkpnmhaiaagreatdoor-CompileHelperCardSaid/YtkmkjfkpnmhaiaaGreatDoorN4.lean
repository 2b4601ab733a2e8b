/- N4: Sa Xa Pa Pa2 Pa3 Pt Pu Pv Pw Ca (merged by merge2.py from the working texts). -/
import Derived.Test.YtkmkjfkpnmhaiaaGreatDoorN3
import Derived.Test.YtkmkjfkpnmhaiaaGreatDoorProg
import Derived.Lib.LaidTab
import Derived.LaidSub
import Derived.MakeChecks
import Derived.Lib.ItoaNum
import Derived.KernelRfl
import Derived.Lib.Join
set_option linter.unusedSimpArgs false
set_option linter.unnecessarySimpa false
set_option linter.unusedVariables false
set_option linter.unusedSectionVars false
namespace Uw.Tryz
open Go Uw
noncomputable abbrev P0:Program:=Go.Proofs.Tryz.prog
theorem SD:P0.globalNamed "internal/strconv.uint64pow10" = some 1:=by kernel_rfl
noncomputable instance glob:Glob where
 n:=1+1
 p:=fun w=>Lib.TabIs P0 w "internal/strconv.uint64pow10" .u64 Lib.pow10Tab
 ok:=by
  intro w w' h hp;unfold Lib.TabIs World.var? at *;rw [SD] at hp ⊢;simp only [Option.bind_some] at hp ⊢;rw [h 1 (by decide)];exact hp
theorem gok {W:World} {l:List (String×DataW Unit)} (h:laidMetH P0 l W) (hl:(l.filter fun x=>x.1 == "internal/strconv.uint64pow10")=[("internal/strconv.uint64pow10",Lib.tabData .u64 Lib.pow10Tab)]) {t e:TypeId} (hty:(P0.globals[1]?).map (·.type)=some t) (ht:P0.underlying t=some (.array 20 e)) (he:P0.underlying e=some (.int .u64)) (hce:P0.cellsOf e=1) (hct:P0.cellsOf t=20):GOk W.heap.size W:=by
 have h1:=laidMetH.filter (fun x=>x.1 == "internal/strconv.uint64pow10") h;rw [hl,MakeChecks.laidMetH_plain _ _ _ rfl] at h1;have h2:Lib.TabIs P0 W "internal/strconv.uint64pow10" .u64 Lib.pow10Tab:=Lib.tabIs_of_head SD hty ht he hce hct h1;refine ⟨Nat.le_refl _,?_,h2⟩;show 1+1<=W.heap.size;unfold Lib.TabIs World.var? at h2;rw [SD] at h2;simp only [Option.bind_some] at h2
 rcases Nat.lt_or_ge 1 W.heap.size with h3|h3
 ·exact h3
 ·rw [Array.getElem?_eq_none h3] at h2
  simp at h2
end Uw.Tryz
namespace Uw.Tryz
open Go Uw
abbrev I (n:Int):Dat:=.int .i64 n
structure Tok where
 kind:Int
 text:List UInt8
 n:Int
 at_:Int
 deriving DecidableEq,Inhabited
def rc (t:Tok):List Dat:=[I t.kind,.str t.text,I t.n,I t.at_]
def uR (l:List Tok):Dat:=.slice 4 (l.map rc) false
def cls (c:UInt8):Nat:=
 if 97<=c.toNat/\c.toNat<=122\/65<=c.toNat/\c.toNat<=90 then 1
 else if 48<=c.toNat/\c.toNat<=57 then 2
 else if c.toNat=95 then 3
 else if c.toNat=9\/c.toNat=10\/c.toNat=32 then 4
 else if c.toNat=40\/c.toNat=41\/c.toNat=123\/c.toNat=125\/c.toNat=44\/c.toNat=59\/c.toNat=46\/c.toNat=61\/c.toNat=43\/c.toNat=45\/c.toNat=42\/c.toNat=60 then 5
 else 0
def nameB (c:UInt8):Bool:=decide (cls c=1)||decide (cls c=2)||decide (cls c=3)
def ft (c:UInt8):Bool:=decide (cls c=2)
def qB (l:List UInt8):Nat:=l.foldl (fun n b=>10 * n+(b.toNat - 48)) 0
def E4 (r:List UInt8):Bool:=match r with|[]=>false|b::_=>decide (cls b=1)||decide (cls b=3)
def eqq (r:List UInt8):Bool:=match r with|[]=>false|b::_=>decide (b.toNat=61)
def bQ:List UInt8->Option (Int×Nat×Int)
 | []=>none
 | c::t=>
  if cls c=1 then (if 1+(t.takeWhile nameB).length<=12 then some (1,1+(t.takeWhile nameB).length,0) else none)
  else if cls c=2 then
   (if 1+(t.takeWhile ft).length<=10/\¬(1<1+(t.takeWhile ft).length/\c.toNat=48)/\qB (c::t.takeWhile ft)<4294967296/\E4 (t.dropWhile ft)=false
    then some (2,1+(t.takeWhile ft).length,(qB (c::t.takeWhile ft):Nat)) else none)
  else if cls c=5 then (if c.toNat=61/\eqq t=true then some (3,2,0) else some (3,1,0))
  else none
def o6:Nat->List UInt8->Int->Option (List Tok)
 | _,[],_=>some []
 | 0,_,_=>none
 | f+1,c::t,at_=>
  if cls c=4 then o6 f t (at_+1)
  else match bQ (c::t) with
   | none=>none
   | some (k,n,v)=>(o6 f ((c::t).drop n) (at_+n)).map (⟨k,(c::t).take n,v,at_⟩::·)
def o7 (r:List UInt8) (at_:Int):Option (List Tok):=o6 r.length r at_
theorem mb {α:Type} (p:α->Bool) (l:List α):(l.takeWhile p).length<=l.length:=(List.takeWhile_prefix (p:=p) (l:=l)).length_le
theorem mE {r:List UInt8} {k:Int} {n:Nat} {v:Int} (h:bQ r=some (k,n,v)):1<=n/\n<=r.length:=by
 cases r with
 | nil=>simp [bQ] at h
 | cons c t=>
  have h1:=mb nameB t;have h2:=mb ft t;rw [bQ] at h;by_cases a1:cls c=1
  ·rw [if_pos a1] at h
   split at h
   ·simp at h;simp;omega
   ·cases h
  ·rw [if_neg a1] at h
   by_cases a2:cls c=2
   ·rw [if_pos a2] at h
    split at h
    ·simp only [Option.some.injEq,Prod.mk.injEq] at h;simp only [List.length_cons];omega
    ·cases h
   ·rw [if_neg a2] at h
    split at h
    ·split at h
     ·rename_i h3
      cases t with
      | nil=>simp [eqq] at h3
      | cons b u=>simp at h;simp;omega
     ·simp at h;simp;omega
    ·cases h
theorem rf:∀(f g:Nat) (r:List UInt8) (a:Int),r.length<=f->r.length<=g->o6 f r a=o6 g r a
 | 0,g,[],a,_,_=>by cases g<;>rfl
 | f+1,g,[],a,_,_=>by cases g<;>rfl
 | 0,_,_::_,_,h,_=>by simp at h
 | _+1,0,_::_,_,_,h=>by simp at h
 | f+1,g+1,c::t,a,h1,h2=>by
  simp only [List.length_cons] at h1 h2;rw [o6,o6];by_cases hb:cls c=4
  ·rw [if_pos hb,if_pos hb];exact rf f g t (a+1) (by omega) (by omega)
  ·rw [if_neg hb,if_neg hb]
   cases ht:bQ (c::t) with
   | none=>rfl
   | some x=>
    obtain ⟨k,n,v⟩:=x;have:=mE ht;simp only [List.length_cons] at this;simp only;rw [rf f g ((c::t).drop n) (a+n) (by simp;omega) (by simp;omega)]
theorem LQ (a:Int):o7 [] a=some []:=rfl
theorem Hv (c:UInt8) (t:List UInt8) (a:Int) (h:cls c=4):o7 (c::t) a=o7 t (a+1):=by
 rw [o7,List.length_cons,o6,if_pos h];rfl
theorem JG (c:UInt8) (t:List UInt8) (a:Int) (h:cls c≠4) (h2:bQ (c::t)=none):o7 (c::t) a=none:=by
 rw [o7,List.length_cons,o6,if_neg h,h2]
theorem LR (c:UInt8) (t:List UInt8) (a:Int) (h:cls c≠4) {k:Int} {n:Nat} {v:Int} (h2:bQ (c::t)=some (k,n,v)):o7 (c::t) a=(o7 ((c::t).drop n) (a+n)).map (⟨k,(c::t).take n,v,a⟩::·):=by
 have:=mE h2;simp only [List.length_cons] at this;rw [o7,List.length_cons,o6,if_neg h,h2];simp only;rw [o7,rf t.length _ ((c::t).drop n) (a+n) (by simp;omega) (Nat.le_refl _)]
def fM (s:List UInt8):List Tok×Int:=if 4000<s.length then ([],2) else match o7 s 0 with|none=>([],3)|some l=>(l,0)
def LS (x:List Tok×Int):Dat:=.tuple [uR x.1,I x.2]
end Uw.Tryz
namespace Uw.Tryz
open Go Uw
abbrev Str:=List UInt8
mutual
inductive Ex where
 | num (n:Int)
 | name (s:Str)
 | bin (k:Int) (a b:Ex)
 | call (o v:Str) (ar:Exs)
inductive Exs where
 | nil
 | cons (e:Ex) (r:Exs)
end
mutual
inductive Stm where
 | set (s:Str) (e:Ex)
 | task (par:Bool) (to f:Str) (ar:Exs)
 | sync
 | if1 (e:Ex) (a:Bl)
 | if2 (e:Ex) (a b:Bl)
 | loop (e:Ex) (a:Bl)
 | one (k:Int) (e:Ex)
 | act (o v:Str) (ar:Exs)
inductive Bl where
 | nil
 | cons (s:Stm) (r:Bl)
end
def Exs.length:Exs->Nat
 | .nil=>0
 | .cons _ r=>r.length+1
inductive R (α:Type) where
 | ok (a:α) (r:List Tok)
 | bad
 | out
def R.bind {α β:Type} (x:R α) (f:α->List Tok->R β):R β:=
 match x with
 | .ok a r=>f a r
 | .bad=>.bad
 | .out=>.out
def hd (r:List Tok):Str:=match r with|[]=>[]|t::_=>t.text
def want (s:Str) (r:List Tok):R Unit:=if hd r=s then .ok () r.tail else .bad
def E5:Str:=[99,101,108,108]
def LU:Str:=[109,97,112]
def yT:Str:=[115,116,97,99,107]
def E6:Str:=[99,104,97,110]
def nO:Str:=[102,117,110,99]
def gg:Str:=[115,112,97,119,110]
def pU:Str:=[112,97,114]
def wT:Str:=[115,121,110,99]
def sIf:Str:=[105,102]
def wU:Str:=[101,108,115,101]
def tR:Str:=[119,104,105,108,101]
def nP:Str:=[114,101,116,117,114,110]
def nQ:Str:=[97,115,115,101,114,116]
def AG (s:Str):Bool:=decide (s=E5)||decide (s=LU)||decide (s=yT)||decide (s=E6)||decide (s=nO)||decide (s=gg)||decide (s=pU)||decide (s=wT)||decide (s=sIf)||decide (s=wU)||decide (s=tR)||decide (s=nP)||decide (s=nQ)
def iV (k:Int) (r:List Tok):R Tok:=
 match r with
 | []=>.bad
 | t::r'=>if t.kind=k then .ok t r' else .bad
def isNum (r:List Tok):Bool:=match r with|[]=>false|t::_=>decide (t.kind=2)
def numOf (r:List Tok):Int:=match r with|[]=>0|t::_=>t.n
def eQ (r:List Tok):R Str:=(iV 1 r).bind fun t r'=>if AG t.text then .bad else .ok t.text r'
mutual
def jx:Nat->List Tok->R Ex
 | 0,_=>.out
 | n+1,r=>
  if hd r=[40] then (dL n r.tail).bind fun e r=>(want [41] r).bind fun _ r=>.ok e r
  else if isNum r then .ok (.num (numOf r)) r.tail
  else (eQ r).bind fun s r=>if hd r=[46] then (gR n s r).bind fun x r=>.ok (.call s x.1 x.2) r else .ok (.name s) r
def gR:Nat->Str->List Tok->R (Str×Exs)
 | 0,_,_=>.out
 | n+1,s,r=>(want [46] r).bind fun _ r=>(eQ r).bind fun v r=>(gw n r).bind fun ar r=>.ok (v,ar) r
def gw:Nat->List Tok->R Exs
 | 0,_=>.out
 | n+1,r=>(want [40] r).bind fun _ r=>if hd r=[41] then .ok .nil r.tail else (dL n r).bind fun e r=>(dR n r).bind fun es r=>.ok (.cons e es) r
def dR:Nat->List Tok->R Exs
 | 0,_=>.out
 | n+1,r=>if hd r=[44] then (dL n r.tail).bind fun e r=>(dR n r).bind fun es r=>.ok (.cons e es) r
  else (want [41] r).bind fun _ r=>.ok .nil r
def iH:Nat->List Tok->R Ex
 | 0,_=>.out
 | n+1,r=>(jx n r).bind fun e r=>eK n e r
def eK:Nat->Ex->List Tok->R Ex
 | 0,_,_=>.out
 | n+1,left,r=>if hd r=[42] then (jx n r.tail).bind fun e r=>eK n (.bin 5 left e) r else .ok left r
def nE:Nat->List Tok->R Ex
 | 0,_=>.out
 | n+1,r=>(iH n r).bind fun e r=>fF n e r
def fF:Nat->Ex->List Tok->R Ex
 | 0,_,_=>.out
 | n+1,left,r=>
  if hd r=[43] then (iH n r.tail).bind fun e r=>fF n (.bin 3 left e) r
  else if hd r=[45] then (iH n r.tail).bind fun e r=>fF n (.bin 4 left e) r
  else .ok left r
def dL:Nat->List Tok->R Ex
 | 0,_=>.out
 | n+1,r=>(nE n r).bind fun left r=>
  if hd r=[60] then (nE n r.tail).bind fun e r=>.ok (.bin 6 left e) r
  else if hd r=[61,61] then (nE n r.tail).bind fun e r=>.ok (.bin 7 left e) r
  else .ok left r
end
def gj (n:Nat) (to:Str) (r:List Tok):R Stm:=
 (if hd r=gg then R.ok false r.tail else (want pU r).bind fun _ r=>.ok true r).bind fun par r=>
  (eQ r).bind fun f r=>(gw n r).bind fun ar r=>if par=true/\ar.length≠2 then .bad else .ok (.task par to f ar) r
def iu (n:Nat) (r:List Tok):R Stm:=
 if hd r=gg\/hd r=pU then gj n [] r
 else if hd r=wT then .ok .sync r.tail
 else if hd r=nP then (dL n r.tail).bind fun e r=>.ok (.one 15 e) r
 else if hd r=nQ then (dL n r.tail).bind fun e r=>.ok (.one 16 e) r
 else (eQ r).bind fun s r=>
  if hd r=[46] then (gR n s r).bind fun x r=>.ok (.act s x.1 x.2) r
  else (want [61] r).bind fun _ r=>
   if hd r=gg\/hd r=pU then gj n s r else (dL n r).bind fun e r=>.ok (.set s e) r
mutual
def jy:Nat->List Tok->R Stm
 | 0,_=>.out
 | n+1,r=>
  if hd r=sIf then (dL n r.tail).bind fun e r=>(dr n r).bind fun a r=>
   if hd r=wU then (dr n r.tail).bind fun b r=>.ok (.if2 e a b) r else .ok (.if1 e a) r
  else if hd r=tR then (dL n r.tail).bind fun e r=>(dr n r).bind fun a r=>.ok (.loop e a) r
  else (iu n r).bind fun s r=>(want [59] r).bind fun _ r=>.ok s r
def dr:Nat->List Tok->R Bl
 | 0,_=>.out
 | n+1,r=>(want [123] r).bind fun _ r=>dS n r
def dS:Nat->List Tok->R Bl
 | 0,_=>.out
 | n+1,r=>if hd r=[125] then .ok .nil r.tail else (jy n r).bind fun s r=>(dS n r).bind fun ss r=>.ok (.cons s ss) r
end
structure Dec where
 kind:Int
 name:Str
 n:Int
 deriving DecidableEq,Inhabited
structure Fn where
 name:Str
 args:List Str
 body:Bl
def cG:Nat->List Tok->R (List Str)
 | 0,_=>.out
 | n+1,r=>if hd r=[44] then (eQ r.tail).bind fun s r=>(cG n r).bind fun l r=>.ok (s::l) r
  else (want [41] r).bind fun _ r=>.ok [] r
def jO (n:Nat) (r:List Tok):R (List Str):=(want [40] r).bind fun _ r=>
 if hd r=[41] then .ok [] r.tail else (eQ r).bind fun s r=>(cG n r).bind fun l r=>.ok (s::l) r
def rh (n:Nat) (r:List Tok):R Fn:=(want nO r).bind fun _ r=>(eQ r).bind fun s r=>(jO n r).bind fun l r=>(dr n r).bind fun b r=>.ok ⟨s,l,b⟩ r
def kindOf (s:Str):Option Int:=if s=E5 then some 0 else if s=LU then some 1 else if s=yT then some 2 else if s=E6 then some 3 else none
def ri (r:List Tok):R Dec:=(iV 1 r).bind fun t r=>match kindOf t.text with
 | none=>.bad
 | some k=>(eQ r).bind fun s r=>
  (if k=0/\hd r=[61] then (iV 2 r.tail).bind fun t r=>R.ok t.n r else .ok 0 r).bind fun v r=>(want [59] r).bind fun _ r=>.ok ⟨k,s,v⟩ r
def fw:Nat->List Tok->R (List Dec)
 | 0,_=>.out
 | n+1,r=>if r=[]\/hd r=nO then .ok [] r else (ri r).bind fun d r=>(fw n r).bind fun l r=>.ok (d::l) r
def gx:Nat->List Tok->R (List Fn)
 | 0,_=>.out
 | n+1,r=>if r=[] then .ok [] r else (rh n r).bind fun f r=>(gx n r).bind fun l r=>.ok (f::l) r
def uS (n:Nat) (r:List Tok):R (List Dec×List Fn):=(fw n r).bind fun d r=>(gx n r).bind fun f r=>.ok (d,f) r
structure Nod where
 kind:Int
 n:Int
 name:Str
 name2:Str
 of:List Nat
 deriving DecidableEq,Inhabited
mutual
def Ex.sz:Ex->Nat
 | .num _=>1
 | .name _=>1
 | .bin _ a b=>a.sz+b.sz+1
 | .call _ _ ar=>ar.sz+1
def Exs.sz:Exs->Nat
 | .nil=>0
 | .cons e r=>e.sz+r.sz
end
def Exs.places:Exs->Nat->List Nat
 | .nil,_=>[]
 | .cons e r,b=>(b+e.sz - 1)::r.places (b+e.sz)
mutual
def Ex.flat:Ex->Nat->List Nod
 | .num n,_=>[⟨1,n,[],[],[]⟩]
 | .name s,_=>[⟨2,0,s,[],[]⟩]
 | .bin k x y,b=>x.flat b++y.flat (b+x.sz)++[⟨k,0,[],[],[b+x.sz - 1,b+x.sz+y.sz - 1]⟩]
 | .call o v ar,b=>ar.flat b++[⟨8,0,o,v,ar.places b⟩]
def Exs.flat:Exs->Nat->List Nod
 | .nil,_=>[]
 | .cons e r,b=>e.flat b++r.flat (b+e.sz)
end
mutual
def Stm.sz:Stm->Nat
 | .set _ e=>e.sz+1
 | .task _ _ _ ar=>ar.sz+1
 | .sync=>1
 | .if1 e a=>e.sz+(a.sz+1)+1
 | .if2 e a b=>e.sz+(a.sz+1)+(b.sz+1)+1
 | .loop e a=>e.sz+(a.sz+1)+1
 | .one _ e=>e.sz+1
 | .act _ _ ar=>ar.sz+1+1
def Bl.sz:Bl->Nat
 | .nil=>0
 | .cons s r=>s.sz+r.sz
end
def Bl.places:Bl->Nat->List Nat
 | .nil,_=>[]
 | .cons s r,b=>(b+s.sz - 1)::r.places (b+s.sz)
mutual
def Stm.flat:Stm->Nat->List Nod
 | .set s e,b=>e.flat b++[⟨9,0,s,[],[b+e.sz - 1]⟩]
 | .task par to f ar,b=>ar.flat b++[⟨if par then 11 else 10,0,to,f,ar.places b⟩]
 | .sync,b=>[⟨12,0,[],[],[]⟩]
 | .if1 e x,b=>e.flat b++(x.flat (b+e.sz)++[⟨18,0,[],[],x.places (b+e.sz)⟩])++[⟨13,0,[],[],[b+e.sz - 1,b+e.sz+(x.sz+1) - 1]⟩]
 | .if2 e x y,b=>e.flat b++(x.flat (b+e.sz)++[⟨18,0,[],[],x.places (b+e.sz)⟩])++(y.flat (b+e.sz+(x.sz+1))++[⟨18,0,[],[],y.places (b+e.sz+(x.sz+1))⟩])++[⟨13,0,[],[],[b+e.sz - 1,b+e.sz+(x.sz+1) - 1,b+e.sz+(x.sz+1)+(y.sz+1) - 1]⟩]
 | .loop e x,b=>e.flat b++(x.flat (b+e.sz)++[⟨18,0,[],[],x.places (b+e.sz)⟩])++[⟨14,0,[],[],[b+e.sz - 1,b+e.sz+(x.sz+1) - 1]⟩]
 | .one k e,b=>e.flat b++[⟨k,0,[],[],[b+e.sz - 1]⟩]
 | .act o v ar,b=>ar.flat b++[⟨8,0,o,v,ar.places b⟩]++[⟨17,0,[],[],[b+ar.sz+1 - 1]⟩]
def Bl.flat:Bl->Nat->List Nod
 | .nil,_=>[]
 | .cons s r,b=>s.flat b++r.flat (b+s.sz)
end
def Bl.all (x:Bl) (b:Nat):List Nod:=x.flat b++[⟨18,0,[],[],x.places b⟩]
mutual
theorem Ex.aB:∀(e:Ex) (b:Nat),(e.flat b).length=e.sz
 | .num _,_=>rfl
 | .name _,_=>rfl
 | .bin k x y,b=>by simp [Ex.flat,Ex.sz,Ex.aB x,Ex.aB y];omega
 | .call o v ar,b=>by simp [Ex.flat,Ex.sz,Exs.aB ar]
theorem Exs.aB:∀(e:Exs) (b:Nat),(e.flat b).length=e.sz
 | .nil,_=>rfl
 | .cons e r,b=>by simp [Exs.flat,Exs.sz,Ex.aB e,Exs.aB r]
end
mutual
theorem Stm.aB:∀(e:Stm) (b:Nat),(e.flat b).length=e.sz
 | .set s e,b=>by simp [Stm.flat,Stm.sz,Ex.aB]
 | .task par to f ar,b=>by simp [Stm.flat,Stm.sz,Exs.aB]
 | .sync,b=>rfl
 | .if1 e x,b=>by simp [Stm.flat,Stm.sz,Ex.aB,Bl.aB x];omega
 | .if2 e x y,b=>by simp [Stm.flat,Stm.sz,Ex.aB,Bl.aB x,Bl.aB y];omega
 | .loop e x,b=>by simp [Stm.flat,Stm.sz,Ex.aB,Bl.aB x];omega
 | .one k e,b=>by simp [Stm.flat,Stm.sz,Ex.aB]
 | .act o v ar,b=>by simp [Stm.flat,Stm.sz,Exs.aB]
theorem Bl.aB:∀(e:Bl) (b:Nat),(e.flat b).length=e.sz
 | .nil,_=>rfl
 | .cons s r,b=>by simp [Bl.flat,Bl.sz,Stm.aB s,Bl.aB r]
end
theorem Bl.mc (x:Bl) (b:Nat):(x.all b).length=x.sz+1:=by simp [Bl.all,Bl.aB]
mutual
theorem Ex.ji:∀(e:Ex),1<=e.sz
 | .num _=>Nat.le_refl _
 | .name _=>Nat.le_refl _
 | .bin _ a b=>by rw [Ex.sz];omega
 | .call _ _ ar=>by rw [Ex.sz];omega
end
theorem Stm.ji (s:Stm):1<=s.sz:=by cases s<;>simp only [Stm.sz]<;>omega
end Uw.Tryz
namespace Uw.Tryz
open Go Uw
theorem bind_ok {α β:Type} {x:R α} {f:α->List Tok->R β} {b:β} {r:List Tok}:x.bind f = .ok b r<->∃a r1,x = .ok a r1/\f a r1 = .ok b r:=by
 cases x with
 | ok a r1=>exact ⟨fun h=>⟨a,r1,rfl,h⟩,fun ⟨_,_,h1,h2⟩=>by injection h1 with e1 e2;subst e1 e2;exact h2⟩
 | bad=>exact ⟨fun h=>(by cases h),fun ⟨_,_,h,_⟩=>(by cases h)⟩
 | out=>exact ⟨fun h=>(by cases h),fun ⟨_,_,h,_⟩=>(by cases h)⟩
def Suf (r r' : List Tok) (s:Nat):Prop:=∃j,j<=r.length/\r' = r.drop j/\s<=j
theorem Suf.refl (r:List Tok):Suf r r 0:=⟨0,by simp,rfl,Nat.le_refl _⟩
theorem Suf.trans {a b c:List Tok} {s t:Nat} (h1:Suf a b s) (h2:Suf b c t):Suf a c (s+t):=by
 obtain ⟨i,i1,rfl,i3⟩:=h1;obtain ⟨j,j1,rfl,j3⟩:=h2;simp at j1;exact ⟨i+j,by omega,by rw [List.drop_drop],by omega⟩
theorem Suf.le {a b:List Tok} {s t:Nat} (h:Suf a b s) (hl:t<=s):Suf a b t:=by
 obtain ⟨i,i1,i2,i3⟩:=h;exact ⟨i,i1,i2,by omega⟩
theorem Suf.tail {r:List Tok} (h:r≠[]):Suf r r.tail 1:=by
 cases r with
 | nil=>exact absurd rfl h
 | cons a l=>exact ⟨1,by simp,rfl,Nat.le_refl _⟩
theorem UW {r:List Tok} {s:Str} (h:hd r=s) (hs:s≠[]):r≠[]:=by
 rintro rfl;exact hs h.symm
theorem Suf.hd {r:List Tok} {s:Str} (h:hd r=s) (hs:s≠[]):Suf r r.tail 1:=Suf.tail (UW h hs)
theorem C4 {s:Str} {r r' : List Tok} {u:Unit} (h:want s r = .ok u r'):Uw.Tryz.hd r=s/\r' = r.tail:=by
 rw [want] at h
 split at h
 ·rename_i hh
  injection h with _ h
  exact ⟨hh,h.symm⟩
 ·cases h
theorem ya {k:Int} {r r' : List Tok} {t:Tok} (h:iV k r = .ok t r'):∃q,r=t::q/\r' = q/\t.kind=k:=by
 cases r with
 | nil=>rw [iV] at h;cases h
 | cons a q=>
  rw [iV] at h
  split at h
  ·rename_i hk
   injection h with h1 h2
   subst h1 h2;exact ⟨q,rfl,rfl,hk⟩
  ·cases h
theorem C5 {r r' : List Tok} {s:Str} (h:eQ r = .ok s r'):∃t,r=t::r'/\s=t.text/\t.kind=1/\AG t.text=false:=by
 rw [eQ,bind_ok] at h;obtain ⟨t,r1,h1,h2⟩:=h;obtain ⟨q,rfl,rfl,hk⟩:=ya h1
 split at h2
 ·cases h2
 ·rename_i hkw
  injection h2 with e1 e2
  subst e1 e2;exact ⟨t,rfl,rfl,hk,by simpa using hkw⟩
theorem Suf.name {r r' : List Tok} {s:Str} (h:eQ r = .ok s r'):Suf r r' 1:=by
 obtain ⟨t,rfl,_⟩:=C5 h;exact ⟨1,by simp,rfl,Nat.le_refl _⟩
theorem Suf.want {s:Str} (hs:s≠[]) {r r' : List Tok} {u:Unit} (h:want s r = .ok u r'):Suf r r' 1:=by
 obtain ⟨h1,rfl⟩:=C4 h;exact Suf.hd h1 hs
structure VN (n:Nat):Prop where
 qC:∀r e r',jx n r = .ok e r'->Suf r r' e.sz
 call:∀s r x r',gR n s r = .ok x r'->Suf r r' (x.2.sz+1)
 args:∀r x r',gw n r = .ok x r'->Suf r r' (x.sz+1)
 sZ:∀r x r',dR n r = .ok x r'->Suf r r' x.sz
 prod:∀r e r',iH n r = .ok e r'->Suf r r' e.sz
 rj:∀l r e r',eK n l r = .ok e r'->Suf r r' (e.sz - l.sz)/\l.sz<=e.sz
 sum:∀r e r',nE n r = .ok e r'->Suf r r' e.sz
 sumT:∀l r e r',fF n l r = .ok e r'->Suf r r' (e.sz - l.sz)/\l.sz<=e.sz
 expr:∀r e r',dL n r = .ok e r'->Suf r r' e.sz
theorem eM:∀n,VN n
 | 0=>by
  refine ⟨?_,?_,?_,?_,?_,?_,?_,?_,?_⟩
  ·intro _ _ _ h;rw [jx] at h;cases h
  ·intro _ _ _ _ h;rw [gR] at h;cases h
  ·intro _ _ _ h;rw [gw] at h;cases h
  ·intro _ _ _ h;rw [dR] at h;cases h
  ·intro _ _ _ h;rw [iH] at h;cases h
  ·intro _ _ _ _ h;rw [eK] at h;cases h
  ·intro _ _ _ h;rw [nE] at h;cases h
  ·intro _ _ _ _ h;rw [fF] at h;cases h
  ·intro _ _ _ h;rw [dL] at h;cases h
 | n+1=>by
  have ih:=eM n;refine ⟨?_,?_,?_,?_,?_,?_,?_,?_,?_⟩
  ·intro r e r' h
   rw [jx] at h
   split at h
   ·rename_i hh
    obtain ⟨e1,r1,h1,h⟩:=bind_ok.1 h;obtain ⟨_,r2,h2,h⟩:=bind_ok.1 h;injection h with h3 h4
    subst h3 h4;exact ((Suf.hd hh (by simp)).trans ((ih.expr _ _ _ h1).trans (Suf.want (by simp) h2))).le (by omega)
   ·split at h
    ·rename_i hn
     injection h with h1 h2
     subst h1 h2;exact (Suf.tail (by rintro rfl;cases hn)).le (by simp [Ex.sz])
    ·obtain ⟨s,r1,h1,h⟩:=bind_ok.1 h
     have s1:=Suf.name h1
     split at h
     ·obtain ⟨x,r2,h2,h⟩:=bind_ok.1 h
      injection h with h3 h4
      subst h3 h4;exact (s1.trans (ih.call _ _ _ _ h2)).le (by rw [Ex.sz];omega)
     ·injection h with h3 h4
      subst h3 h4;exact s1.le (by simp [Ex.sz])
  ·intro s r x r' h
   rw [gR] at h;obtain ⟨_,r1,h1,h⟩:=bind_ok.1 h;obtain ⟨v,r2,h2,h⟩:=bind_ok.1 h;obtain ⟨ar,r3,h3,h⟩:=bind_ok.1 h;injection h with h4 h5
   subst h4 h5;exact ((Suf.want (by simp) h1).trans ((Suf.name h2).trans (ih.args _ _ _ h3))).le (by simp only;omega)
  ·intro r x r' h
   rw [gw] at h;obtain ⟨_,r1,h1,h⟩:=bind_ok.1 h;have s1:=Suf.want (by simp) h1
   split at h
   ·rename_i hh
    injection h with h4 h5
    subst h4 h5;exact (s1.trans (Suf.hd hh (by simp))).le (by simp [Exs.sz])
   ·obtain ⟨e,r2,h2,h⟩:=bind_ok.1 h
    obtain ⟨es,r3,h3,h⟩:=bind_ok.1 h;injection h with h4 h5
    subst h4 h5;exact (s1.trans ((ih.expr _ _ _ h2).trans (ih.sZ _ _ _ h3))).le (by rw [Exs.sz];omega)
  ·intro r x r' h
   rw [dR] at h
   split at h
   ·rename_i hh
    obtain ⟨e,r2,h2,h⟩:=bind_ok.1 h;obtain ⟨es,r3,h3,h⟩:=bind_ok.1 h;injection h with h4 h5
    subst h4 h5;exact ((Suf.hd hh (by simp)).trans ((ih.expr _ _ _ h2).trans (ih.sZ _ _ _ h3))).le (by rw [Exs.sz];omega)
   ·obtain ⟨_,r1,h1,h⟩:=bind_ok.1 h
    injection h with h4 h5
    subst h4 h5;exact (Suf.want (by simp) h1).le (by simp [Exs.sz])
  ·intro r e r' h
   rw [iH] at h;obtain ⟨e1,r1,h1,h⟩:=bind_ok.1 h;obtain ⟨a1,a2⟩:=ih.rj _ _ _ _ h;exact ((ih.qC _ _ _ h1).trans a1).le (by omega)
  ·intro l r e r' h
   rw [eK] at h
   split at h
   ·rename_i hh
    obtain ⟨e1,r1,h1,h⟩:=bind_ok.1 h;obtain ⟨a1,a2⟩:=ih.rj _ _ _ _ h;rw [Ex.sz] at a1 a2;exact ⟨((Suf.hd hh (by simp)).trans ((ih.qC _ _ _ h1).trans a1)).le (by omega),by omega⟩
   ·injection h with h4 h5
    subst h4 h5;exact ⟨(Suf.refl _).le (by omega),Nat.le_refl _⟩
  ·intro r e r' h
   rw [nE] at h;obtain ⟨e1,r1,h1,h⟩:=bind_ok.1 h;obtain ⟨a1,a2⟩:=ih.sumT _ _ _ _ h;exact ((ih.prod _ _ _ h1).trans a1).le (by omega)
  ·intro l r e r' h
   rw [fF] at h
   split at h
   ·rename_i hh
    obtain ⟨e1,r1,h1,h⟩:=bind_ok.1 h;obtain ⟨a1,a2⟩:=ih.sumT _ _ _ _ h;rw [Ex.sz] at a1 a2;exact ⟨((Suf.hd hh (by simp)).trans ((ih.prod _ _ _ h1).trans a1)).le (by omega),by omega⟩
   ·split at h
    ·rename_i hh
     obtain ⟨e1,r1,h1,h⟩:=bind_ok.1 h;obtain ⟨a1,a2⟩:=ih.sumT _ _ _ _ h;rw [Ex.sz] at a1 a2;exact ⟨((Suf.hd hh (by simp)).trans ((ih.prod _ _ _ h1).trans a1)).le (by omega),by omega⟩
    ·injection h with h4 h5
     subst h4 h5;exact ⟨(Suf.refl _).le (by omega),Nat.le_refl _⟩
  ·intro r e r' h
   rw [dL] at h;obtain ⟨e1,r1,h1,h⟩:=bind_ok.1 h;have s1:=ih.sum _ _ _ h1
   split at h
   ·rename_i hh
    obtain ⟨e2,r2,h2,h⟩:=bind_ok.1 h;injection h with h4 h5
    subst h4 h5;exact (s1.trans ((Suf.hd hh (by simp)).trans (ih.sum _ _ _ h2))).le (by rw [Ex.sz];omega)
   ·split at h
    ·rename_i hh
     obtain ⟨e2,r2,h2,h⟩:=bind_ok.1 h;injection h with h4 h5
     subst h4 h5;exact (s1.trans ((Suf.hd hh (by simp)).trans (ih.sum _ _ _ h2))).le (by rw [Ex.sz];omega)
    ·injection h with h4 h5
     subst h4 h5;exact s1
end Uw.Tryz
namespace Uw.Tryz
open Go Uw
theorem o8 {n:Nat} {to:Str} {r r' : List Tok} {s:Stm} (h:gj n to r = .ok s r'):Suf r r' s.sz:=by
 rw [gj] at h;obtain ⟨p,r1,h1,h⟩:=bind_ok.1 h;obtain ⟨f,r2,h2,h⟩:=bind_ok.1 h;obtain ⟨ar,r3,h3,h⟩:=bind_ok.1 h;have s1:Suf r r1 1:=by
  split at h1
  ·rename_i hh
   injection h1 with _ e
   subst e;exact Suf.hd hh (by decide)
  ·obtain ⟨_,r4,h4,h5⟩:=bind_ok.1 h1
   injection h5 with _ e
   subst e;exact Suf.want (by decide) h4
 split at h
 ·cases h
 ·injection h with e1 e2
  subst e1 e2;exact (s1.trans ((Suf.name h2).trans ((eM n).args _ _ _ h3))).le (by rw [Stm.sz];omega)
theorem yU {n:Nat} {r r' : List Tok} {s:Stm} (h:iu n r = .ok s r'):Suf r r' s.sz:=by
 rw [iu] at h
 split at h
 ·exact o8 h
 ·split at h
  ·rename_i hh
   injection h with e1 e2
   subst e1 e2;exact Suf.hd hh (by decide)
  ·split at h
   ·rename_i hh
    obtain ⟨e,r1,h1,h⟩:=bind_ok.1 h;injection h with e1 e2
    subst e1 e2;exact ((Suf.hd hh (by decide)).trans ((eM n).expr _ _ _ h1)).le (by rw [Stm.sz];omega)
   ·split at h
    ·rename_i hh
     obtain ⟨e,r1,h1,h⟩:=bind_ok.1 h;injection h with e1 e2
     subst e1 e2;exact ((Suf.hd hh (by decide)).trans ((eM n).expr _ _ _ h1)).le (by rw [Stm.sz];omega)
    ·obtain ⟨nm,r1,h1,h⟩:=bind_ok.1 h
     split at h
     ·obtain ⟨x,r2,h2,h⟩:=bind_ok.1 h
      injection h with e1 e2
      subst e1 e2;exact ((Suf.name h1).trans ((eM n).call _ _ _ _ h2)).le (by rw [Stm.sz];omega)
     ·obtain ⟨_,r2,h2,h⟩:=bind_ok.1 h
      have s2:=(Suf.name h1).trans (Suf.want (by decide) h2)
      split at h
      ·exact (s2.trans (o8 h)).le (by omega)
      ·obtain ⟨e,r3,h3,h⟩:=bind_ok.1 h
       injection h with e1 e2
       subst e1 e2;exact (s2.trans ((eM n).expr _ _ _ h3)).le (by rw [Stm.sz];omega)
structure VO (n:Nat):Prop where
 stmt:∀r s r',jy n r = .ok s r'->Suf r r' s.sz
 block:∀r s r',dr n r = .ok s r'->Suf r r' (s.sz+1)
 stmts:∀r s r',dS n r = .ok s r'->Suf r r' s.sz
theorem s4:∀n,VO n
 | 0=>by
  refine ⟨?_,?_,?_⟩
  ·intro _ _ _ h;rw [jy] at h;cases h
  ·intro _ _ _ h;rw [dr] at h;cases h
  ·intro _ _ _ h;rw [dS] at h;cases h
 | n+1=>by
  have ih:=s4 n;refine ⟨?_,?_,?_⟩
  ·intro r s r' h
   rw [jy] at h
   split at h
   ·rename_i hh
    obtain ⟨e,r1,h1,h⟩:=bind_ok.1 h;obtain ⟨a,r2,h2,h⟩:=bind_ok.1 h;have s2:=(Suf.hd hh (by decide)).trans (((eM n).expr _ _ _ h1).trans (ih.block _ _ _ h2))
    split at h
    ·rename_i hh2
     obtain ⟨b,r3,h3,h⟩:=bind_ok.1 h;injection h with e1 e2
     subst e1 e2;exact (s2.trans ((Suf.hd hh2 (by decide)).trans (ih.block _ _ _ h3))).le (by rw [Stm.sz];omega)
    ·injection h with e1 e2
     subst e1 e2;exact s2.le (by rw [Stm.sz];omega)
   ·split at h
    ·rename_i hh
     obtain ⟨e,r1,h1,h⟩:=bind_ok.1 h;obtain ⟨a,r2,h2,h⟩:=bind_ok.1 h;injection h with e1 e2
     subst e1 e2;exact ((Suf.hd hh (by decide)).trans (((eM n).expr _ _ _ h1).trans (ih.block _ _ _ h2))).le (by rw [Stm.sz];omega)
    ·obtain ⟨e,r1,h1,h⟩:=bind_ok.1 h
     obtain ⟨_,r2,h2,h⟩:=bind_ok.1 h;injection h with e1 e2
     subst e1 e2;exact ((yU h1).trans (Suf.want (by decide) h2)).le (by omega)
  ·intro r s r' h
   rw [dr] at h;obtain ⟨_,r1,h1,h⟩:=bind_ok.1 h;exact ((Suf.want (by decide) h1).trans (ih.stmts _ _ _ h)).le (by omega)
  ·intro r s r' h
   rw [dS] at h
   split at h
   ·rename_i hh
    injection h with e1 e2
    subst e1 e2;exact (Suf.hd hh (by decide)).le (by simp [Bl.sz])
   ·obtain ⟨e,r1,h1,h⟩:=bind_ok.1 h
    obtain ⟨ss,r2,h2,h⟩:=bind_ok.1 h;injection h with e1 e2
    subst e1 e2;exact ((ih.stmt _ _ _ h1).trans (ih.stmts _ _ _ h2)).le (by rw [Bl.sz];omega)
end Uw.Tryz
namespace Uw.Tryz
open Go Uw
def eE {α:Type} (a:α):List Tok->R α:=fun r=>.ok a r
def LV {α:Type}:List Tok->R α:=fun _=>.bad
def c9 {α β:Type} (p:List Tok->R β) (f:β->List Tok->R α):List Tok->R α:=fun r=>(p r).bind f
def j9 {α:Type} (s:Str) (p:List Tok->R α):List Tok->R α:=fun r=>(want s r).bind fun _ r=>p r
def fX {α:Type} (s:Str) (p q:List Tok->R α):List Tok->R α:=fun r=>if hd r=s then p r.tail else q r
def nR {α:Type} (s:Str) (p q:List Tok->R α):List Tok->R α:=fun r=>if hd r=s then p r else q r
def cName {α:Type} (f:Str->List Tok->R α):List Tok->R α:=fun r=>(eQ r).bind f
def E7 {α:Type} (k:Int) (f:Str->Int->List Tok->R α):List Tok->R α:=fun r=>(iV k r).bind fun t r=>f t.text t.n r
def Hw {α:Type} (f:Int->List Tok->R α) (q:List Tok->R α):List Tok->R α:=fun r=>if isNum r then f (numOf r) r.tail else q r
theorem yV (n:Nat):jx (n+1)=fX [40] (c9 (dL n) fun e=>j9 [41] (eE e)) (Hw (fun v=>eE (.num v)) (cName fun s=>nR [46] (c9 (gR n s) fun x=>eE (.call s x.1 x.2)) (eE (.name s)))):=by
 funext r;rw [jx];rfl
theorem yW (n:Nat) (s:Str):gR (n+1) s=j9 [46] (cName fun v=>c9 (gw n) fun ar=>eE (v,ar)):=by
 funext r;rw [gR];rfl
theorem yX (n:Nat):gw (n+1)=j9 [40] (fX [41] (eE .nil) (c9 (dL n) fun e=>c9 (dR n) fun es=>eE (.cons e es))):=by
 funext r;rw [gw];rfl
theorem vW (n:Nat):dR (n+1)=fX [44] (c9 (dL n) fun e=>c9 (dR n) fun es=>eE (.cons e es)) (j9 [41] (eE .nil)):=by
 funext r;rw [dR];rfl
theorem yY (n:Nat):iH (n+1)=c9 (jx n) fun e=>eK n e:=by funext r;rw [iH];rfl
theorem vX (n:Nat) (l:Ex):eK (n+1) l=fX [42] (c9 (jx n) fun e=>eK n (.bin 5 l e)) (eE l):=by funext r;rw [eK];rfl
theorem C6 (n:Nat):nE (n+1)=c9 (iH n) fun e=>fF n e:=by funext r;rw [nE];rfl
theorem yZ (n:Nat) (l:Ex):fF (n+1) l=fX [43] (c9 (iH n) fun e=>fF n (.bin 3 l e)) (fX [45] (c9 (iH n) fun e=>fF n (.bin 4 l e)) (eE l)):=by funext r;rw [fF];rfl
theorem y5 (n:Nat):dL (n+1)=c9 (nE n) fun l=>fX [60] (c9 (nE n) fun e=>eE (.bin 6 l e)) (fX [61,61] (c9 (nE n) fun e=>eE (.bin 7 l e)) (eE l)):=by funext r;rw [dL];rfl
theorem vY (n:Nat) (to:Str):gj n to=c9 (fX gg (eE false) (j9 pU (eE true))) fun par=>cName fun f=>c9 (gw n) fun ar=>if par=true/\ar.length≠2 then LV else eE (.task par to f ar):=by
 funext r
 rw [gj];show R.bind _ _=R.bind _ _
 congr 1
 funext par r
 show R.bind _ _=R.bind _ _
 congr 1
 funext f r
 show R.bind _ _=R.bind _ _
 congr 1
 funext ar r
 split<;>rfl
theorem tU (n:Nat):iu n=nR gg (gj n []) (nR pU (gj n []) (fX wT (eE .sync) (fX nP (c9 (dL n) fun e=>eE (.one 15 e)) (fX nQ (c9 (dL n) fun e=>eE (.one 16 e))
  (cName fun s=>nR [46] (c9 (gR n s) fun x=>eE (.act s x.1 x.2)) (j9 [61] (nR gg (gj n s) (nR pU (gj n s) (c9 (dL n) fun e=>eE (.set s e)))))))))):=by
 have key:∀{α:Type} (a b:Prop) [Decidable a] [Decidable b] (x y:α),(if a\/b then x else y)=if a then x else if b then x else y:=by
  intro α a b _ _ x y;by_cases ha:a<;>by_cases hb:b<;>simp [ha,hb]
 funext r
 rw [iu,key];show _=if hd r=gg then _ else if hd r=pU then _ else if hd r=wT then _ else if hd r=nP then _ else if hd r=nQ then _ else R.bind _ _
 congr 6
 funext s r
 show _=if hd r=[46] then _ else R.bind _ _
 congr 2
 funext _ r
 rw [key];rfl
theorem y6 (n:Nat):jy (n+1)=fX sIf (c9 (dL n) fun e=>c9 (dr n) fun a=>fX wU (c9 (dr n) fun b=>eE (.if2 e a b)) (eE (.if1 e a))) (fX tR (c9 (dL n) fun e=>c9 (dr n) fun a=>eE (.loop e a)) (c9 (iu n) fun s=>j9 [59] (eE s))):=by
 funext r;rw [jy];rfl
theorem vZ (n:Nat):dr (n+1)=j9 [123] (dS n):=by funext r;rw [dr];rfl
theorem v7 (n:Nat):dS (n+1)=fX [125] (eE .nil) (c9 (jy n) fun s=>c9 (dS n) fun ss=>eE (.cons s ss)):=by funext r;rw [dS];rfl
theorem tV (n:Nat):cG (n+1)=fX [44] (cName fun s=>c9 (cG n) fun l=>eE (s::l)) (j9 [41] (eE [])):=by funext r;rw [cG];rfl
theorem v8 (n:Nat):jO n=j9 [40] (fX [41] (eE []) (cName fun s=>c9 (cG n) fun l=>eE (s::l))):=by funext r;rw [jO];rfl
theorem C7 (n:Nat):rh n=j9 nO (cName fun s=>c9 (jO n) fun l=>c9 (dr n) fun b=>eE ⟨s,l,b⟩):=by funext r;rw [rh];rfl
def s5 (t:Str):List Tok->R Dec:=
 match kindOf t with
 | none=>LV
 | some k=>cName fun s=>if k=0 then fX [61] (E7 2 fun _ n=>j9 [59] (eE ⟨k,s,n⟩)) (j9 [59] (eE ⟨k,s,0⟩)) else j9 [59] (eE ⟨k,s,0⟩)
theorem uT:ri=E7 1 fun t _=>s5 t:=by
 funext r
 rw [ri];show R.bind _ _=R.bind _ _
 congr 1
 funext t r
 show _=s5 t.text r;unfold s5
 cases kindOf t.text with
 | none=>rfl
 | some k=>
  show R.bind _ _=R.bind _ _
  congr 1
  funext s r
  by_cases hk:k=0
  ·rw [if_pos hk]
   by_cases h:hd r=[61]
   ·rw [if_pos ⟨hk,h⟩]
    show _=if hd r=[61] then R.bind _ _ else _
    rw [if_pos h]
    cases iV 2 r.tail<;>rfl
   ·rw [if_neg (fun x=>h x.2)]
    show _=if hd r=[61] then R.bind _ _ else _
    rw [if_neg h];rfl
  ·rw [if_neg hk,if_neg (fun x=>hk x.1)]
   rfl
def wa {α:Type} (p:List Tok->R α):Prop:=∀r a r',p r = .ok a r'->r'.length<r.length
def delta (s:Str):Int:=if s=[40]\/s=[123] then 1 else if s=[41]\/s=[125] then -1 else 0
inductive IsP:{α:Type}->Int->(List Tok->R α)->(List Tok->R α)->Prop
 | out {α:Type} {d:Int} {q:List Tok->R α}:IsP d (fun _=>.out) q
 | bad {α:Type} {d:Int}:IsP d (LV (α:=α)) LV
 | ret {α:Type} (a:α):IsP 0 (eE a) (eE a)
 | bind {α β:Type} {d e g:Int} {p p' : List Tok->R β} {f f' : β->List Tok->R α}:IsP d p p'->(∀b,IsP e (f b) (f' b))->g=d+e->IsP g (c9 p f) (c9 p' f')
 | want {α:Type} {d g:Int} {s:Str} {p p' : List Tok->R α}:s≠[]->IsP d p p'->g=delta s+d->IsP g (j9 s p) (j9 s p')
 | skip {α:Type} {d g:Int} {s:Str} {p p' q q' : List Tok->R α}:s≠[]->(s≠[41]\/wa q)->IsP d p p'->IsP g q q'->g=delta s+d->IsP g (fX s p q) (fX s p' q')
 | peek {α:Type} {d:Int} {s:Str} {p p' q q' : List Tok->R α}:s≠[41]->wa p->IsP d p p'->IsP d q q'->IsP d (nR s p q) (nR s p' q')
 | name {α:Type} {d:Int} {f f' : Str->List Tok->R α}:(∀b,IsP d (f b) (f' b))->IsP d (cName f) (cName f')
 | word {α:Type} {d:Int} {k:Int} {f f' : Str->Int->List Tok->R α}:k≠3->(∀b n,IsP d (f b n) (f' b n))->IsP d (E7 k f) (E7 k f')
 | num {α:Type} {d:Int} {f f' : Int->List Tok->R α} {q q' : List Tok->R α}:wa q->(∀b,IsP d (f b) (f' b))->IsP d q q'->IsP d (Hw f q) (Hw f' q')
theorem yb {α β:Type} {x y:R β} {f g:β->List Tok->R α} (h:x = .out\/x=y) (hf:∀b r,f b r = .out\/f b r=g b r):x.bind f = .out\/x.bind f=y.bind g:=by
 rcases h with rfl|rfl
 ·exact .inl rfl
 ·cases x with
  | ok a r=>exact hf a r
  | bad=>exact .inr rfl
  | out=>exact .inl rfl
theorem IsP.le {α:Type} {d:Int} {p q:List Tok->R α} (h:IsP d p q):∀r,p r = .out\/p r=q r:=by
 induction h with
 | out=>exact fun r=>.inl rfl
 | bad=>exact fun r=>.inr rfl
 | ret=>exact fun r=>.inr rfl
 | bind _ _ _ ih1 ih2=>exact fun r=>yb (ih1 r) ih2
 | want _ _ _ ih=>exact fun r=>yb (.inr rfl) fun _ r=>ih r
 | skip _ _ _ _ _ ih1 ih2=>
  intro r;unfold fX
  split
  ·exact ih1 _
  ·exact ih2 _
 | peek _ _ _ _ ih1 ih2=>
  intro r;unfold nR
  split
  ·exact ih1 _
  ·exact ih2 _
 | name _ ih=>exact fun r=>yb (.inr rfl) ih
 | word _ _ ih=>exact fun r=>yb (.inr rfl) fun t r=>ih t.text t.n r
 | num _ _ _ ih1 ih2=>
  intro r;unfold Hw
  split
  ·exact ih1 _ _
  ·exact ih2 _
theorem IF {r:List Tok} {s:Str} (h:hd r=s) (hs:s≠[]):∃t,r=t::r.tail/\t.text=s:=by
 cases r with
 | nil=>exact absurd h.symm hs
 | cons a l=>exact ⟨a,rfl,h⟩
theorem IsP.pre {α:Type} {d:Int} {p q:List Tok->R α} (h:IsP d p q):∀r a r',p r = .ok a r'->∃c,r=c++r':=by
 induction h with
 | out=>intro r a r' h;cases h
 | bad=>intro r a r' h;cases h
 | ret=>intro r a r' h;injection h with _ h;exact ⟨[],by rw [h];rfl⟩
 | bind _ _ _ ih1 ih2=>
  intro r a r' h;obtain ⟨b,r1,h1,h2⟩:=bind_ok.1 h;obtain ⟨c1,rfl⟩:=ih1 _ _ _ h1;obtain ⟨c2,rfl⟩:=ih2 _ _ _ _ h2;exact ⟨c1++c2,by simp⟩
 | want hs _ _ ih=>
  intro r a r' h;obtain ⟨b,r1,h1,h2⟩:=bind_ok.1 h;obtain ⟨hh,rfl⟩:=C4 h1;obtain ⟨t,ht,_⟩:=IF hh hs;obtain ⟨c2,h3⟩:=ih _ _ _ h2;exact ⟨t::c2,by rw [ht,h3];rfl⟩
 | skip hs _ _ _ _ ih1 ih2=>
  intro r a r' h;unfold fX at h
  split at h
  ·rename_i hh
   obtain ⟨t,ht,_⟩:=IF hh hs;obtain ⟨c2,h3⟩:=ih1 _ _ _ h;exact ⟨t::c2,by rw [ht,h3];rfl⟩
  ·exact ih2 _ _ _ h
 | peek _ _ _ _ ih1 ih2=>
  intro r a r' h;unfold nR at h
  split at h
  ·exact ih1 _ _ _ h
  ·exact ih2 _ _ _ h
 | name _ ih=>
  intro r a r' h;obtain ⟨b,r1,h1,h2⟩:=bind_ok.1 h;obtain ⟨t,rfl,_⟩:=C5 h1;obtain ⟨c,rfl⟩:=ih _ _ _ _ h2;exact ⟨t::c,rfl⟩
 | word _ _ ih=>
  intro r a r' h;obtain ⟨b,r1,h1,h2⟩:=bind_ok.1 h;obtain ⟨q,rfl,rfl,_⟩:=ya h1;obtain ⟨c,rfl⟩:=ih _ _ _ _ _ h2;exact ⟨b::c,rfl⟩
 | num _ _ _ ih1 ih2=>
  intro r a r' h;unfold Hw at h
  split at h
  ·rename_i hn
   obtain ⟨c,h3⟩:=ih1 _ _ _ _ h
   cases r with
   | nil=>cases hn
   | cons t l=>exact ⟨t::c,by rw [List.tail_cons] at h3;rw [h3];rfl⟩
  ·exact ih2 _ _ _ h
def Wf (t:Tok):Prop:=t.kind≠3->delta t.text=0
end Uw.Tryz
namespace Uw.Tryz
open Go Uw
theorem Suf.len {a b:List Tok} {s:Nat} (h:Suf a b s):b.length+s<=a.length:=by
 obtain ⟨i,i1,rfl,i3⟩:=h;simp;omega
theorem IsP.len {α:Type} {d:Int} {p q:List Tok->R α} (h:IsP d p q) {r r' : List Tok} {a:α} (e:p r = .ok a r'):r'.length<=r.length:=by
 obtain ⟨c,rfl⟩:=h.pre _ _ _ e;simp
theorem C9 {α:Type} {p:List Tok->R α} (h:∀r e r',p r = .ok e r'->∃s,1<=s/\Suf r r' s):wa p:=by
 intro r e r' he;obtain ⟨s,h1,h2⟩:=h r e r' he;have:=h2.len;omega
theorem wb {α β:Type} {d:Int} {p:List Tok->R β} {f f' : β->List Tok->R α} (h:wa p) (hf:∀b,IsP d (f b) (f' b)):wa (c9 p f):=by
 intro r a r' he;obtain ⟨b,r1,h1,h2⟩:=bind_ok.1 he;have:=h _ _ _ h1;have:=(hf b).len h2;omega
theorem BE {α:Type} {d:Int} {f f' : Str->List Tok->R α} (hf:∀b,IsP d (f b) (f' b)):wa (cName f):=by
 intro r a r' he;obtain ⟨b,r1,h1,h2⟩:=bind_ok.1 he;have:=(Suf.name h1).len;have:=(hf b).len h2;omega
theorem JH (n:Nat):wa (dL n):=C9 fun r e r' h=>⟨_,e.ji,(eM n).expr _ _ _ h⟩
theorem BF (n:Nat) (s:Str):wa (gR n s):=C9 fun r e r' h=>⟨_,by omega,(eM n).call _ _ _ _ h⟩
theorem pV (n:Nat) (s:Str):wa (gj n s):=C9 fun r e r' h=>⟨_,e.ji,o8 h⟩
structure PE (n:Nat):Prop where
 qC:IsP 0 (jx n) (jx (n+1))
 call:∀s,IsP 0 (gR n s) (gR (n+1) s)
 args:IsP 0 (gw n) (gw (n+1))
 sZ:IsP (-1) (dR n) (dR (n+1))
 prod:IsP 0 (iH n) (iH (n+1))
 rj:∀l,IsP 0 (eK n l) (eK (n+1) l)
 sum:IsP 0 (nE n) (nE (n+1))
 sumT:∀l,IsP 0 (fF n l) (fF (n+1) l)
 expr:IsP 0 (dL n) (dL (n+1))
theorem iw {α:Type} {d:Int} {p q:List Tok->R α} (h:∀r,p r = .out):IsP d p q:=by
 have:p=fun _=>.out:=funext h;rw [this];exact .out
theorem pe:∀n,PE n
 | 0=>⟨iw fun r=>by rw [jx],fun s=>iw fun r=>by rw [gR],iw fun r=>by rw [gw],iw fun r=>by rw [dR],iw fun r=>by rw [iH],fun l=>iw fun r=>by rw [eK],iw fun r=>by rw [nE],fun l=>iw fun r=>by rw [fF],iw fun r=>by rw [dL]⟩
 | n+1=>by
  have ih:=pe n;have arT:∀e,IsP (-1) (c9 (dR n) fun es=>eE (Exs.cons e es)) (c9 (dR (n+1)) fun es=>eE (Exs.cons e es)):=fun e=>.bind ih.sZ (fun es=>.ret _) (by decide);refine ⟨?_,?_,?_,?_,?_,?_,?_,?_,?_⟩
  ·rw [yV n,yV (n+1)]
   have hq:∀s,IsP 0 (nR [46] (c9 (gR n s) fun x=>eE (Ex.call s x.1 x.2)) (eE (.name s))) (nR [46] (c9 (gR (n+1) s) fun x=>eE (Ex.call s x.1 x.2)) (eE (.name s))):=fun s=>
    .peek (by decide) (wb (BF n s) fun x=>.ret _) (.bind (ih.call s) (fun x=>.ret _) (by decide)) (.ret _)
   exact .skip (d:=-1) (by decide) (.inl (by decide)) (.bind ih.expr (fun e=>.want (by decide) (.ret _) rfl) (by decide)) (.num (BE hq) (fun v=>.ret _) (.name hq)) (by decide)
  ·intro s
   rw [yW n,yW (n+1)];exact .want (by decide) (.name fun v=>.bind ih.args (fun ar=>.ret _) rfl) (by decide)
  ·rw [yX n,yX (n+1)]
   exact .want (d:=-1) (by decide) (.skip (by decide) (.inr (wb (JH n) arT)) (.ret _) (.bind ih.expr arT (by decide)) (by decide)) (by decide)
  ·rw [vW n,vW (n+1)]
   exact .skip (d:=-1) (by decide) (.inl (by decide)) (.bind ih.expr arT (by decide)) (.want (by decide) (.ret _) (by decide)) (by decide)
  ·rw [yY n,yY (n+1)]
   exact .bind ih.qC ih.rj (by decide)
  ·intro l
   rw [vX n,vX (n+1)];exact .skip (d:=0) (by decide) (.inl (by decide)) (.bind ih.qC (fun e=>ih.rj _) (by decide)) (.ret _) (by decide)
  ·rw [C6 n,C6 (n+1)]
   exact .bind ih.prod ih.sumT (by decide)
  ·intro l
   rw [yZ n,yZ (n+1)];exact .skip (d:=0) (by decide) (.inl (by decide)) (.bind ih.prod (fun e=>ih.sumT _) (by decide)) (.skip (d:=0) (by decide) (.inl (by decide)) (.bind ih.prod (fun e=>ih.sumT _) (by decide)) (.ret _) (by decide)) (by decide)
  ·rw [y5 n,y5 (n+1)]
   exact .bind ih.sum (fun l=>.skip (d:=0) (by decide) (.inl (by decide)) (.bind ih.sum (fun e=>.ret _) (by decide)) (.skip (d:=0) (by decide) (.inl (by decide)) (.bind ih.sum (fun e=>.ret _) (by decide)) (.ret _) (by decide)) (by decide)) (by decide)
theorem sb (n:Nat) (to:Str):IsP 0 (gj n to) (gj (n+1) to):=by
 rw [vY n,vY (n+1)];exact .bind (d:=0) (e:=0) (.skip (d:=0) (by decide) (.inl (by decide)) (.ret _) (.want (by decide) (.ret _) (by decide)) (by decide)) (fun par=>.name fun f=>.bind (e:=0) (pe n).args (fun ar=>by split<;>first|exact .bad|exact .ret _) (by decide)) (by decide)
theorem Hy (n:Nat):IsP 0 (iu n) (iu (n+1)):=by
 rw [tU n,tU (n+1)];exact .peek (by decide) (pV n []) (sb n []) (.peek (by decide) (pV n []) (sb n []) (.skip (d:=0) (by decide) (.inl (by decide)) (.ret _) (.skip (d:=0) (by decide) (.inl (by decide)) (.bind (pe n).expr (fun e=>.ret _) (by decide))
  (.skip (d:=0) (by decide) (.inl (by decide)) (.bind (pe n).expr (fun e=>.ret _) (by decide)) (.name fun s=>.peek (by decide) (wb (BF n s) fun x=>.ret _) (.bind ((pe n).call s) (fun x=>.ret _) (by decide))
   (.want (d:=0) (by decide) (.peek (by decide) (pV n s) (sb n s) (.peek (by decide) (pV n s) (sb n s) (.bind (pe n).expr (fun e=>.ret _) (by decide)))) (by decide))) (by decide)) (by decide)) (by decide)))
structure PS (n:Nat):Prop where
 stmt:IsP 0 (jy n) (jy (n+1))
 block:IsP 0 (dr n) (dr (n+1))
 stmts:IsP (-1) (dS n) (dS (n+1))
theorem ps:∀n,PS n
 | 0=>⟨iw fun r=>by rw [jy],iw fun r=>by rw [dr],iw fun r=>by rw [dS]⟩
 | n+1=>by
  have ih:=ps n;refine ⟨?_,?_,?_⟩
  ·rw [y6 n,y6 (n+1)]
   exact .skip (d:=0) (by decide) (.inl (by decide)) (.bind (pe n).expr (fun e=>.bind (d:=0) (e:=0) ih.block (fun a=>.skip (d:=0) (by decide) (.inl (by decide)) (.bind ih.block (fun b=>.ret _) (by decide)) (.ret _) (by decide)) rfl) (by decide))
    (.skip (d:=0) (by decide) (.inl (by decide)) (.bind (pe n).expr (fun e=>.bind ih.block (fun a=>.ret _) rfl) (by decide)) (.bind (Hy n) (fun s=>.want (by decide) (.ret _) rfl) (by decide)) (by decide)) (by decide)
  ·rw [vZ n,vZ (n+1)]
   exact .want (by decide) ih.stmts (by decide)
  ·rw [v7 n,v7 (n+1)]
   exact .skip (d:=0) (by decide) (.inl (by decide)) (.ret _) (.bind ih.stmt (fun s=>.bind ih.stmts (fun ss=>.ret _) rfl) (by decide)) (by decide)
theorem y8:∀n,IsP (-1) (cG n) (cG (n+1))
 | 0=>iw fun r=>by rw [cG]
 | n+1=>by
  rw [tV n,tV (n+1)];exact .skip (d:=-1) (by decide) (.inl (by decide)) (.name fun s=>.bind (y8 n) (fun l=>.ret _) (by decide)) (.want (by decide) (.ret _) (by decide)) (by decide)
theorem sc (n:Nat):IsP 0 (jO n) (jO (n+1)):=by
 rw [v8 n,v8 (n+1)];have hq:∀s,IsP (-1) (c9 (cG n) fun l=>eE (s::l)) (c9 (cG (n+1)) fun l=>eE (s::l)):=fun s=>.bind (y8 n) (fun l=>.ret _) (by decide);exact .want (d:=-1) (by decide) (.skip (d:=0) (by decide) (.inr (BE hq)) (.ret _) (.name hq) (by decide)) (by decide)
theorem OT (n:Nat):IsP 0 (rh n) (rh (n+1)):=by
 rw [C7 n,C7 (n+1)];exact .want (d:=0) (by decide) (.name fun s=>.bind (e:=0) (sc n) (fun l=>.bind (ps n).block (fun b=>.ret _) (by decide)) (by decide)) (by decide)
theorem LW:IsP 0 ri ri:=by
 rw [uT];refine .word (by decide) fun t _=>?_;rw [s5]
 split
 ·exact .bad
 ·refine .name fun s=>?_
  split
  ·exact .skip (d:=0) (by decide) (.inl (by decide)) (.word (by decide) fun _ n=>.want (by decide) (.ret _) (by decide)) (.want (by decide) (.ret _) (by decide)) (by decide)
  ·exact .want (by decide) (.ret _) (by decide)
theorem aQ {α β:Type} {x:R β} {f:β->List Tok->R α} (h:x≠.out) (hf:∀b r,x = .ok b r->f b r≠.out):x.bind f≠.out:=by
 cases x with
 | ok a r=>exact hf a r rfl
 | bad=>exact fun h=>nomatch h
 | out=>exact absurd rfl h
theorem dw {α:Type} {a:α} {r:List Tok}:R.ok a r≠.out:=fun h=>nomatch h
theorem i7 {s:Str} {r:List Tok}:want s r≠.out:=by rw [want];split<;>exact fun h=>nomatch h
theorem nS {r:List Tok}:eQ r≠.out:=by
 rw [eQ];refine aQ ?_ fun t r _=>?_
 ·rw [iV.eq_def];split
  ·exact fun h=>nomatch h
  ·split<;>exact fun h=>nomatch h
 ·split<;>exact fun h=>nomatch h
structure NE (n:Nat):Prop where
 qC:∀r,6 * r.length+1<=n->jx n r≠.out
 call:∀s r,6 * r.length+1<=n->gR n s r≠.out
 args:∀r,6 * r.length+1<=n->gw n r≠.out
 sZ:∀r,6 * r.length+1<=n->dR n r≠.out
 prod:∀r,6 * r.length+2<=n->iH n r≠.out
 rj:∀l r,6 * r.length+1<=n->eK n l r≠.out
 sum:∀r,6 * r.length+3<=n->nE n r≠.out
 sumT:∀l r,6 * r.length+1<=n->fF n l r≠.out
 expr:∀r,6 * r.length+4<=n->dL n r≠.out
theorem ne:∀n,NE n
 | 0=>⟨fun _ h=>by omega,fun _ _ h=>by omega,fun _ h=>by omega,fun _ h=>by omega,fun _ h=>by omega,fun _ _ h=>by omega,fun _ h=>by omega,fun _ _ h=>by omega,fun _ h=>by omega⟩
 | n+1=>by
  have ih:=ne n;have se:=eM n;refine ⟨?_,?_,?_,?_,?_,?_,?_,?_,?_⟩
  ·intro r hr
   rw [jx]
   split
   ·rename_i hh
    have:=(Suf.hd hh (by simp)).len;exact aQ (ih.expr _ (by omega)) fun e r1 h1=>aQ i7 fun _ _ _=>dw
   ·split
    ·exact dw
    ·refine aQ nS fun s r1 h1=>?_
     have:=(Suf.name h1).len
     split
     ·exact aQ (ih.call _ _ (by omega)) fun _ _ _=>dw
     ·exact dw
  ·intro s r hr
   rw [gR];refine aQ i7 fun _ r1 h1=>aQ nS fun v r2 h2=>aQ (ih.args _ ?_) fun _ _ _=>dw;have:=(Suf.want (by simp) h1).len;have:=(Suf.name h2).len;omega
  ·intro r hr
   rw [gw];refine aQ i7 fun _ r1 h1=>?_;have:=(Suf.want (by simp) h1).len
   split
   ·exact dw
   ·refine aQ (ih.expr _ (by omega)) fun e r2 h2=>aQ (ih.sZ _ ?_) fun _ _ _=>dw
    have:=(se.expr _ _ _ h2).len;omega
  ·intro r hr
   rw [dR]
   split
   ·rename_i hh
    have:=(Suf.hd hh (by simp)).len;refine aQ (ih.expr _ (by omega)) fun e r2 h2=>aQ (ih.sZ _ ?_) fun _ _ _=>dw;have:=(se.expr _ _ _ h2).len;omega
   ·exact aQ i7 fun _ _ _=>dw
  ·intro r hr
   rw [iH];refine aQ (ih.qC _ (by omega)) fun e r2 h2=>ih.rj _ _ ?_;have:=(se.qC _ _ _ h2).len;omega
  ·intro l r hr
   rw [eK]
   split
   ·rename_i hh
    have:=(Suf.hd hh (by simp)).len;refine aQ (ih.qC _ (by omega)) fun e r2 h2=>ih.rj _ _ ?_;have:=(se.qC _ _ _ h2).len;omega
   ·exact dw
  ·intro r hr
   rw [nE];refine aQ (ih.prod _ (by omega)) fun e r2 h2=>ih.sumT _ _ ?_;have:=(se.prod _ _ _ h2).len;omega
  ·intro l r hr
   rw [fF]
   split
   ·rename_i hh
    have:=(Suf.hd hh (by simp)).len;refine aQ (ih.prod _ (by omega)) fun e r2 h2=>ih.sumT _ _ ?_;have:=(se.prod _ _ _ h2).len;omega
   ·split
    ·rename_i hh
     have:=(Suf.hd hh (by simp)).len;refine aQ (ih.prod _ (by omega)) fun e r2 h2=>ih.sumT _ _ ?_;have:=(se.prod _ _ _ h2).len;omega
    ·exact dw
  ·intro r hr
   rw [dL];refine aQ (ih.sum _ (by omega)) fun e r2 h2=>?_;have:=(se.sum _ _ _ h2).len
   split
   ·rename_i hh
    have:=(Suf.hd hh (by simp)).len;exact aQ (ih.sum _ (by omega)) fun _ _ _=>dw
   ·split
    ·rename_i hh
     have:=(Suf.hd hh (by simp)).len;exact aQ (ih.sum _ (by omega)) fun _ _ _=>dw
    ·exact dw
theorem E8 (n:Nat) (to:Str) (r:List Tok) (hr:6 * r.length+1<=n):gj n to r≠.out:=by
 rw [gj];have key:∀(x:R Bool),x≠.out->(∀b r1,x = .ok b r1->r1.length<=r.length)->x.bind (fun par r=>(eQ r).bind fun f r=>(gw n r).bind fun ar r=>if par=true/\ar.length≠2 then R.bad else R.ok (Stm.task par to f ar) r)≠.out:=by
  intro x hx hl;refine aQ hx fun b r1 h1=>aQ nS fun f r2 h2=>aQ ((ne n).args _ ?_) fun ar r3 _=>?_
  ·have:=hl _ _ h1
   have:=(Suf.name h2).len;omega
  ·split<;>exact fun h=>nomatch h
 refine key _ ?_ ?_
 ·split
  ·exact dw
  ·exact aQ i7 fun _ _ _=>dw
 ·intro b r1 h
  split at h
  ·injection h with _ h
   rw [<- h];simp
  ·obtain ⟨_,r2,h2,h3⟩:=bind_ok.1 h
   injection h3 with _ h3
   subst h3;have:=(Suf.want (by decide) h2).len;omega
theorem JI (n:Nat) (r:List Tok) (hr:6 * r.length+4<=n):iu n r≠.out:=by
 rw [iu];have ih:=ne n
 split
 ·exact E8 n _ _ (by omega)
 ·split
  ·exact dw
  ·split
   ·exact aQ (ih.expr _ (by simp;omega)) fun _ _ _=>dw
   ·split
    ·exact aQ (ih.expr _ (by simp;omega)) fun _ _ _=>dw
    ·refine aQ nS fun s r1 h1=>?_
     have:=(Suf.name h1).len
     split
     ·exact aQ (ih.call _ _ (by omega)) fun _ _ _=>dw
     ·refine aQ i7 fun _ r2 h2=>?_
      have:=(Suf.want (by decide) h2).len
      split
      ·exact E8 n _ _ (by omega)
      ·exact aQ (ih.expr _ (by omega)) fun _ _ _=>dw
structure NS (n:Nat):Prop where
 stmt:∀r,6 * r.length+5<=n->jy n r≠.out
 block:∀r,6 * r.length+5<=n->dr n r≠.out
 stmts:∀r,6 * r.length+6<=n->dS n r≠.out
theorem ns_:∀n,NS n
 | 0=>⟨fun _ h=>by omega,fun _ h=>by omega,fun _ h=>by omega⟩
 | n+1=>by
  have ih:=ns_ n;have se:=eM n;have ss:=s4 n;refine ⟨?_,?_,?_⟩
  ·intro r hr
   rw [jy]
   split
   ·rename_i hh
    have:=(Suf.hd hh (by decide)).len;refine aQ ((ne n).expr _ (by omega)) fun e r1 h1=>?_;have:=(se.expr _ _ _ h1).len;refine aQ (ih.block _ (by omega)) fun a r2 h2=>?_;have:=(ss.block _ _ _ h2).len
    split
    ·exact aQ (ih.block _ (by simp;omega)) fun _ _ _=>dw
    ·exact dw
   ·split
    ·rename_i hh
     have:=(Suf.hd hh (by decide)).len;refine aQ ((ne n).expr _ (by omega)) fun e r1 h1=>?_;have:=(se.expr _ _ _ h1).len;exact aQ (ih.block _ (by omega)) fun a r2 h2=>dw
    ·exact aQ (JI n _ (by omega)) fun _ _ _=>aQ i7 fun _ _ _=>dw
  ·intro r hr
   rw [dr];refine aQ i7 fun _ r1 h1=>ih.stmts _ ?_;have:=(Suf.want (by decide) h1).len;omega
  ·intro r hr
   rw [dS]
   split
   ·exact dw
   ·refine aQ (ih.stmt _ (by omega)) fun s r1 h1=>?_
    have:=(ss.stmt _ _ _ h1).len;have:=s.ji;exact aQ (ih.stmts _ (by omega)) fun _ _ _=>dw
theorem BG:∀n r,r.length+1<=n->cG n r≠.out
 | 0,_,h=>by omega
 | n+1,r,hr=>by
  rw [cG]
  split
  ·rename_i hh
   have:=(Suf.hd hh (by simp)).len;refine aQ nS fun s r1 h1=>aQ (BG n _ ?_) fun _ _ _=>dw;have:=(Suf.name h1).len;omega
  ·exact aQ i7 fun _ _ _=>dw
theorem LX (n:Nat) (r:List Tok) (hr:r.length+1<=n):jO n r≠.out:=by
 rw [jO];refine aQ i7 fun _ r1 h1=>?_;have:=(Suf.want (by decide) h1).len
 split
 ·exact dw
 ·refine aQ nS fun s r2 h2=>aQ (BG n _ ?_) fun _ _ _=>dw
  have:=(Suf.name h2).len;omega
theorem LY (n:Nat) (r:List Tok) (hr:6 * r.length+5<=n):rh n r≠.out:=by
 rw [rh];refine aQ i7 fun _ r1 h1=>aQ nS fun s r2 h2=>?_;have:=(Suf.want (by decide) h1).len;have:=(Suf.name h2).len;refine aQ (LX n _ (by omega)) fun l r3 h3=>aQ ((ns_ n).block _ ?_) fun _ _ _=>dw;have:=(sc n).len h3;omega
theorem IG (r:List Tok):ri r≠.out:=by
 rw [uT];have hw:∀k r,iV k r≠.out:=by
  intro k r;rw [iV.eq_def];split
  ·exact fun h=>nomatch h
  ·split<;>exact fun h=>nomatch h
 refine aQ (hw _ _) fun t r _=>?_;show s5 t.text r≠_;unfold s5
 cases kindOf t.text with
 | none=>exact fun h=>nomatch h
 | some k=>
  refine aQ nS fun s r _=>?_;have hz:∀(d:Dec) r,j9 [59] (eE d) r≠.out:=fun d r=>aQ i7 fun _ _ _=>dw;by_cases hk:k=0
  ·rw [if_pos hk]
   show (if hd r=[61] then _ else _)≠R.out
   split
   ·exact aQ (hw _ _) fun t r _=>hz _ _
   ·exact hz _ _
  ·rw [if_neg hk]
   exact hz _ _
end Uw.Tryz
namespace Uw.Tryz
open Go Uw
theorem up {α:Type} {d:Int} {p:Nat->List Tok->R α} (h:∀n,IsP d (p n) (p (n+1))) {n:Nat} {r:List Tok} (hn:p n r≠.out) (k:Nat):p (n+k) r=p n r:=by
 induction k with
 | zero=>rfl
 | succ k ih=>
  rcases (h (n+k)).le r with e|e
  ·rw [ih] at e;exact absurd e hn
  ·rw [<- Nat.add_assoc,<- e,ih]
theorem up' {α:Type} {d:Int} {p:Nat->List Tok->R α} (h:∀n,IsP d (p n) (p (n+1))) {n m:Nat} {r:List Tok} {a:α} {r' : List Tok} (hn:p n r = .ok a r') (hm:n<=m):p m r = .ok a r':=by
 obtain ⟨k,rfl⟩:=Nat.le.dest hm;rw [up h (by rw [hn];exact dw),hn]
def Reads {α:Type} (p:Nat->List Tok->R α) (r:List Tok) (a:α) (r' : List Tok):Prop:=∃n,p n r = .ok a r'
theorem Reads.at {α:Type} {d:Int} {p:Nat->List Tok->R α} (h:∀n,IsP d (p n) (p (n+1))) {r:List Tok} {a:α} {r1:List Tok} (h1:Reads p r a r1) {n:Nat} (hn:p n r≠.out):p n r = .ok a r1:=by
 obtain ⟨m,h1⟩:=h1;have e1:=up' h h1 (Nat.le_max_right n m);obtain ⟨k,hk⟩:=Nat.le.dest (Nat.le_max_left n m);rw [<- hk,up h hn] at e1;exact e1
theorem Dj {α β:Type} (a:β) (r:List Tok) (f:β->List Tok->R α):(R.ok a r).bind f=f a r:=rfl
inductive y9:List Tok->List Dec->List Tok->Prop
 | stop {r:List Tok}:r=[]\/hd r=nO->y9 r [] r
 | cons {r r' r'' : List Tok} {d:Dec} {ds:List Dec}:¬(r=[]\/hd r=nO)->ri r = .ok d r'->y9 r' ds r''->y9 r (d::ds) r''
inductive AH:List Tok->List Fn->Prop
 | nil:AH [] []
 | cons {r r' : List Tok} {f:Fn} {fs:List Fn}:Reads rh r f r'->AH r' fs->AH r (f::fs)
def Prg (l:List Tok) (ds:List Dec) (fs:List Fn):Prop:=∃r,y9 l ds r/\AH r fs
def wV (l:List Tok):Nat:=6 * l.length+6
def wX (l:List Tok):Option (List Dec×List Fn):=match uS (wV l) l with | .ok x _=>some x | .bad=>none | .out=>none
theorem sd:wa ri:=by
 intro r e r' h;rw [uT] at h;obtain ⟨t,r1,h1,h2⟩:=bind_ok.1 h;obtain ⟨q,rfl,rfl,_⟩:=ya h1;have:IsP 0 (s5 t.text) (s5 t.text):=by
  rw [s5]
  split
  ·exact .bad
  ·refine .name fun s=>?_
   split
   ·exact .skip (d:=0) (by decide) (.inl (by decide)) (.word (by decide) fun _ n=>.want (by decide) (.ret _) (by decide)) (.want (by decide) (.ret _) (by decide)) (by decide)
   ·exact .want (by decide) (.ret _) (by decide)
 have:=this.len h2;simp;omega
theorem E9 (n:Nat):wa (rh n):=by
 intro r e r' h;rw [rh] at h;obtain ⟨_,r1,h1,h⟩:=bind_ok.1 h;obtain ⟨s,r2,h2,h⟩:=bind_ok.1 h;obtain ⟨l,r3,h3,h⟩:=bind_ok.1 h;obtain ⟨b,r4,h4,h⟩:=bind_ok.1 h;injection h with _ h
 have:=(Suf.want (by decide) h1).len;have:=(Suf.name h2).len;have:=(sc n).len h3;have:=(ps n).block.len h4;rw [<- h];omega
theorem y9.len {r r' : List Tok} {ds:List Dec} (h:y9 r ds r'):r'.length+ds.length<=r.length:=by
 induction h with
 | stop _=>simp
 | cons _ h1 _ ih=>
  have:=sd _ _ _ h1;simp;omega
theorem y9.at {r r' : List Tok} {ds:List Dec} (h:y9 r ds r'):∀n,r.length+1<=n->fw n r = .ok ds r':=by
 induction h with
 | stop h=>
  intro n hn
  cases n with
  | zero=>omega
  | succ n=>rw [fw,if_pos h]
 | cons h h1 h2 ih=>
  intro n hn
  cases n with
  | zero=>omega
  | succ n=>
   have:=sd _ _ _ h1;rw [fw,if_neg h,h1,Dj,ih n (by omega)];rfl
theorem AH.at {r:List Tok} {fs:List Fn} (h:AH r fs):∀n,6 * r.length+6<=n->gx n r = .ok fs []:=by
 induction h with
 | nil=>
  intro n hn
  cases n with
  | zero=>omega
  | succ n=>rw [gx,if_pos rfl]
 | cons h h2 ih=>
  rename_i r r' f fs;intro n hn
  cases n with
  | zero=>omega
  | succ n=>
   have h1:=h.at OT (LY n r (by omega));have:=E9 _ _ _ _ h1;rw [gx,if_neg (by rintro rfl;simp at this),h1,Dj,ih n (by omega)];rfl
theorem Prg.at {l:List Tok} {ds:List Dec} {fs:List Fn} (h:Prg l ds fs):wX l=some (ds,fs):=by
 obtain ⟨r,h1,h2⟩:=h;have:=h1.len;rw [wX,uS,h1.at _ (by rw [wV];omega),Dj,h2.at _ (by rw [wV];omega)];rfl
theorem za:∀(n:Nat) {r r' : List Tok} {ds:List Dec},fw n r = .ok ds r'->y9 r ds r'
 | 0,_,_,_,h=>by rw [fw] at h;cases h
 | n+1,r,r',ds,h=>by
  rw [fw] at h
  split at h
  ·rename_i hh
   injection h with h1 h2
   subst h1 h2;exact .stop hh
  ·rename_i hh
   obtain ⟨d,r1,h1,h⟩:=bind_ok.1 h;obtain ⟨l,r2,h2,h⟩:=bind_ok.1 h;injection h with h3 h4
   subst h3 h4;exact .cons hh h1 (za n h2)
theorem IH:∀(n:Nat) {r r' : List Tok} {fs:List Fn},gx n r = .ok fs r'->AH r fs/\r' = []
 | 0,_,_,_,h=>by rw [gx] at h;cases h
 | n+1,r,r',fs,h=>by
  rw [gx] at h
  split at h
  ·rename_i hh
   injection h with h1 h2
   subst h1 h2 hh;exact ⟨.nil,rfl⟩
  ·rename_i hh
   obtain ⟨d,r1,h1,h⟩:=bind_ok.1 h;obtain ⟨l,r2,h2,h⟩:=bind_ok.1 h;injection h with h3 h4
   subst h3 h4;obtain ⟨h5,h6⟩:=IH n h2;exact ⟨.cons ⟨n,h1⟩ h5,h6⟩
theorem II {n:Nat} {l r' : List Tok} {ds:List Dec} {fs:List Fn} (h:uS n l = .ok (ds,fs) r'):Prg l ds fs:=by
 rw [uS] at h;obtain ⟨d,r1,h1,h⟩:=bind_ok.1 h;obtain ⟨f,r2,h2,h⟩:=bind_ok.1 h;injection h with h3 h4
 injection h3 with h3 h5
 subst h3 h5;exact ⟨r1,za _ h1,(IH _ h2).1⟩
theorem JJ {l:List Tok} {ds:List Dec} {fs:List Fn}:wX l=some (ds,fs)<->Prg l ds fs:=by
 refine ⟨fun h=>?_,Prg.at⟩;rw [wX] at h
 split at h
 ·rename_i x r e
  injection h with h
  subst h;exact II e
 ·cases h
 ·cases h
theorem Fj:∀n r,r.length+1<=n->fw n r≠.out
 | 0,_,h=>by omega
 | n+1,r,hn=>by
  rw [fw]
  split
  ·exact dw
  ·refine aQ (IG r) fun d r1 h1=>aQ (Fj n _ ?_) fun _ _ _=>dw
   have:=sd _ _ _ h1;omega
theorem IJ:∀n r,6 * r.length+6<=n->gx n r≠.out
 | 0,_,h=>by omega
 | n+1,r,hn=>by
  rw [gx]
  split
  ·exact dw
  ·refine aQ (LY n r (by omega)) fun d r1 h1=>aQ (IJ n _ ?_) fun _ _ _=>dw
   have:=E9 _ _ _ _ h1;omega
theorem OU (l:List Tok):uS (wV l) l≠.out:=by
 rw [uS];refine aQ (Fj _ _ (by rw [wV];omega)) fun d r h1=>aQ (IJ _ _ ?_) fun _ _ _=>dw;have:=(za _ h1).len;rw [wV];omega
end Uw.Tryz
namespace Uw.Tryz
open Go Uw
structure Nd where
 kind:Int
 n:Int
 name:Str
 name2:Str
 of:List Int
 deriving DecidableEq,Inhabited
structure Fu where
 name:Str
 args:List Str
 body:Int
 deriving DecidableEq,Inhabited
structure Pg where
 decls:List Dec
 ae:List Fu
 nodes:List Nd
 deriving DecidableEq,Inhabited
def bT (l:List Int):Dat:=.slice 1 (l.map fun i=>[I i]) false
def fY (l:List Str):Dat:=.slice 1 (l.map fun s=>[.str s]) false
def cI (d:Dec):List Dat:=[I d.kind,.str d.name,I d.n]
def fuL (f:Fu):List Dat:=[.str f.name,fY f.args,I f.body]
def ndL (x:Nd):List Dat:=[I x.kind,I x.n,.str x.name,.str x.name2,bT x.of]
def pgD (p:Pg):Dat:=.agg [.slice 3 (p.decls.map cI) false,.slice 3 (p.ae.map fuL) false,.slice 5 (p.nodes.map ndL) false]
def Nod.nd (x:Nod):Nd:=⟨x.kind,x.n,x.name,x.name2,x.of.map fun (i:Nat)=>(i:Int)⟩
def Fn.sz (f:Fn):Nat:=f.body.sz+1
def cC:List Fn->Nat->List Nod
 | [],_=>[]
 | f::fs,b=>f.body.all b++cC fs (b+f.sz)
def s6:List Fn->Nat->List Fu
 | [],_=>[]
 | f::fs,b=>⟨f.name,f.args,((b+f.body.sz:Nat):Int)⟩::s6 fs (b+f.sz)
def eU:List Fn->Nat
 | []=>0
 | f::fs=>f.sz+eU fs
theorem tW:∀(fs:List Fn) (b:Nat),(cC fs b).length=eU fs
 | [],_=>rfl
 | f::fs,b=>by simp [cC,eU,Bl.mc,tW fs,Fn.sz]
theorem wc:∀(fs:List Fn) (b:Nat),(s6 fs b).length=fs.length
 | [],_=>rfl
 | f::fs,b=>by simp [s6,wc fs]
theorem zb:∀(a c:List Fn) (b:Nat),cC (a++c) b=cC a b++cC c (b+eU a)
 | [],c,b=>by simp [cC,eU]
 | f::fs,c,b=>by simp [cC,eU,zb fs,Nat.add_assoc]
theorem BH:∀(a c:List Fn),eU (a++c)=eU a+eU c
 | [],c=>by simp [eU]
 | f::fs,c=>by simp [eU,BH fs,Nat.add_assoc]
def SE (x:List Dec×List Fn):Pg:=⟨x.1,s6 x.2 0,(cC x.2 0).map Nod.nd⟩
def AK:Pg:=⟨[],[],[]⟩
def mX:List Tok->Int->Int->Int
 | [],_,m=>m
 | t::r,d,m=>mX r (d+delta t.text) (max m (d+delta t.text))
def ofR (s:Str):Pg×Int:=
 if (fM s).2≠0 then (AK,(fM s).2)
 else if 40<mX (fM s).1 0 0 then (AK,2)
 else match wX (fM s).1 with
  | none=>(AK,3)
  | some x=>(SE x,0)
theorem cO (b x y:Nat):List.range' b (x+y)=List.range' b x++List.range' (b+x) y:=by
 rw [List.range'_append_1]
def ofs (l:List Nod):List Nat:=l.flatMap (·.of)
theorem eu (a b:List Nod):ofs (a++b)=ofs a++ofs b:=by simp [ofs]
theorem jP (x:Nod):ofs [x]=x.of:=by simp [ofs]
theorem range_one (b:Nat):List.range' b 1=[b]:=rfl
theorem pc {a b:List Nat} (h:a.Perm b) (i:Nat):a.count i=b.count i:=h.count_eq i
mutual
theorem Ex.perm:∀(e:Ex) (b:Nat),(ofs (e.flat b)++[b+e.sz - 1]).Perm (List.range' b e.sz)
 | .num _,b=>by simp [Ex.flat,Ex.sz,ofs]
 | .name _,b=>by simp [Ex.flat,Ex.sz,ofs]
 | .bin k x y,b=>by
  have h1:=fun i=>pc (x.perm b) i;have h2:=fun i=>pc (y.perm (b+x.sz)) i;refine List.perm_iff_count.2 fun i=>?_;have h1:=h1 i;have h2:=h2 i;rw [Ex.flat,Ex.sz,cO,cO,eu,eu,jP,range_one,show b+(x.sz+y.sz+1) - 1=b+(x.sz+y.sz) by omega];simp only [List.count_append,List.count_cons,List.count_nil] at *;omega
 | .call o v ar,b=>by
  have h1:=fun i=>pc (ar.perm b) i;refine List.perm_iff_count.2 fun i=>?_;have h1:=h1 i;rw [Ex.flat,Ex.sz,cO,eu,jP,range_one,show b+(ar.sz+1) - 1=b+ar.sz by omega];simp only [List.count_append,List.count_cons,List.count_nil] at *;omega
theorem Exs.perm:∀(e:Exs) (b:Nat),(ofs (e.flat b)++e.places b).Perm (List.range' b e.sz)
 | .nil,b=>by simp [Exs.flat,Exs.sz,ofs,Exs.places]
 | .cons e r,b=>by
  have h1:=fun i=>pc (e.perm b) i;have h2:=fun i=>pc (r.perm (b+e.sz)) i;refine List.perm_iff_count.2 fun i=>?_;have h1:=h1 i;have h2:=h2 i;rw [Exs.flat,Exs.sz,Exs.places,cO,eu];simp only [List.count_append,List.count_cons,List.count_nil] at *;omega
end
theorem Bl.rl (x:Bl) (b:Nat) (h:(ofs (x.flat b)++x.places b).Perm (List.range' b x.sz)):(ofs (x.all b)++[b+x.sz]).Perm (List.range' b (x.sz+1)):=by
 rw [Bl.all,eu,jP,cO,range_one];exact h.append_right _
mutual
theorem Stm.perm:∀(e:Stm) (b:Nat),(ofs (e.flat b)++[b+e.sz - 1]).Perm (List.range' b e.sz)
 | .set s e,b=>by
  refine List.perm_iff_count.2 fun i=>?_;have h1:=pc (e.perm b) i;rw [Stm.flat,Stm.sz,cO,eu,jP,range_one,show b+(e.sz+1) - 1=b+e.sz by omega];simp only [List.count_append,List.count_cons,List.count_nil] at *;omega
 | .task par to f ar,b=>by
  refine List.perm_iff_count.2 fun i=>?_;have h1:=pc (ar.perm b) i;rw [Stm.flat,Stm.sz,cO,eu,jP,range_one,show b+(ar.sz+1) - 1=b+ar.sz by omega];simp only [List.count_append,List.count_cons,List.count_nil] at *;omega
 | .sync,b=>by simp [Stm.flat,Stm.sz,ofs]
 | .if1 e x,b=>by
  refine List.perm_iff_count.2 fun i=>?_;have h1:=pc (e.perm b) i;have h2:=pc (x.rl (b+e.sz) (x.perm _)) i;rw [show Stm.flat (.if1 e x) b=e.flat b++x.all (b+e.sz)++[⟨13,0,[],[],[b+e.sz - 1,b+e.sz+(x.sz+1) - 1]⟩] from rfl,Stm.sz,cO,cO,eu,eu,jP,range_one,show b+(e.sz+(x.sz+1)+1) - 1=b+(e.sz+(x.sz+1)) by omega,show b+e.sz+(x.sz+1) - 1=b+e.sz+x.sz by omega];simp only [List.count_append,List.count_cons,List.count_nil] at *;omega
 | .if2 e x y,b=>by
  refine List.perm_iff_count.2 fun i=>?_;have h1:=pc (e.perm b) i;have h2:=pc (x.rl (b+e.sz) (x.perm _)) i;have h3:=pc (y.rl (b+e.sz+(x.sz+1)) (y.perm _)) i;rw [show Stm.flat (.if2 e x y) b=e.flat b++x.all (b+e.sz)++y.all (b+e.sz+(x.sz+1))++[⟨13,0,[],[],[b+e.sz - 1,b+e.sz+(x.sz+1) - 1,b+e.sz+(x.sz+1)+(y.sz+1) - 1]⟩] from rfl,Stm.sz,cO,cO,cO,eu,eu,eu,jP,range_one,show b+(e.sz+(x.sz+1)+(y.sz+1)+1) - 1=b+(e.sz+(x.sz+1)+(y.sz+1)) by omega,show b+e.sz+(x.sz+1) - 1=b+e.sz+x.sz by omega,show b+e.sz+(x.sz+1)+(y.sz+1) - 1=b+e.sz+(x.sz+1)+y.sz by omega,show b+(e.sz+(x.sz+1))=b+e.sz+(x.sz+1) by omega];simp only [List.count_append,List.count_cons,List.count_nil] at *;omega
 | .loop e x,b=>by
  refine List.perm_iff_count.2 fun i=>?_;have h1:=pc (e.perm b) i;have h2:=pc (x.rl (b+e.sz) (x.perm _)) i;rw [show Stm.flat (.loop e x) b=e.flat b++x.all (b+e.sz)++[⟨14,0,[],[],[b+e.sz - 1,b+e.sz+(x.sz+1) - 1]⟩] from rfl,Stm.sz,cO,cO,eu,eu,jP,range_one,show b+(e.sz+(x.sz+1)+1) - 1=b+(e.sz+(x.sz+1)) by omega,show b+e.sz+(x.sz+1) - 1=b+e.sz+x.sz by omega];simp only [List.count_append,List.count_cons,List.count_nil] at *;omega
 | .one k e,b=>by
  refine List.perm_iff_count.2 fun i=>?_;have h1:=pc (e.perm b) i;rw [Stm.flat,Stm.sz,cO,eu,jP,range_one,show b+(e.sz+1) - 1=b+e.sz by omega];simp only [List.count_append,List.count_cons,List.count_nil] at *;omega
 | .act o v ar,b=>by
  refine List.perm_iff_count.2 fun i=>?_;have h1:=pc (ar.perm b) i;rw [Stm.flat,Stm.sz,cO,cO,eu,eu,jP,jP,range_one,range_one,show b+ar.sz+1 - 1=b+ar.sz by omega,show b+(ar.sz+1+1) - 1=b+(ar.sz+1) by omega];simp only [List.count_append,List.count_cons,List.count_nil] at *;omega
theorem Bl.perm:∀(e:Bl) (b:Nat),(ofs (e.flat b)++e.places b).Perm (List.range' b e.sz)
 | .nil,b=>by simp [Bl.flat,Bl.sz,ofs,Bl.places]
 | .cons e r,b=>by
  refine List.perm_iff_count.2 fun i=>?_;have h1:=pc (e.perm b) i;have h2:=pc (r.perm (b+e.sz)) i;rw [Bl.flat,Bl.sz,Bl.places,cO,eu];simp only [List.count_append,List.count_cons,List.count_nil] at *;omega
end
def bodies:List Fn->Nat->List Nat
 | [],_=>[]
 | f::fs,b=>(b+f.body.sz)::bodies fs (b+f.sz)
theorem wY:∀(fs:List Fn) (b:Nat),(ofs (cC fs b)++bodies fs b).Perm (List.range' b (eU fs))
 | [],b=>by simp [cC,eU,ofs,bodies]
 | f::fs,b=>by
  refine List.perm_iff_count.2 fun i=>?_;have h1:=pc (f.body.rl b (f.body.perm b)) i;have h2:=pc (wY fs (b+f.sz)) i;rw [cC,eU,bodies,cO,eu];rw [<- Fn.sz] at h1;simp only [List.count_append,List.count_cons,List.count_nil] at *;omega
def Low (b:Nat):List Nod->Prop
 | []=>True
 | x::r=>(∀c∈x.of,c<b)/\Low (b+1) r
theorem Low.app:∀{x y:List Nod} {b:Nat},Low b x->Low (b+x.length) y->Low b (x++y)
 | [],y,b,_,h=>h
 | a::x,y,b,⟨h1,h2⟩,h=>⟨h1,h2.app (by rw [List.length_cons] at h;rwa [show b+1+x.length=b+(x.length+1) by omega])⟩
theorem Low.at:∀{x:List Nod} {b:Nat},Low b x->∀(j:Nat) (h:j<x.length),∀c∈x[j].of,c<b+j
 | [],_,_,j,h=>by simp at h
 | a::x,b,⟨h1,h2⟩,0,_=>h1
 | a::x,b,⟨h1,h2⟩,j+1,h=>by
  intro c hc;have:=h2.at j (by simpa using h) c hc;omega
theorem Low.one {b:Nat} {x:Nod} (h:∀c∈x.of,c<b):Low b [x]:=⟨h,trivial⟩
theorem Exs.ko:∀(e:Exs) (b:Nat),∀c∈e.places b,c<b+e.sz
 | .nil,_,c,h=>by simp [Exs.places] at h
 | .cons e r,b,c,h=>by
  rw [Exs.places] at h;have:=e.ji
  rcases List.mem_cons.1 h with rfl|h
  ·rw [Exs.sz];omega
  ·have:=r.ko _ c h
   rw [Exs.sz];omega
theorem Bl.ko:∀(e:Bl) (b:Nat),∀c∈e.places b,c<b+e.sz
 | .nil,_,c,h=>by simp [Bl.places] at h
 | .cons e r,b,c,h=>by
  rw [Bl.places] at h;have:=e.ji
  rcases List.mem_cons.1 h with rfl|h
  ·rw [Bl.sz];omega
  ·have:=r.ko _ c h
   rw [Bl.sz];omega
mutual
theorem Ex.low:∀(e:Ex) (b:Nat),Low b (e.flat b)
 | .num _,b=>⟨by simp,trivial⟩
 | .name _,b=>⟨by simp,trivial⟩
 | .bin k x y,b=>by
  have:=x.ji;have:=y.ji;exact ((x.low b).app (by rw [Ex.aB];exact y.low _)).app (Low.one (by simp [Ex.aB];omega))
 | .call o v ar,b=>(ar.low b).app (Low.one (by rw [Exs.aB];exact ar.ko b))
theorem Exs.low:∀(e:Exs) (b:Nat),Low b (e.flat b)
 | .nil,b=>trivial
 | .cons e r,b=>(e.low b).app (by rw [Ex.aB];exact r.low _)
end
theorem Bl.yc {x:Bl} {b:Nat} (h:Low b (x.flat b)):Low b (x.all b):=h.app (Low.one (by rw [Bl.aB];exact x.ko b))
mutual
theorem Stm.low:∀(e:Stm) (b:Nat),Low b (e.flat b)
 | .set s e,b=>(e.low b).app (Low.one (by have:=e.ji;simp [Ex.aB];omega))
 | .task par to f ar,b=>(ar.low b).app (Low.one (by rw [Exs.aB];exact ar.ko b))
 | .sync,b=>⟨by simp,trivial⟩
 | .if1 e x,b=>by
  have:=e.ji;exact ((e.low b).app (by rw [Ex.aB];exact Bl.yc (x.low _))).app (Low.one (by simp [Ex.aB,Bl.aB];omega))
 | .if2 e x y,b=>by
  have:=e.ji;exact (((e.low b).app (by rw [Ex.aB];exact Bl.yc (x.low _))).app (by
   rw [List.length_append,Ex.aB,show (x.flat (b+e.sz)++[(⟨18,0,[],[],x.places (b+e.sz)⟩:Nod)]).length=x.sz+1 from x.mc _,<- Nat.add_assoc];exact Bl.yc (y.low _))).app (Low.one (by simp [Ex.aB,Bl.aB];omega))
 | .loop e x,b=>by
  have:=e.ji;exact ((e.low b).app (by rw [Ex.aB];exact Bl.yc (x.low _))).app (Low.one (by simp [Ex.aB,Bl.aB];omega))
 | .one k e,b=>(e.low b).app (Low.one (by have:=e.ji;simp [Ex.aB];omega))
 | .act o v ar,b=>((ar.low b).app (Low.one (by rw [Exs.aB];exact ar.ko b))).app (Low.one (by simp [Exs.aB]))
theorem Bl.low:∀(e:Bl) (b:Nat),Low b (e.flat b)
 | .nil,b=>trivial
 | .cons e r,b=>(e.low b).app (by rw [Stm.aB];exact r.low _)
end
end Uw.Tryz
namespace Uw.Tryz
open Go Uw
def cU (k:Int):Int:=if 1<=k/\k<=8 then 1 else if 9<=k/\k<=17 then 2 else if k=18 then 3 else 0
def cq (ns:List Nd) (i:Int):Int:=(ns.getD i.toNat default).kind
def dx (ns:List Nd) (x:Nd):List Int:=x.of.map fun k=>cU (cq ns k)
def dy (k n:Int) (so:List Int) (k0:Int):Bool:=
 if k=1 then decide (so=[])&&decide (0<=n)&&decide (n<4294967296)
 else if k=2\/k=12 then decide (so=[])
 else if k=3\/k=4\/k=5\/k=6\/k=7\/k=11 then decide (so=[1,1])
 else if k=8\/k=10 then so.all fun s=>decide (s=1)
 else if k=9\/k=15\/k=16 then decide (so=[1])
 else if k=17 then decide (so=[1])&&decide (k0=8)
 else if k=13 then decide (so=[1,3])||decide (so=[1,3,3])
 else if k=14 then decide (so=[1,3])
 else if k=18 then so.all fun s=>decide (s=2)
 else false
def ew (ns:List Nd) (x:Nd):Bool:=dy x.kind x.n (dx ns x) (cq ns (x.of.headD 0))
def rn (ns:List Nd) (i:Nat) (x:Nd):Bool:=(x.of.all fun k=>decide (0<=k)&&decide (k<i))&&ew ns x
def jQ (ns:List Nd):Nat->List Nd->Bool
 | _,[]=>true
 | i,x::r=>rn ns i x&&jQ ns (i+1) r
def mY (ns:List Nd) (f:Fu):Bool:=decide (0<=f.body)&&decide (f.body<ns.length)&&decide (cq ns f.body=18)
def iW (p:Pg):List Int:=(p.nodes.flatMap (·.of))++p.ae.map (·.body)
def bE (p:Pg):Bool:=jQ p.nodes 0 p.nodes&&p.ae.all (mY p.nodes)&&(List.range p.nodes.length).all fun k=>decide ((iW p).count (k:Int)=1)
def bp (p:Pg) (s:Str):Option Int:=(p.decls.find? fun d=>decide (d.name=s)).map (·.kind)
def dD (p:Pg) (s:Str):Option Nat:=p.ae.findIdx? fun f=>decide (f.name=s)
def rp:List Fu->Nat->List Int->List Int
 | [],_,o=>o
 | f::fs,i,o=>rp fs (i+1) (o.set f.body.toNat i)
def ix (o:List Int) (i:Nat) (x:Nd):List Int:=x.of.foldl (fun o k=>o.set k.toNat (o.getD i 0)) o
def fN:List (Nat×Nd)->List Int->List Int
 | [],o=>o
 | (i,x)::r,o=>fN r (ix o i x)
def idx {α:Type}:Nat->List α->List (Nat×α)
 | _,[]=>[]
 | i,x::r=>(i,x)::idx (i+1) r
def aU (p:Pg):List Int:=fN (idx 0 p.nodes).reverse (rp p.ae 0 (List.replicate p.nodes.length 0))
def jl (p:Pg) (x:Nd):Bool:=(decide (x.kind=9)||decide (x.kind=10)||decide (x.kind=11))&&!decide (x.name=[])&&(bp p x.name).isNone
def addLocal (ls:List (List Str)) (f:Nat) (s:Str):List (List Str):=if s∈ls.getD f [] then ls else ls.set f (ls.getD f []++[s])
def ei (p:Pg):List (Nd×Int)->List (List Str)->List (List Str)
 | [],ls=>ls
 | (x,o)::r,ls=>ei p r (if jl p x then addLocal ls o.toNat x.name else ls)
def ao (p:Pg):List (List Str):=ei p (p.nodes.zip (aU p)) (p.ae.map (·.args))
def iY (p:Pg) (f:Int):List Str:=if f<0\/(p.ae.length:Int)<=f\/bE p=false then [] else (ao p).getD f.toNat []
def LZ:Str:=[103,101,116]
def L0:Str:=[100,101,108]
def L1:Str:=[112,117,116]
def Fo:Str:=[112,117,115,104]
def L2:Str:=[112,111,112]
def Fp:Str:=[115,101,110,100]
def Fq:Str:=[114,101,99,118]
def gy:Str:=[109,97,105,110]
def fx (k:Int) (s:Str):Option Int:=
 if k=1 then (if s=LZ\/s=L0 then some 1 else if s=L1 then some 2 else none)
 else if k=2 then (if s=Fo then some 1 else if s=L2 then some 0 else none)
 else if k=3 then (if s=Fp then some 1 else if s=Fq then some 0 else none)
 else none
def gk (p:Pg):Bool:=
 decide (16<p.ae.length)||decide (16<(p.decls.countP fun d=>decide (d.kind=0)))||decide (8<(p.decls.countP fun d=>decide (d.kind=1)))||decide (8<(p.decls.countP fun d=>decide (d.kind=2)))||decide (8<(p.decls.countP fun d=>decide (d.kind=3)))
 ||((ao p).any fun l=>decide (16<l.length))||(p.nodes.any fun x=>decide (x.kind=10)&&decide (16<x.of.length))
def rq (p:Pg):List Str->List Str->Bool
 | _,[]=>false
 | seen,a::r=>(bp p a).isSome||decide (a∈seen)||rq p (a::seen) r
def iK (p:Pg):Bool:=!decide ((p.decls.map (·.name)).Nodup)||!decide ((p.ae.map (·.name)).Nodup)||(p.ae.any fun f=>rq p [] f.args)
def nT (p:Pg) (x:Nd) (o:Int):Bool:=
 if x.kind=10\/x.kind=11 then (dD p x.name2).isNone
 else if x.kind=8 then (bp p x.name).isNone
 else if x.kind=2 then (bp p x.name).isNone&&!decide (x.name∈(ao p).getD o.toNat [])
 else false
def nameP (p:Pg):Bool:=(dD p gy).isNone||((p.nodes.zip (aU p)).any fun y=>nT p y.1 y.2)||(p.decls.any fun d=>decide (d.kind<0)||decide (3<d.kind))
def mZ (p:Pg) (x:Nd):Bool:=
 if x.kind=2\/x.kind=9 then (match bp p x.name with|some k=>!decide (k=0)|none=>false)
 else if x.kind=10\/x.kind=11 then (bp p x.name).isSome
 else if x.kind=8 then (fx ((bp p x.name).getD 0) x.name2).isNone
 else false
def o9 (p:Pg):Bool:=p.nodes.any (mZ p)
def argsAt (p:Pg) (s:Str):Nat:=(p.ae.getD ((dD p s).getD 0) default).args.length
def manyN (p:Pg) (x:Nd):Bool:=
 if x.kind=10 then !decide (x.of.length=argsAt p x.name2)
 else if x.kind=11 then !decide (argsAt p x.name2=1)
 else if x.kind=8 then !decide ((x.of.length:Int)=(fx ((bp p x.name).getD 0) x.name2).getD 0)
 else false
def lJ (p:Pg):Bool:=decide (0<argsAt p gy)||p.nodes.any (manyN p)
def m3 (p:Pg):Int:=if bE p=false then 1 else if gk p then 2 else if iK p then 5 else if nameP p then 4 else if o9 p then 6 else if lJ p then 7 else 0
end Uw.Tryz
