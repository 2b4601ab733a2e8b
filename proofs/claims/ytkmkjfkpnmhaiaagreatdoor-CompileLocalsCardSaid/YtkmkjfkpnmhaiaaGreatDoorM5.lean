/- M5: Sa Xa Pa Pa2 Pa3 Pt Pu Pv Pw Ca (merged by merge2.py from the working texts). -/
import Derived.Test.YtkmkjfkpnmhaiaaGreatDoorM3
import Derived.Test.YtkmkjfkpnmhaiaaGreatDoorProg
import Derived.Lib.LaidTab
import Derived.LaidSub
import Derived.MakeChecks
import Derived.Lib.ItoaNum
import Derived.KernelRfl
import Derived.Lib.Join
set_option linter.unusedSimpArgs false
set_option linter.unnecessarySimpa false
set_option linter.unusedVariables false
set_option linter.unusedSectionVars false
namespace Uw.Tryz
open Go Uw
noncomputable abbrev P0:Program:=Go.Proofs.Tryz.prog
theorem UW:P0.globalNamed "internal/strconv.uint64pow10" = some 1:=by kernel_rfl
noncomputable instance glob:Glob where
 n:=1+1
 p:=fun w=>Lib.TabIs P0 w "internal/strconv.uint64pow10" .u64 Lib.pow10Tab
 ok:=by
  intro w w' h hp;unfold Lib.TabIs World.var? at *;rw [UW] at hp ⊢;simp only [Option.bind_some] at hp ⊢;rw [h 1 (by decide)];exact hp
theorem gok {W:World} {l:List (String×DataW Unit)} (h:laidMetH P0 l W) (hl:(l.filter fun x=>x.1 == "internal/strconv.uint64pow10")=[("internal/strconv.uint64pow10",Lib.tabData .u64 Lib.pow10Tab)]) {t e:TypeId} (hty:(P0.globals[1]?).map (·.type)=some t) (ht:P0.underlying t=some (.array 20 e)) (he:P0.underlying e=some (.int .u64)) (hce:P0.cellsOf e=1) (hct:P0.cellsOf t=20):GOk W.heap.size W:=by
 have h1:=laidMetH.filter (fun x=>x.1 == "internal/strconv.uint64pow10") h;rw [hl,MakeChecks.laidMetH_plain _ _ _ rfl] at h1;have h2:Lib.TabIs P0 W "internal/strconv.uint64pow10" .u64 Lib.pow10Tab:=Lib.tabIs_of_head UW hty ht he hce hct h1;refine ⟨YN _,?_,h2⟩;show 1+1<=W.heap.size;unfold Lib.TabIs World.var? at h2;rw [UW] at h2;simp only [Option.bind_some] at h2
 rcases Zg 1 W.heap.size with h3|h3
 ·exact h3
 ·rw [aai h3] at h2
  simp at h2
end Uw.Tryz
namespace Uw.Tryz
open Go Uw
abbrev I (n:Int):Dat:=.int .i64 n
structure Tok where
 kind:Int
 text:List UInt8
 n:Int
 at_:Int
 deriving DecidableEq,Inhabited
def rb (t:Tok):List Dat:=[I t.kind,.str t.text,I t.n,I t.at_]
def u7 (l:List Tok):Dat:=.slice 4 (l.map rb) false
def cls (c:UInt8):Nat:=
 if 97<=c.toNat/\c.toNat<=122\/65<=c.toNat/\c.toNat<=90 then 1
 else if 48<=c.toNat/\c.toNat<=57 then 2
 else if c.toNat=95 then 3
 else if c.toNat=9\/c.toNat=10\/c.toNat=32 then 4
 else if c.toNat=40\/c.toNat=41\/c.toNat=123\/c.toNat=125\/c.toNat=44\/c.toNat=59\/c.toNat=46\/c.toNat=61\/c.toNat=43\/c.toNat=45\/c.toNat=42\/c.toNat=60 then 5
 else 0
def nameB (c:UInt8):Bool:=decide (cls c=1)||decide (cls c=2)||decide (cls c=3)
def fC (c:UInt8):Bool:=decide (cls c=2)
def qB (l:List UInt8):Nat:=l.foldl (fun n b=>10 * n+(b.toNat - 48)) 0
def Hr (r:List UInt8):Bool:=match r with|[]=>false|b::_=>decide (cls b=1)||decide (cls b=3)
def eqq (r:List UInt8):Bool:=match r with|[]=>false|b::_=>decide (b.toNat=61)
def bQ:List UInt8->Option (Int×Nat×Int)
 | []=>none
 | c::t=>
  if cls c=1 then (if 1+(t.takeWhile nameB).length<=12 then some (1,1+(t.takeWhile nameB).length,0) else none)
  else if cls c=2 then
   (if 1+(t.takeWhile fC).length<=10/\¬(1<1+(t.takeWhile fC).length/\c.toNat=48)/\qB (c::t.takeWhile fC)<4294967296/\Hr (t.dropWhile fC)=false
    then some (2,1+(t.takeWhile fC).length,(qB (c::t.takeWhile fC):Nat)) else none)
  else if cls c=5 then (if c.toNat=61/\eqq t=true then some (3,2,0) else some (3,1,0))
  else none
def oO:Nat->List UInt8->Int->Option (List Tok)
 | _,[],_=>some []
 | 0,_,_=>none
 | f+1,c::t,at_=>
  if cls c=4 then oO f t (at_+1)
  else match bQ (c::t) with
   | none=>none
   | some (k,n,v)=>(oO f ((c::t).drop n) (at_+n)).map (⟨k,(c::t).take n,v,at_⟩::·)
def oP (r:List UInt8) (at_:Int):Option (List Tok):=oO r.length r at_
theorem lS {α:Type} (p:α->Bool) (l:List α):(l.takeWhile p).length<=l.length:=(List.takeWhile_prefix (p:=p) (l:=l)).length_le
theorem mb {r:List UInt8} {k:Int} {n:Nat} {v:Int} (h:bQ r=some (k,n,v)):1<=n/\n<=r.length:=by
 cases r with
 | nil=>simp [bQ] at h
 | cons c t=>
  have h1:=lS nameB t;have h2:=lS fC t;rw [bQ] at h;by_cases a1:cls c=1
  ·rw [if_pos a1] at h
   split at h
   ·simp at h;simp;omega
   ·cases h
  ·rw [if_neg a1] at h
   by_cases a2:cls c=2
   ·rw [if_pos a2] at h
    split at h
    ·simp only [Zc,ZJ] at h;simp only [YR];omega
    ·cases h
   ·rw [if_neg a2] at h
    split at h
    ·split at h
     ·rename_i h3
      cases t with
      | nil=>simp [eqq] at h3
      | cons b u=>simp at h;simp;omega
     ·simp at h;simp;omega
    ·cases h
theorem rc:∀(f g:Nat) (r:List UInt8) (a:Int),r.length<=f->r.length<=g->oO f r a=oO g r a
 | 0,g,[],a,_,_=>by cases g<;>rfl
 | f+1,g,[],a,_,_=>by cases g<;>rfl
 | 0,_,_::_,_,h,_=>by simp at h
 | _+1,0,_::_,_,_,h=>by simp at h
 | f+1,g+1,c::t,a,h1,h2=>by
  simp only [YR] at h1 h2;rw [oO,oO];by_cases hb:cls c=4
  ·rw [if_pos hb,if_pos hb];exact rc f g t (a+1) (by omega) (by omega)
  ·rw [if_neg hb,if_neg hb]
   cases ht:bQ (c::t) with
   | none=>rfl
   | some x=>
    obtain ⟨k,n,v⟩:=x;have:=mb ht;simp only [YR] at this;simp only;rw [rc f g ((c::t).drop n) (a+n) (by simp;omega) (by simp;omega)]
theorem Oz (a:Int):oP [] a=some []:=rfl
theorem Jh (c:UInt8) (t:List UInt8) (a:Int) (h:cls c=4):oP (c::t) a=oP t (a+1):=by
 rw [oP,YR,oO,if_pos h];rfl
theorem LK (c:UInt8) (t:List UInt8) (a:Int) (h:cls c≠4) (h2:bQ (c::t)=none):oP (c::t) a=none:=by
 rw [oP,YR,oO,if_neg h,h2]
theorem OA (c:UInt8) (t:List UInt8) (a:Int) (h:cls c≠4) {k:Int} {n:Nat} {v:Int} (h2:bQ (c::t)=some (k,n,v)):oP (c::t) a=(oP ((c::t).drop n) (a+n)).map (⟨k,(c::t).take n,v,a⟩::·):=by
 have:=mb h2;simp only [YR] at this;rw [oP,YR,oO,if_neg h,h2];simp only;rw [oP,rc t.length _ ((c::t).drop n) (a+n) (by simp;omega) (YN _)]
def fD (s:List UInt8):List Tok×Int:=if 4000<s.length then ([],2) else match oP s 0 with|none=>([],3)|some l=>(l,0)
def OB (x:List Tok×Int):Dat:=.tuple [u7 x.1,I x.2]
end Uw.Tryz
namespace Uw.Tryz
open Go Uw
abbrev Str:=List UInt8
mutual
inductive Ex where
 | num (n:Int)
 | name (s:Str)
 | bin (k:Int) (a b:Ex)
 | call (o v:Str) (ar:Exs)
inductive Exs where
 | nil
 | cons (e:Ex) (r:Exs)
end
mutual
inductive Stm where
 | set (s:Str) (e:Ex)
 | task (par:Bool) (to f:Str) (ar:Exs)
 | sync
 | if1 (e:Ex) (a:Bl)
 | if2 (e:Ex) (a b:Bl)
 | loop (e:Ex) (a:Bl)
 | one (k:Int) (e:Ex)
 | act (o v:Str) (ar:Exs)
inductive Bl where
 | nil
 | cons (s:Stm) (r:Bl)
end
def Exs.length:Exs->Nat
 | .nil=>0
 | .cons _ r=>r.length+1
inductive R (α:Type) where
 | ok (a:α) (r:List Tok)
 | bad
 | out
def R.bind {α β:Type} (x:R α) (f:α->List Tok->R β):R β:=
 match x with
 | .ok a r=>f a r
 | .bad=>.bad
 | .out=>.out
def hd (r:List Tok):Str:=match r with|[]=>[]|t::_=>t.text
def want (s:Str) (r:List Tok):R Unit:=if hd r=s then .ok () r.tail else .bad
def Ht:Str:=[99,101,108,108]
def OC:Str:=[109,97,112]
def zx:Str:=[115,116,97,99,107]
def Hu:Str:=[99,104,97,110]
def np:Str:=[102,117,110,99]
def gj:Str:=[115,112,97,119,110]
def pL:Str:=[112,97,114]
def xN:Str:=[115,121,110,99]
def sIf:Str:=[105,102]
def xO:Str:=[101,108,115,101]
def uf:Str:=[119,104,105,108,101]
def nq:Str:=[114,101,116,117,114,110]
def nr:Str:=[97,115,115,101,114,116]
def BJ (s:Str):Bool:=decide (s=Ht)||decide (s=OC)||decide (s=zx)||decide (s=Hu)||decide (s=np)||decide (s=gj)||decide (s=pL)||decide (s=xN)||decide (s=sIf)||decide (s=xO)||decide (s=uf)||decide (s=nq)||decide (s=nr)
def iM (k:Int) (r:List Tok):R Tok:=
 match r with
 | []=>.bad
 | t::r'=>if t.kind=k then .ok t r' else .bad
def isNum (r:List Tok):Bool:=match r with|[]=>false|t::_=>decide (t.kind=2)
def numOf (r:List Tok):Int:=match r with|[]=>0|t::_=>t.n
def eS (r:List Tok):R Str:=(iM 1 r).bind fun t r'=>if BJ t.text then .bad else .ok t.text r'
mutual
def jg:Nat->List Tok->R Ex
 | 0,_=>.out
 | n+1,r=>
  if hd r=[40] then (dM n r.tail).bind fun e r=>(want [41] r).bind fun _ r=>.ok e r
  else if isNum r then .ok (.num (numOf r)) r.tail
  else (eS r).bind fun s r=>if hd r=[46] then (gP n s r).bind fun x r=>.ok (.call s x.1 x.2) r else .ok (.name s) r
def gP:Nat->Str->List Tok->R (Str×Exs)
 | 0,_,_=>.out
 | n+1,s,r=>(want [46] r).bind fun _ r=>(eS r).bind fun v r=>(gq n r).bind fun ar r=>.ok (v,ar) r
def gq:Nat->List Tok->R Exs
 | 0,_=>.out
 | n+1,r=>(want [40] r).bind fun _ r=>if hd r=[41] then .ok .nil r.tail else (dM n r).bind fun e r=>(dR n r).bind fun es r=>.ok (.cons e es) r
def dR:Nat->List Tok->R Exs
 | 0,_=>.out
 | n+1,r=>if hd r=[44] then (dM n r.tail).bind fun e r=>(dR n r).bind fun es r=>.ok (.cons e es) r
  else (want [41] r).bind fun _ r=>.ok .nil r
def iC:Nat->List Tok->R Ex
 | 0,_=>.out
 | n+1,r=>(jg n r).bind fun e r=>eM n e r
def eM:Nat->Ex->List Tok->R Ex
 | 0,_,_=>.out
 | n+1,left,r=>if hd r=[42] then (jg n r.tail).bind fun e r=>eM n (.bin 5 left e) r else .ok left r
def m9:Nat->List Tok->R Ex
 | 0,_=>.out
 | n+1,r=>(iC n r).bind fun e r=>fN n e r
def fN:Nat->Ex->List Tok->R Ex
 | 0,_,_=>.out
 | n+1,left,r=>
  if hd r=[43] then (iC n r.tail).bind fun e r=>fN n (.bin 3 left e) r
  else if hd r=[45] then (iC n r.tail).bind fun e r=>fN n (.bin 4 left e) r
  else .ok left r
def dM:Nat->List Tok->R Ex
 | 0,_=>.out
 | n+1,r=>(m9 n r).bind fun left r=>
  if hd r=[60] then (m9 n r.tail).bind fun e r=>.ok (.bin 6 left e) r
  else if hd r=[61,61] then (m9 n r.tail).bind fun e r=>.ok (.bin 7 left e) r
  else .ok left r
end
def gk (n:Nat) (to:Str) (r:List Tok):R Stm:=
 (if hd r=gj then R.ok false r.tail else (want pL r).bind fun _ r=>.ok true r).bind fun par r=>
  (eS r).bind fun f r=>(gq n r).bind fun ar r=>if par=true/\ar.length≠2 then .bad else .ok (.task par to f ar) r
def il (n:Nat) (r:List Tok):R Stm:=
 if hd r=gj\/hd r=pL then gk n [] r
 else if hd r=xN then .ok .sync r.tail
 else if hd r=nq then (dM n r.tail).bind fun e r=>.ok (.one 15 e) r
 else if hd r=nr then (dM n r.tail).bind fun e r=>.ok (.one 16 e) r
 else (eS r).bind fun s r=>
  if hd r=[46] then (gP n s r).bind fun x r=>.ok (.act s x.1 x.2) r
  else (want [61] r).bind fun _ r=>
   if hd r=gj\/hd r=pL then gk n s r else (dM n r).bind fun e r=>.ok (.set s e) r
mutual
def jh:Nat->List Tok->R Stm
 | 0,_=>.out
 | n+1,r=>
  if hd r=sIf then (dM n r.tail).bind fun e r=>(du n r).bind fun a r=>
   if hd r=xO then (du n r.tail).bind fun b r=>.ok (.if2 e a b) r else .ok (.if1 e a) r
  else if hd r=uf then (dM n r.tail).bind fun e r=>(du n r).bind fun a r=>.ok (.loop e a) r
  else (il n r).bind fun s r=>(want [59] r).bind fun _ r=>.ok s r
def du:Nat->List Tok->R Bl
 | 0,_=>.out
 | n+1,r=>(want [123] r).bind fun _ r=>dS n r
def dS:Nat->List Tok->R Bl
 | 0,_=>.out
 | n+1,r=>if hd r=[125] then .ok .nil r.tail else (jh n r).bind fun s r=>(dS n r).bind fun ss r=>.ok (.cons s ss) r
end
structure Dec where
 kind:Int
 name:Str
 n:Int
 deriving DecidableEq,Inhabited
structure Fn where
 name:Str
 args:List Str
 body:Bl
def cG:Nat->List Tok->R (List Str)
 | 0,_=>.out
 | n+1,r=>if hd r=[44] then (eS r.tail).bind fun s r=>(cG n r).bind fun l r=>.ok (s::l) r
  else (want [41] r).bind fun _ r=>.ok [] r
def jE (n:Nat) (r:List Tok):R (List Str):=(want [40] r).bind fun _ r=>
 if hd r=[41] then .ok [] r.tail else (eS r).bind fun s r=>(cG n r).bind fun l r=>.ok (s::l) r
def rf (n:Nat) (r:List Tok):R Fn:=(want np r).bind fun _ r=>(eS r).bind fun s r=>(jE n r).bind fun l r=>(du n r).bind fun b r=>.ok ⟨s,l,b⟩ r
def kindOf (s:Str):Option Int:=if s=Ht then some 0 else if s=OC then some 1 else if s=zx then some 2 else if s=Hu then some 3 else none
def rh (r:List Tok):R Dec:=(iM 1 r).bind fun t r=>match kindOf t.text with
 | none=>.bad
 | some k=>(eS r).bind fun s r=>
  (if k=0/\hd r=[61] then (iM 2 r.tail).bind fun t r=>R.ok t.n r else .ok 0 r).bind fun v r=>(want [59] r).bind fun _ r=>.ok ⟨k,s,v⟩ r
def fE:Nat->List Tok->R (List Dec)
 | 0,_=>.out
 | n+1,r=>if r=[]\/hd r=np then .ok [] r else (rh r).bind fun d r=>(fE n r).bind fun l r=>.ok (d::l) r
def gw:Nat->List Tok->R (List Fn)
 | 0,_=>.out
 | n+1,r=>if r=[] then .ok [] r else (rf n r).bind fun f r=>(gw n r).bind fun l r=>.ok (f::l) r
def u9 (n:Nat) (r:List Tok):R (List Dec×List Fn):=(fE n r).bind fun d r=>(gw n r).bind fun f r=>.ok (d,f) r
structure Nod where
 kind:Int
 n:Int
 name:Str
 name2:Str
 of:List Nat
 deriving DecidableEq,Inhabited
mutual
def Ex.sz:Ex->Nat
 | .num _=>1
 | .name _=>1
 | .bin _ a b=>a.sz+b.sz+1
 | .call _ _ ar=>ar.sz+1
def Exs.sz:Exs->Nat
 | .nil=>0
 | .cons e r=>e.sz+r.sz
end
def Exs.places:Exs->Nat->List Nat
 | .nil,_=>[]
 | .cons e r,b=>(b+e.sz - 1)::r.places (b+e.sz)
mutual
def Ex.flat:Ex->Nat->List Nod
 | .num n,_=>[⟨1,n,[],[],[]⟩]
 | .name s,_=>[⟨2,0,s,[],[]⟩]
 | .bin k x y,b=>x.flat b++y.flat (b+x.sz)++[⟨k,0,[],[],[b+x.sz - 1,b+x.sz+y.sz - 1]⟩]
 | .call o v ar,b=>ar.flat b++[⟨8,0,o,v,ar.places b⟩]
def Exs.flat:Exs->Nat->List Nod
 | .nil,_=>[]
 | .cons e r,b=>e.flat b++r.flat (b+e.sz)
end
mutual
def Stm.sz:Stm->Nat
 | .set _ e=>e.sz+1
 | .task _ _ _ ar=>ar.sz+1
 | .sync=>1
 | .if1 e a=>e.sz+(a.sz+1)+1
 | .if2 e a b=>e.sz+(a.sz+1)+(b.sz+1)+1
 | .loop e a=>e.sz+(a.sz+1)+1
 | .one _ e=>e.sz+1
 | .act _ _ ar=>ar.sz+1+1
def Bl.sz:Bl->Nat
 | .nil=>0
 | .cons s r=>s.sz+r.sz
end
def Bl.places:Bl->Nat->List Nat
 | .nil,_=>[]
 | .cons s r,b=>(b+s.sz - 1)::r.places (b+s.sz)
mutual
def Stm.flat:Stm->Nat->List Nod
 | .set s e,b=>e.flat b++[⟨9,0,s,[],[b+e.sz - 1]⟩]
 | .task par to f ar,b=>ar.flat b++[⟨if par then 11 else 10,0,to,f,ar.places b⟩]
 | .sync,b=>[⟨12,0,[],[],[]⟩]
 | .if1 e x,b=>e.flat b++(x.flat (b+e.sz)++[⟨18,0,[],[],x.places (b+e.sz)⟩])++[⟨13,0,[],[],[b+e.sz - 1,b+e.sz+(x.sz+1) - 1]⟩]
 | .if2 e x y,b=>e.flat b++(x.flat (b+e.sz)++[⟨18,0,[],[],x.places (b+e.sz)⟩])++(y.flat (b+e.sz+(x.sz+1))++[⟨18,0,[],[],y.places (b+e.sz+(x.sz+1))⟩])++[⟨13,0,[],[],[b+e.sz - 1,b+e.sz+(x.sz+1) - 1,b+e.sz+(x.sz+1)+(y.sz+1) - 1]⟩]
 | .loop e x,b=>e.flat b++(x.flat (b+e.sz)++[⟨18,0,[],[],x.places (b+e.sz)⟩])++[⟨14,0,[],[],[b+e.sz - 1,b+e.sz+(x.sz+1) - 1]⟩]
 | .one k e,b=>e.flat b++[⟨k,0,[],[],[b+e.sz - 1]⟩]
 | .act o v ar,b=>ar.flat b++[⟨8,0,o,v,ar.places b⟩]++[⟨17,0,[],[],[b+ar.sz+1 - 1]⟩]
def Bl.flat:Bl->Nat->List Nod
 | .nil,_=>[]
 | .cons s r,b=>s.flat b++r.flat (b+s.sz)
end
def Bl.all (x:Bl) (b:Nat):List Nod:=x.flat b++[⟨18,0,[],[],x.places b⟩]
mutual
theorem Ex.ax:∀(e:Ex) (b:Nat),(e.flat b).length=e.sz
 | .num _,_=>rfl
 | .name _,_=>rfl
 | .bin k x y,b=>by simp [Ex.flat,Ex.sz,Ex.ax x,Ex.ax y];omega
 | .call o v ar,b=>by simp [Ex.flat,Ex.sz,Exs.ax ar]
theorem Exs.ax:∀(e:Exs) (b:Nat),(e.flat b).length=e.sz
 | .nil,_=>rfl
 | .cons e r,b=>by simp [Exs.flat,Exs.sz,Ex.ax e,Exs.ax r]
end
mutual
theorem Stm.ax:∀(e:Stm) (b:Nat),(e.flat b).length=e.sz
 | .set s e,b=>by simp [Stm.flat,Stm.sz,Ex.ax]
 | .task par to f ar,b=>by simp [Stm.flat,Stm.sz,Exs.ax]
 | .sync,b=>rfl
 | .if1 e x,b=>by simp [Stm.flat,Stm.sz,Ex.ax,Bl.ax x];omega
 | .if2 e x y,b=>by simp [Stm.flat,Stm.sz,Ex.ax,Bl.ax x,Bl.ax y];omega
 | .loop e x,b=>by simp [Stm.flat,Stm.sz,Ex.ax,Bl.ax x];omega
 | .one k e,b=>by simp [Stm.flat,Stm.sz,Ex.ax]
 | .act o v ar,b=>by simp [Stm.flat,Stm.sz,Exs.ax]
theorem Bl.ax:∀(e:Bl) (b:Nat),(e.flat b).length=e.sz
 | .nil,_=>rfl
 | .cons s r,b=>by simp [Bl.flat,Bl.sz,Stm.ax s,Bl.ax r]
end
theorem Bl.fy (x:Bl) (b:Nat):(x.all b).length=x.sz+1:=by simp [Bl.all,Bl.ax]
mutual
theorem Ex.i6:∀(e:Ex),1<=e.sz
 | .num _=>YN _
 | .name _=>YN _
 | .bin _ a b=>by rw [Ex.sz];omega
 | .call _ _ ar=>by rw [Ex.sz];omega
end
theorem Stm.i6 (s:Stm):1<=s.sz:=by cases s<;>simp only [Stm.sz]<;>omega
end Uw.Tryz
namespace Uw.Tryz
open Go Uw
theorem bind_ok {α β:Type} {x:R α} {f:α->List Tok->R β} {b:β} {r:List Tok}:x.bind f = .ok b r<->∃a r1,x = .ok a r1/\f a r1 = .ok b r:=by
 cases x with
 | ok a r1=>exact ⟨fun h=>⟨a,r1,rfl,h⟩,fun ⟨_,_,h1,h2⟩=>by injection h1 with e1 e2;subst e1 e2;exact h2⟩
 | bad=>exact ⟨fun h=>(by cases h),fun ⟨_,_,h,_⟩=>(by cases h)⟩
 | out=>exact ⟨fun h=>(by cases h),fun ⟨_,_,h,_⟩=>(by cases h)⟩
def Suf (r r' : List Tok) (s:Nat):Prop:=∃j,j<=r.length/\r' = r.drop j/\s<=j
theorem Suf.refl (r:List Tok):Suf r r 0:=⟨0,by simp,rfl,YN _⟩
theorem Suf.trans {a b c:List Tok} {s t:Nat} (h1:Suf a b s) (h2:Suf b c t):Suf a c (s+t):=by
 obtain ⟨i,i1,rfl,i3⟩:=h1;obtain ⟨j,j1,rfl,j3⟩:=h2;simp at j1;exact ⟨i+j,by omega,by rw [aag],by omega⟩
theorem Suf.le {a b:List Tok} {s t:Nat} (h:Suf a b s) (hl:t<=s):Suf a b t:=by
 obtain ⟨i,i1,i2,i3⟩:=h;exact ⟨i,i1,i2,by omega⟩
theorem Suf.tail {r:List Tok} (h:r≠[]):Suf r r.tail 1:=by
 cases r with
 | nil=>exact absurd rfl h
 | cons a l=>exact ⟨1,by simp,rfl,YN _⟩
theorem Ww {r:List Tok} {s:Str} (h:hd r=s) (hs:s≠[]):r≠[]:=by
 rintro rfl;exact hs h.symm
theorem Suf.hd {r:List Tok} {s:Str} (h:hd r=s) (hs:s≠[]):Suf r r.tail 1:=Suf.tail (Ww h hs)
theorem EP {s:Str} {r r' : List Tok} {u:Unit} (h:want s r = .ok u r'):Uw.Tryz.hd r=s/\r' = r.tail:=by
 rw [want] at h
 split at h
 ·rename_i hh
  injection h with _ h
  exact ⟨hh,h.symm⟩
 ·cases h
theorem yL {k:Int} {r r' : List Tok} {t:Tok} (h:iM k r = .ok t r'):∃q,r=t::q/\r' = q/\t.kind=k:=by
 cases r with
 | nil=>rw [iM] at h;cases h
 | cons a q=>
  rw [iM] at h
  split at h
  ·rename_i hk
   injection h with h1 h2
   subst h1 h2;exact ⟨q,rfl,rfl,hk⟩
  ·cases h
theorem ER {r r' : List Tok} {s:Str} (h:eS r = .ok s r'):∃t,r=t::r'/\s=t.text/\t.kind=1/\BJ t.text=false:=by
 rw [eS,bind_ok] at h;obtain ⟨t,r1,h1,h2⟩:=h;obtain ⟨q,rfl,rfl,hk⟩:=yL h1
 split at h2
 ·cases h2
 ·rename_i hkw
  injection h2 with e1 e2
  subst e1 e2;exact ⟨t,rfl,rfl,hk,by simpa using hkw⟩
theorem Suf.name {r r' : List Tok} {s:Str} (h:eS r = .ok s r'):Suf r r' 1:=by
 obtain ⟨t,rfl,_⟩:=ER h;exact ⟨1,by simp,rfl,YN _⟩
theorem Suf.want {s:Str} (hs:s≠[]) {r r' : List Tok} {u:Unit} (h:want s r = .ok u r'):Suf r r' 1:=by
 obtain ⟨h1,rfl⟩:=EP h;exact Suf.hd h1 hs
structure Xw (n:Nat):Prop where
 qC:∀r e r',jg n r = .ok e r'->Suf r r' e.sz
 call:∀s r x r',gP n s r = .ok x r'->Suf r r' (x.2.sz+1)
 args:∀r x r',gq n r = .ok x r'->Suf r r' (x.sz+1)
 tq:∀r x r',dR n r = .ok x r'->Suf r r' x.sz
 prod:∀r e r',iC n r = .ok e r'->Suf r r' e.sz
 ri:∀l r e r',eM n l r = .ok e r'->Suf r r' (e.sz - l.sz)/\l.sz<=e.sz
 sum:∀r e r',m9 n r = .ok e r'->Suf r r' e.sz
 sumT:∀l r e r',fN n l r = .ok e r'->Suf r r' (e.sz - l.sz)/\l.sz<=e.sz
 expr:∀r e r',dM n r = .ok e r'->Suf r r' e.sz
theorem eN:∀n,Xw n
 | 0=>by
  refine ⟨?_,?_,?_,?_,?_,?_,?_,?_,?_⟩
  ·intro _ _ _ h;rw [jg] at h;cases h
  ·intro _ _ _ _ h;rw [gP] at h;cases h
  ·intro _ _ _ h;rw [gq] at h;cases h
  ·intro _ _ _ h;rw [dR] at h;cases h
  ·intro _ _ _ h;rw [iC] at h;cases h
  ·intro _ _ _ _ h;rw [eM] at h;cases h
  ·intro _ _ _ h;rw [m9] at h;cases h
  ·intro _ _ _ _ h;rw [fN] at h;cases h
  ·intro _ _ _ h;rw [dM] at h;cases h
 | n+1=>by
  have ih:=eN n;refine ⟨?_,?_,?_,?_,?_,?_,?_,?_,?_⟩
  ·intro r e r' h
   rw [jg] at h
   split at h
   ·rename_i hh
    obtain ⟨e1,r1,h1,h⟩:=bind_ok.1 h;obtain ⟨_,r2,h2,h⟩:=bind_ok.1 h;injection h with h3 h4
    subst h3 h4;exact ((Suf.hd hh (by simp)).trans ((ih.expr _ _ _ h1).trans (Suf.want (by simp) h2))).le (by omega)
   ·split at h
    ·rename_i hn
     injection h with h1 h2
     subst h1 h2;exact (Suf.tail (by rintro rfl;cases hn)).le (by simp [Ex.sz])
    ·obtain ⟨s,r1,h1,h⟩:=bind_ok.1 h
     have s1:=Suf.name h1
     split at h
     ·obtain ⟨x,r2,h2,h⟩:=bind_ok.1 h
      injection h with h3 h4
      subst h3 h4;exact (s1.trans (ih.call _ _ _ _ h2)).le (by rw [Ex.sz];omega)
     ·injection h with h3 h4
      subst h3 h4;exact s1.le (by simp [Ex.sz])
  ·intro s r x r' h
   rw [gP] at h;obtain ⟨_,r1,h1,h⟩:=bind_ok.1 h;obtain ⟨v,r2,h2,h⟩:=bind_ok.1 h;obtain ⟨ar,r3,h3,h⟩:=bind_ok.1 h;injection h with h4 h5
   subst h4 h5;exact ((Suf.want (by simp) h1).trans ((Suf.name h2).trans (ih.args _ _ _ h3))).le (by simp only;omega)
  ·intro r x r' h
   rw [gq] at h;obtain ⟨_,r1,h1,h⟩:=bind_ok.1 h;have s1:=Suf.want (by simp) h1
   split at h
   ·rename_i hh
    injection h with h4 h5
    subst h4 h5;exact (s1.trans (Suf.hd hh (by simp))).le (by simp [Exs.sz])
   ·obtain ⟨e,r2,h2,h⟩:=bind_ok.1 h
    obtain ⟨es,r3,h3,h⟩:=bind_ok.1 h;injection h with h4 h5
    subst h4 h5;exact (s1.trans ((ih.expr _ _ _ h2).trans (ih.tq _ _ _ h3))).le (by rw [Exs.sz];omega)
  ·intro r x r' h
   rw [dR] at h
   split at h
   ·rename_i hh
    obtain ⟨e,r2,h2,h⟩:=bind_ok.1 h;obtain ⟨es,r3,h3,h⟩:=bind_ok.1 h;injection h with h4 h5
    subst h4 h5;exact ((Suf.hd hh (by simp)).trans ((ih.expr _ _ _ h2).trans (ih.tq _ _ _ h3))).le (by rw [Exs.sz];omega)
   ·obtain ⟨_,r1,h1,h⟩:=bind_ok.1 h
    injection h with h4 h5
    subst h4 h5;exact (Suf.want (by simp) h1).le (by simp [Exs.sz])
  ·intro r e r' h
   rw [iC] at h;obtain ⟨e1,r1,h1,h⟩:=bind_ok.1 h;obtain ⟨a1,a2⟩:=ih.ri _ _ _ _ h;exact ((ih.qC _ _ _ h1).trans a1).le (by omega)
  ·intro l r e r' h
   rw [eM] at h
   split at h
   ·rename_i hh
    obtain ⟨e1,r1,h1,h⟩:=bind_ok.1 h;obtain ⟨a1,a2⟩:=ih.ri _ _ _ _ h;rw [Ex.sz] at a1 a2;exact ⟨((Suf.hd hh (by simp)).trans ((ih.qC _ _ _ h1).trans a1)).le (by omega),by omega⟩
   ·injection h with h4 h5
    subst h4 h5;exact ⟨(Suf.refl _).le (by omega),YN _⟩
  ·intro r e r' h
   rw [m9] at h;obtain ⟨e1,r1,h1,h⟩:=bind_ok.1 h;obtain ⟨a1,a2⟩:=ih.sumT _ _ _ _ h;exact ((ih.prod _ _ _ h1).trans a1).le (by omega)
  ·intro l r e r' h
   rw [fN] at h
   split at h
   ·rename_i hh
    obtain ⟨e1,r1,h1,h⟩:=bind_ok.1 h;obtain ⟨a1,a2⟩:=ih.sumT _ _ _ _ h;rw [Ex.sz] at a1 a2;exact ⟨((Suf.hd hh (by simp)).trans ((ih.prod _ _ _ h1).trans a1)).le (by omega),by omega⟩
   ·split at h
    ·rename_i hh
     obtain ⟨e1,r1,h1,h⟩:=bind_ok.1 h;obtain ⟨a1,a2⟩:=ih.sumT _ _ _ _ h;rw [Ex.sz] at a1 a2;exact ⟨((Suf.hd hh (by simp)).trans ((ih.prod _ _ _ h1).trans a1)).le (by omega),by omega⟩
    ·injection h with h4 h5
     subst h4 h5;exact ⟨(Suf.refl _).le (by omega),YN _⟩
  ·intro r e r' h
   rw [dM] at h;obtain ⟨e1,r1,h1,h⟩:=bind_ok.1 h;have s1:=ih.sum _ _ _ h1
   split at h
   ·rename_i hh
    obtain ⟨e2,r2,h2,h⟩:=bind_ok.1 h;injection h with h4 h5
    subst h4 h5;exact (s1.trans ((Suf.hd hh (by simp)).trans (ih.sum _ _ _ h2))).le (by rw [Ex.sz];omega)
   ·split at h
    ·rename_i hh
     obtain ⟨e2,r2,h2,h⟩:=bind_ok.1 h;injection h with h4 h5
     subst h4 h5;exact (s1.trans ((Suf.hd hh (by simp)).trans (ih.sum _ _ _ h2))).le (by rw [Ex.sz];omega)
    ·injection h with h4 h5
     subst h4 h5;exact s1
end Uw.Tryz
namespace Uw.Tryz
open Go Uw
theorem oQ {n:Nat} {to:Str} {r r' : List Tok} {s:Stm} (h:gk n to r = .ok s r'):Suf r r' s.sz:=by
 rw [gk] at h;obtain ⟨p,r1,h1,h⟩:=bind_ok.1 h;obtain ⟨f,r2,h2,h⟩:=bind_ok.1 h;obtain ⟨ar,r3,h3,h⟩:=bind_ok.1 h;have s1:Suf r r1 1:=by
  split at h1
  ·rename_i hh
   injection h1 with _ e
   subst e;exact Suf.hd hh (by decide)
  ·obtain ⟨_,r4,h4,h5⟩:=bind_ok.1 h1
   injection h5 with _ e
   subst e;exact Suf.want (by decide) h4
 split at h
 ·cases h
 ·injection h with e1 e2
  subst e1 e2;exact (s1.trans ((Suf.name h2).trans ((eN n).args _ _ _ h3))).le (by rw [Stm.sz];omega)
theorem zy {n:Nat} {r r' : List Tok} {s:Stm} (h:il n r = .ok s r'):Suf r r' s.sz:=by
 rw [il] at h
 split at h
 ·exact oQ h
 ·split at h
  ·rename_i hh
   injection h with e1 e2
   subst e1 e2;exact Suf.hd hh (by decide)
  ·split at h
   ·rename_i hh
    obtain ⟨e,r1,h1,h⟩:=bind_ok.1 h;injection h with e1 e2
    subst e1 e2;exact ((Suf.hd hh (by decide)).trans ((eN n).expr _ _ _ h1)).le (by rw [Stm.sz];omega)
   ·split at h
    ·rename_i hh
     obtain ⟨e,r1,h1,h⟩:=bind_ok.1 h;injection h with e1 e2
     subst e1 e2;exact ((Suf.hd hh (by decide)).trans ((eN n).expr _ _ _ h1)).le (by rw [Stm.sz];omega)
    ·obtain ⟨nm,r1,h1,h⟩:=bind_ok.1 h
     split at h
     ·obtain ⟨x,r2,h2,h⟩:=bind_ok.1 h
      injection h with e1 e2
      subst e1 e2;exact ((Suf.name h1).trans ((eN n).call _ _ _ _ h2)).le (by rw [Stm.sz];omega)
     ·obtain ⟨_,r2,h2,h⟩:=bind_ok.1 h
      have s2:=(Suf.name h1).trans (Suf.want (by decide) h2)
      split at h
      ·exact (s2.trans (oQ h)).le (by omega)
      ·obtain ⟨e,r3,h3,h⟩:=bind_ok.1 h
       injection h with e1 e2
       subst e1 e2;exact (s2.trans ((eN n).expr _ _ _ h3)).le (by rw [Stm.sz];omega)
structure Xx (n:Nat):Prop where
 stmt:∀r s r',jh n r = .ok s r'->Suf r r' s.sz
 block:∀r s r',du n r = .ok s r'->Suf r r' (s.sz+1)
 stmts:∀r s r',dS n r = .ok s r'->Suf r r' s.sz
theorem tr:∀n,Xx n
 | 0=>by
  refine ⟨?_,?_,?_⟩
  ·intro _ _ _ h;rw [jh] at h;cases h
  ·intro _ _ _ h;rw [du] at h;cases h
  ·intro _ _ _ h;rw [dS] at h;cases h
 | n+1=>by
  have ih:=tr n;refine ⟨?_,?_,?_⟩
  ·intro r s r' h
   rw [jh] at h
   split at h
   ·rename_i hh
    obtain ⟨e,r1,h1,h⟩:=bind_ok.1 h;obtain ⟨a,r2,h2,h⟩:=bind_ok.1 h;have s2:=(Suf.hd hh (by decide)).trans (((eN n).expr _ _ _ h1).trans (ih.block _ _ _ h2))
    split at h
    ·rename_i hh2
     obtain ⟨b,r3,h3,h⟩:=bind_ok.1 h;injection h with e1 e2
     subst e1 e2;exact (s2.trans ((Suf.hd hh2 (by decide)).trans (ih.block _ _ _ h3))).le (by rw [Stm.sz];omega)
    ·injection h with e1 e2
     subst e1 e2;exact s2.le (by rw [Stm.sz];omega)
   ·split at h
    ·rename_i hh
     obtain ⟨e,r1,h1,h⟩:=bind_ok.1 h;obtain ⟨a,r2,h2,h⟩:=bind_ok.1 h;injection h with e1 e2
     subst e1 e2;exact ((Suf.hd hh (by decide)).trans (((eN n).expr _ _ _ h1).trans (ih.block _ _ _ h2))).le (by rw [Stm.sz];omega)
    ·obtain ⟨e,r1,h1,h⟩:=bind_ok.1 h
     obtain ⟨_,r2,h2,h⟩:=bind_ok.1 h;injection h with e1 e2
     subst e1 e2;exact ((zy h1).trans (Suf.want (by decide) h2)).le (by omega)
  ·intro r s r' h
   rw [du] at h;obtain ⟨_,r1,h1,h⟩:=bind_ok.1 h;exact ((Suf.want (by decide) h1).trans (ih.stmts _ _ _ h)).le (by omega)
  ·intro r s r' h
   rw [dS] at h
   split at h
   ·rename_i hh
    injection h with e1 e2
    subst e1 e2;exact (Suf.hd hh (by decide)).le (by simp [Bl.sz])
   ·obtain ⟨e,r1,h1,h⟩:=bind_ok.1 h
    obtain ⟨ss,r2,h2,h⟩:=bind_ok.1 h;injection h with e1 e2
    subst e1 e2;exact ((ih.stmt _ _ _ h1).trans (ih.stmts _ _ _ h2)).le (by rw [Bl.sz];omega)
end Uw.Tryz
namespace Uw.Tryz
open Go Uw
def eG {α:Type} (a:α):List Tok->R α:=fun r=>.ok a r
def OD {α:Type}:List Tok->R α:=fun _=>.bad
def db {α β:Type} (p:List Tok->R β) (f:β->List Tok->R α):List Tok->R α:=fun r=>(p r).bind f
def jY {α:Type} (s:Str) (p:List Tok->R α):List Tok->R α:=fun r=>(want s r).bind fun _ r=>p r
def gd {α:Type} (s:Str) (p q:List Tok->R α):List Tok->R α:=fun r=>if hd r=s then p r.tail else q r
def nu {α:Type} (s:Str) (p q:List Tok->R α):List Tok->R α:=fun r=>if hd r=s then p r else q r
def cName {α:Type} (f:Str->List Tok->R α):List Tok->R α:=fun r=>(eS r).bind f
def Hv {α:Type} (k:Int) (f:Str->Int->List Tok->R α):List Tok->R α:=fun r=>(iM k r).bind fun t r=>f t.text t.n r
def Ji {α:Type} (f:Int->List Tok->R α) (q:List Tok->R α):List Tok->R α:=fun r=>if isNum r then f (numOf r) r.tail else q r
theorem zz (n:Nat):jg (n+1)=gd [40] (db (dM n) fun e=>jY [41] (eG e)) (Ji (fun v=>eG (.num v)) (cName fun s=>nu [46] (db (gP n s) fun x=>eG (.call s x.1 x.2)) (eG (.name s)))):=by
 funext r;rw [jg];rfl
theorem zA (n:Nat) (s:Str):gP (n+1) s=jY [46] (cName fun v=>db (gq n) fun ar=>eG (v,ar)):=by
 funext r;rw [gP];rfl
theorem zB (n:Nat):gq (n+1)=jY [40] (gd [41] (eG .nil) (db (dM n) fun e=>db (dR n) fun es=>eG (.cons e es))):=by
 funext r;rw [gq];rfl
theorem wE (n:Nat):dR (n+1)=gd [44] (db (dM n) fun e=>db (dR n) fun es=>eG (.cons e es)) (jY [41] (eG .nil)):=by
 funext r;rw [dR];rfl
theorem zC (n:Nat):iC (n+1)=db (jg n) fun e=>eM n e:=by funext r;rw [iC];rfl
theorem wF (n:Nat) (l:Ex):eM (n+1) l=gd [42] (db (jg n) fun e=>eM n (.bin 5 l e)) (eG l):=by funext r;rw [eM];rfl
theorem ES (n:Nat):m9 (n+1)=db (iC n) fun e=>fN n e:=by funext r;rw [m9];rfl
theorem zD (n:Nat) (l:Ex):fN (n+1) l=gd [43] (db (iC n) fun e=>fN n (.bin 3 l e)) (gd [45] (db (iC n) fun e=>fN n (.bin 4 l e)) (eG l)):=by funext r;rw [fN];rfl
theorem zE (n:Nat):dM (n+1)=db (m9 n) fun l=>gd [60] (db (m9 n) fun e=>eG (.bin 6 l e)) (gd [61,61] (db (m9 n) fun e=>eG (.bin 7 l e)) (eG l)):=by funext r;rw [dM];rfl
theorem wG (n:Nat) (to:Str):gk n to=db (gd gj (eG false) (jY pL (eG true))) fun par=>cName fun f=>db (gq n) fun ar=>if par=true/\ar.length≠2 then OD else eG (.task par to f ar):=by
 funext r
 rw [gk];show R.bind _ _=R.bind _ _
 congr 1
 funext par r
 show R.bind _ _=R.bind _ _
 congr 1
 funext f r
 show R.bind _ _=R.bind _ _
 congr 1
 funext ar r
 split<;>rfl
theorem ug (n:Nat):il n=nu gj (gk n []) (nu pL (gk n []) (gd xN (eG .sync) (gd nq (db (dM n) fun e=>eG (.one 15 e)) (gd nr (db (dM n) fun e=>eG (.one 16 e))
  (cName fun s=>nu [46] (db (gP n s) fun x=>eG (.act s x.1 x.2)) (jY [61] (nu gj (gk n s) (nu pL (gk n s) (db (dM n) fun e=>eG (.set s e)))))))))):=by
 have key:∀{α:Type} (a b:Prop) [Decidable a] [Decidable b] (x y:α),(if a\/b then x else y)=if a then x else if b then x else y:=by
  intro α a b _ _ x y;by_cases ha:a<;>by_cases hb:b<;>simp [ha,hb]
 funext r
 rw [il,key];show _=if hd r=gj then _ else if hd r=pL then _ else if hd r=xN then _ else if hd r=nq then _ else if hd r=nr then _ else R.bind _ _
 congr 6
 funext s r
 show _=if hd r=[46] then _ else R.bind _ _
 congr 2
 funext _ r
 rw [key];rfl
theorem zF (n:Nat):jh (n+1)=gd sIf (db (dM n) fun e=>db (du n) fun a=>gd xO (db (du n) fun b=>eG (.if2 e a b)) (eG (.if1 e a))) (gd uf (db (dM n) fun e=>db (du n) fun a=>eG (.loop e a)) (db (il n) fun s=>jY [59] (eG s))):=by
 funext r;rw [jh];rfl
theorem wH (n:Nat):du (n+1)=jY [123] (dS n):=by funext r;rw [du];rfl
theorem wI (n:Nat):dS (n+1)=gd [125] (eG .nil) (db (jh n) fun s=>db (dS n) fun ss=>eG (.cons s ss)):=by funext r;rw [dS];rfl
theorem uh (n:Nat):cG (n+1)=gd [44] (cName fun s=>db (cG n) fun l=>eG (s::l)) (jY [41] (eG [])):=by funext r;rw [cG];rfl
theorem wJ (n:Nat):jE n=jY [40] (gd [41] (eG []) (cName fun s=>db (cG n) fun l=>eG (s::l))):=by funext r;rw [jE];rfl
theorem ET (n:Nat):rf n=jY np (cName fun s=>db (jE n) fun l=>db (du n) fun b=>eG ⟨s,l,b⟩):=by funext r;rw [rf];rfl
def tt (t:Str):List Tok->R Dec:=
 match kindOf t with
 | none=>OD
 | some k=>cName fun s=>if k=0 then gd [61] (Hv 2 fun _ n=>jY [59] (eG ⟨k,s,n⟩)) (jY [59] (eG ⟨k,s,0⟩)) else jY [59] (eG ⟨k,s,0⟩)
theorem va:rh=Hv 1 fun t _=>tt t:=by
 funext r
 rw [rh];show R.bind _ _=R.bind _ _
 congr 1
 funext t r
 show _=tt t.text r;unfold tt
 cases kindOf t.text with
 | none=>rfl
 | some k=>
  show R.bind _ _=R.bind _ _
  congr 1
  funext s r
  by_cases hk:k=0
  ·rw [if_pos hk]
   by_cases h:hd r=[61]
   ·rw [if_pos ⟨hk,h⟩]
    show _=if hd r=[61] then R.bind _ _ else _
    rw [if_pos h]
    cases iM 2 r.tail<;>rfl
   ·rw [if_neg (fun x=>h x.2)]
    show _=if hd r=[61] then R.bind _ _ else _
    rw [if_neg h];rfl
  ·rw [if_neg hk,if_neg (fun x=>hk x.1)]
   rfl
def wK {α:Type} (p:List Tok->R α):Prop:=∀r a r',p r = .ok a r'->r'.length<r.length
def delta (s:Str):Int:=if s=[40]\/s=[123] then 1 else if s=[41]\/s=[125] then -1 else 0
inductive IsP:{α:Type}->Int->(List Tok->R α)->(List Tok->R α)->Prop
 | out {α:Type} {d:Int} {q:List Tok->R α}:IsP d (fun _=>.out) q
 | bad {α:Type} {d:Int}:IsP d (OD (α:=α)) OD
 | ret {α:Type} (a:α):IsP 0 (eG a) (eG a)
 | bind {α β:Type} {d e g:Int} {p p' : List Tok->R β} {f f' : β->List Tok->R α}:IsP d p p'->(∀b,IsP e (f b) (f' b))->g=d+e->IsP g (db p f) (db p' f')
 | want {α:Type} {d g:Int} {s:Str} {p p' : List Tok->R α}:s≠[]->IsP d p p'->g=delta s+d->IsP g (jY s p) (jY s p')
 | skip {α:Type} {d g:Int} {s:Str} {p p' q q' : List Tok->R α}:s≠[]->(s≠[41]\/wK q)->IsP d p p'->IsP g q q'->g=delta s+d->IsP g (gd s p q) (gd s p' q')
 | peek {α:Type} {d:Int} {s:Str} {p p' q q' : List Tok->R α}:s≠[41]->wK p->IsP d p p'->IsP d q q'->IsP d (nu s p q) (nu s p' q')
 | name {α:Type} {d:Int} {f f' : Str->List Tok->R α}:(∀b,IsP d (f b) (f' b))->IsP d (cName f) (cName f')
 | word {α:Type} {d:Int} {k:Int} {f f' : Str->Int->List Tok->R α}:k≠3->(∀b n,IsP d (f b n) (f' b n))->IsP d (Hv k f) (Hv k f')
 | num {α:Type} {d:Int} {f f' : Int->List Tok->R α} {q q' : List Tok->R α}:wK q->(∀b,IsP d (f b) (f' b))->IsP d q q'->IsP d (Ji f q) (Ji f' q')
theorem yM {α β:Type} {x y:R β} {f g:β->List Tok->R α} (h:x = .out\/x=y) (hf:∀b r,f b r = .out\/f b r=g b r):x.bind f = .out\/x.bind f=y.bind g:=by
 rcases h with rfl|rfl
 ·exact .inl rfl
 ·cases x with
  | ok a r=>exact hf a r
  | bad=>exact .inr rfl
  | out=>exact .inl rfl
theorem IsP.le {α:Type} {d:Int} {p q:List Tok->R α} (h:IsP d p q):∀r,p r = .out\/p r=q r:=by
 induction h with
 | out=>exact fun r=>.inl rfl
 | bad=>exact fun r=>.inr rfl
 | ret=>exact fun r=>.inr rfl
 | bind _ _ _ ih1 ih2=>exact fun r=>yM (ih1 r) ih2
 | want _ _ _ ih=>exact fun r=>yM (.inr rfl) fun _ r=>ih r
 | skip _ _ _ _ _ ih1 ih2=>
  intro r;unfold gd
  split
  ·exact ih1 _
  ·exact ih2 _
 | peek _ _ _ _ ih1 ih2=>
  intro r;unfold nu
  split
  ·exact ih1 _
  ·exact ih2 _
 | name _ ih=>exact fun r=>yM (.inr rfl) ih
 | word _ _ ih=>exact fun r=>yM (.inr rfl) fun t r=>ih t.text t.n r
 | num _ _ _ ih1 ih2=>
  intro r;unfold Ji
  split
  ·exact ih1 _ _
  ·exact ih2 _
theorem KB {r:List Tok} {s:Str} (h:hd r=s) (hs:s≠[]):∃t,r=t::r.tail/\t.text=s:=by
 cases r with
 | nil=>exact absurd h.symm hs
 | cons a l=>exact ⟨a,rfl,h⟩
theorem IsP.pre {α:Type} {d:Int} {p q:List Tok->R α} (h:IsP d p q):∀r a r',p r = .ok a r'->∃c,r=c++r':=by
 induction h with
 | out=>intro r a r' h;cases h
 | bad=>intro r a r' h;cases h
 | ret=>intro r a r' h;injection h with _ h;exact ⟨[],by rw [h];rfl⟩
 | bind _ _ _ ih1 ih2=>
  intro r a r' h;obtain ⟨b,r1,h1,h2⟩:=bind_ok.1 h;obtain ⟨c1,rfl⟩:=ih1 _ _ _ h1;obtain ⟨c2,rfl⟩:=ih2 _ _ _ _ h2;exact ⟨c1++c2,by simp⟩
 | want hs _ _ ih=>
  intro r a r' h;obtain ⟨b,r1,h1,h2⟩:=bind_ok.1 h;obtain ⟨hh,rfl⟩:=EP h1;obtain ⟨t,ht,_⟩:=KB hh hs;obtain ⟨c2,h3⟩:=ih _ _ _ h2;exact ⟨t::c2,by rw [ht,h3];rfl⟩
 | skip hs _ _ _ _ ih1 ih2=>
  intro r a r' h;unfold gd at h
  split at h
  ·rename_i hh
   obtain ⟨t,ht,_⟩:=KB hh hs;obtain ⟨c2,h3⟩:=ih1 _ _ _ h;exact ⟨t::c2,by rw [ht,h3];rfl⟩
  ·exact ih2 _ _ _ h
 | peek _ _ _ _ ih1 ih2=>
  intro r a r' h;unfold nu at h
  split at h
  ·exact ih1 _ _ _ h
  ·exact ih2 _ _ _ h
 | name _ ih=>
  intro r a r' h;obtain ⟨b,r1,h1,h2⟩:=bind_ok.1 h;obtain ⟨t,rfl,_⟩:=ER h1;obtain ⟨c,rfl⟩:=ih _ _ _ _ h2;exact ⟨t::c,rfl⟩
 | word _ _ ih=>
  intro r a r' h;obtain ⟨b,r1,h1,h2⟩:=bind_ok.1 h;obtain ⟨q,rfl,rfl,_⟩:=yL h1;obtain ⟨c,rfl⟩:=ih _ _ _ _ _ h2;exact ⟨b::c,rfl⟩
 | num _ _ _ ih1 ih2=>
  intro r a r' h;unfold Ji at h
  split at h
  ·rename_i hn
   obtain ⟨c,h3⟩:=ih1 _ _ _ _ h
   cases r with
   | nil=>cases hn
   | cons t l=>exact ⟨t::c,by rw [List.tail_cons] at h3;rw [h3];rfl⟩
  ·exact ih2 _ _ _ h
def Wf (t:Tok):Prop:=t.kind≠3->delta t.text=0
end Uw.Tryz
namespace Uw.Tryz
open Go Uw
theorem Suf.len {a b:List Tok} {s:Nat} (h:Suf a b s):b.length+s<=a.length:=by
 obtain ⟨i,i1,rfl,i3⟩:=h;simp;omega
theorem IsP.len {α:Type} {d:Int} {p q:List Tok->R α} (h:IsP d p q) {r r' : List Tok} {a:α} (e:p r = .ok a r'):r'.length<=r.length:=by
 obtain ⟨c,rfl⟩:=h.pre _ _ _ e;simp
theorem EU {α:Type} {p:List Tok->R α} (h:∀r e r',p r = .ok e r'->∃s,1<=s/\Suf r r' s):wK p:=by
 intro r e r' he;obtain ⟨s,h1,h2⟩:=h r e r' he;have:=h2.len;omega
theorem wL {α β:Type} {d:Int} {p:List Tok->R β} {f f' : β->List Tok->R α} (h:wK p) (hf:∀b,IsP d (f b) (f' b)):wK (db p f):=by
 intro r a r' he;obtain ⟨b,r1,h1,h2⟩:=bind_ok.1 he;have:=h _ _ _ h1;have:=(hf b).len h2;omega
theorem Dx {α:Type} {d:Int} {f f' : Str->List Tok->R α} (hf:∀b,IsP d (f b) (f' b)):wK (cName f):=by
 intro r a r' he;obtain ⟨b,r1,h1,h2⟩:=bind_ok.1 he;have:=(Suf.name h1).len;have:=(hf b).len h2;omega
theorem LL (n:Nat):wK (dM n):=EU fun r e r' h=>⟨_,e.i6,(eN n).expr _ _ _ h⟩
theorem Dy (n:Nat) (s:Str):wK (gP n s):=EU fun r e r' h=>⟨_,by omega,(eN n).call _ _ _ _ h⟩
theorem pM (n:Nat) (s:Str):wK (gk n s):=EU fun r e r' h=>⟨_,e.i6,oQ h⟩
structure PE (n:Nat):Prop where
 qC:IsP 0 (jg n) (jg (n+1))
 call:∀s,IsP 0 (gP n s) (gP (n+1) s)
 args:IsP 0 (gq n) (gq (n+1))
 tq:IsP (-1) (dR n) (dR (n+1))
 prod:IsP 0 (iC n) (iC (n+1))
 ri:∀l,IsP 0 (eM n l) (eM (n+1) l)
 sum:IsP 0 (m9 n) (m9 (n+1))
 sumT:∀l,IsP 0 (fN n l) (fN (n+1) l)
 expr:IsP 0 (dM n) (dM (n+1))
theorem ip {α:Type} {d:Int} {p q:List Tok->R α} (h:∀r,p r = .out):IsP d p q:=by
 have:p=fun _=>.out:=funext h;rw [this];exact .out
theorem pe:∀n,PE n
 | 0=>⟨ip fun r=>by rw [jg],fun s=>ip fun r=>by rw [gP],ip fun r=>by rw [gq],ip fun r=>by rw [dR],ip fun r=>by rw [iC],fun l=>ip fun r=>by rw [eM],ip fun r=>by rw [m9],fun l=>ip fun r=>by rw [fN],ip fun r=>by rw [dM]⟩
 | n+1=>by
  have ih:=pe n;have arT:∀e,IsP (-1) (db (dR n) fun es=>eG (Exs.cons e es)) (db (dR (n+1)) fun es=>eG (Exs.cons e es)):=fun e=>.bind ih.tq (fun es=>.ret _) (by decide);refine ⟨?_,?_,?_,?_,?_,?_,?_,?_,?_⟩
  ·rw [zz n,zz (n+1)]
   have hq:∀s,IsP 0 (nu [46] (db (gP n s) fun x=>eG (Ex.call s x.1 x.2)) (eG (.name s))) (nu [46] (db (gP (n+1) s) fun x=>eG (Ex.call s x.1 x.2)) (eG (.name s))):=fun s=>
    .peek (by decide) (wL (Dy n s) fun x=>.ret _) (.bind (ih.call s) (fun x=>.ret _) (by decide)) (.ret _)
   exact .skip (d:=-1) (by decide) (.inl (by decide)) (.bind ih.expr (fun e=>.want (by decide) (.ret _) rfl) (by decide)) (.num (Dx hq) (fun v=>.ret _) (.name hq)) (by decide)
  ·intro s
   rw [zA n,zA (n+1)];exact .want (by decide) (.name fun v=>.bind ih.args (fun ar=>.ret _) rfl) (by decide)
  ·rw [zB n,zB (n+1)]
   exact .want (d:=-1) (by decide) (.skip (by decide) (.inr (wL (LL n) arT)) (.ret _) (.bind ih.expr arT (by decide)) (by decide)) (by decide)
  ·rw [wE n,wE (n+1)]
   exact .skip (d:=-1) (by decide) (.inl (by decide)) (.bind ih.expr arT (by decide)) (.want (by decide) (.ret _) (by decide)) (by decide)
  ·rw [zC n,zC (n+1)]
   exact .bind ih.qC ih.ri (by decide)
  ·intro l
   rw [wF n,wF (n+1)];exact .skip (d:=0) (by decide) (.inl (by decide)) (.bind ih.qC (fun e=>ih.ri _) (by decide)) (.ret _) (by decide)
  ·rw [ES n,ES (n+1)]
   exact .bind ih.prod ih.sumT (by decide)
  ·intro l
   rw [zD n,zD (n+1)];exact .skip (d:=0) (by decide) (.inl (by decide)) (.bind ih.prod (fun e=>ih.sumT _) (by decide)) (.skip (d:=0) (by decide) (.inl (by decide)) (.bind ih.prod (fun e=>ih.sumT _) (by decide)) (.ret _) (by decide)) (by decide)
  ·rw [zE n,zE (n+1)]
   exact .bind ih.sum (fun l=>.skip (d:=0) (by decide) (.inl (by decide)) (.bind ih.sum (fun e=>.ret _) (by decide)) (.skip (d:=0) (by decide) (.inl (by decide)) (.bind ih.sum (fun e=>.ret _) (by decide)) (.ret _) (by decide)) (by decide)) (by decide)
theorem sw (n:Nat) (to:Str):IsP 0 (gk n to) (gk (n+1) to):=by
 rw [wG n,wG (n+1)];exact .bind (d:=0) (e:=0) (.skip (d:=0) (by decide) (.inl (by decide)) (.ret _) (.want (by decide) (.ret _) (by decide)) (by decide)) (fun par=>.name fun f=>.bind (e:=0) (pe n).args (fun ar=>by split<;>first|exact .bad|exact .ret _) (by decide)) (by decide)
theorem Jj (n:Nat):IsP 0 (il n) (il (n+1)):=by
 rw [ug n,ug (n+1)];exact .peek (by decide) (pM n []) (sw n []) (.peek (by decide) (pM n []) (sw n []) (.skip (d:=0) (by decide) (.inl (by decide)) (.ret _) (.skip (d:=0) (by decide) (.inl (by decide)) (.bind (pe n).expr (fun e=>.ret _) (by decide))
  (.skip (d:=0) (by decide) (.inl (by decide)) (.bind (pe n).expr (fun e=>.ret _) (by decide)) (.name fun s=>.peek (by decide) (wL (Dy n s) fun x=>.ret _) (.bind ((pe n).call s) (fun x=>.ret _) (by decide))
   (.want (d:=0) (by decide) (.peek (by decide) (pM n s) (sw n s) (.peek (by decide) (pM n s) (sw n s) (.bind (pe n).expr (fun e=>.ret _) (by decide)))) (by decide))) (by decide)) (by decide)) (by decide)))
structure PS (n:Nat):Prop where
 stmt:IsP 0 (jh n) (jh (n+1))
 block:IsP 0 (du n) (du (n+1))
 stmts:IsP (-1) (dS n) (dS (n+1))
theorem ps:∀n,PS n
 | 0=>⟨ip fun r=>by rw [jh],ip fun r=>by rw [du],ip fun r=>by rw [dS]⟩
 | n+1=>by
  have ih:=ps n;refine ⟨?_,?_,?_⟩
  ·rw [zF n,zF (n+1)]
   exact .skip (d:=0) (by decide) (.inl (by decide)) (.bind (pe n).expr (fun e=>.bind (d:=0) (e:=0) ih.block (fun a=>.skip (d:=0) (by decide) (.inl (by decide)) (.bind ih.block (fun b=>.ret _) (by decide)) (.ret _) (by decide)) rfl) (by decide))
    (.skip (d:=0) (by decide) (.inl (by decide)) (.bind (pe n).expr (fun e=>.bind ih.block (fun a=>.ret _) rfl) (by decide)) (.bind (Jj n) (fun s=>.want (by decide) (.ret _) rfl) (by decide)) (by decide)) (by decide)
  ·rw [wH n,wH (n+1)]
   exact .want (by decide) ih.stmts (by decide)
  ·rw [wI n,wI (n+1)]
   exact .skip (d:=0) (by decide) (.inl (by decide)) (.ret _) (.bind ih.stmt (fun s=>.bind ih.stmts (fun ss=>.ret _) rfl) (by decide)) (by decide)
theorem zG:∀n,IsP (-1) (cG n) (cG (n+1))
 | 0=>ip fun r=>by rw [cG]
 | n+1=>by
  rw [uh n,uh (n+1)];exact .skip (d:=-1) (by decide) (.inl (by decide)) (.name fun s=>.bind (zG n) (fun l=>.ret _) (by decide)) (.want (by decide) (.ret _) (by decide)) (by decide)
theorem sx (n:Nat):IsP 0 (jE n) (jE (n+1)):=by
 rw [wJ n,wJ (n+1)];have hq:∀s,IsP (-1) (db (cG n) fun l=>eG (s::l)) (db (cG (n+1)) fun l=>eG (s::l)):=fun s=>.bind (zG n) (fun l=>.ret _) (by decide);exact .want (d:=-1) (by decide) (.skip (d:=0) (by decide) (.inr (Dx hq)) (.ret _) (.name hq) (by decide)) (by decide)
theorem Q6 (n:Nat):IsP 0 (rf n) (rf (n+1)):=by
 rw [ET n,ET (n+1)];exact .want (d:=0) (by decide) (.name fun s=>.bind (e:=0) (sx n) (fun l=>.bind (ps n).block (fun b=>.ret _) (by decide)) (by decide)) (by decide)
theorem OE:IsP 0 rh rh:=by
 rw [va];refine .word (by decide) fun t _=>?_;rw [tt]
 split
 ·exact .bad
 ·refine .name fun s=>?_
  split
  ·exact .skip (d:=0) (by decide) (.inl (by decide)) (.word (by decide) fun _ n=>.want (by decide) (.ret _) (by decide)) (.want (by decide) (.ret _) (by decide)) (by decide)
  ·exact .want (by decide) (.ret _) (by decide)
theorem aV {α β:Type} {x:R β} {f:β->List Tok->R α} (h:x≠.out) (hf:∀b r,x = .ok b r->f b r≠.out):x.bind f≠.out:=by
 cases x with
 | ok a r=>exact hf a r rfl
 | bad=>exact fun h=>nomatch h
 | out=>exact absurd rfl h
theorem dz {α:Type} {a:α} {r:List Tok}:R.ok a r≠.out:=fun h=>nomatch h
theorem iV {s:Str} {r:List Tok}:want s r≠.out:=by rw [want];split<;>exact fun h=>nomatch h
theorem nw {r:List Tok}:eS r≠.out:=by
 rw [eS];refine aV ?_ fun t r _=>?_
 ·rw [iM.eq_def];split
  ·exact fun h=>nomatch h
  ·split<;>exact fun h=>nomatch h
 ·split<;>exact fun h=>nomatch h
structure NE (n:Nat):Prop where
 qC:∀r,6 * r.length+1<=n->jg n r≠.out
 call:∀s r,6 * r.length+1<=n->gP n s r≠.out
 args:∀r,6 * r.length+1<=n->gq n r≠.out
 tq:∀r,6 * r.length+1<=n->dR n r≠.out
 prod:∀r,6 * r.length+2<=n->iC n r≠.out
 ri:∀l r,6 * r.length+1<=n->eM n l r≠.out
 sum:∀r,6 * r.length+3<=n->m9 n r≠.out
 sumT:∀l r,6 * r.length+1<=n->fN n l r≠.out
 expr:∀r,6 * r.length+4<=n->dM n r≠.out
theorem ne:∀n,NE n
 | 0=>⟨fun _ h=>by omega,fun _ _ h=>by omega,fun _ h=>by omega,fun _ h=>by omega,fun _ h=>by omega,fun _ _ h=>by omega,fun _ h=>by omega,fun _ _ h=>by omega,fun _ h=>by omega⟩
 | n+1=>by
  have ih:=ne n;have se:=eN n;refine ⟨?_,?_,?_,?_,?_,?_,?_,?_,?_⟩
  ·intro r hr
   rw [jg]
   split
   ·rename_i hh
    have:=(Suf.hd hh (by simp)).len;exact aV (ih.expr _ (by omega)) fun e r1 h1=>aV iV fun _ _ _=>dz
   ·split
    ·exact dz
    ·refine aV nw fun s r1 h1=>?_
     have:=(Suf.name h1).len
     split
     ·exact aV (ih.call _ _ (by omega)) fun _ _ _=>dz
     ·exact dz
  ·intro s r hr
   rw [gP];refine aV iV fun _ r1 h1=>aV nw fun v r2 h2=>aV (ih.args _ ?_) fun _ _ _=>dz;have:=(Suf.want (by simp) h1).len;have:=(Suf.name h2).len;omega
  ·intro r hr
   rw [gq];refine aV iV fun _ r1 h1=>?_;have:=(Suf.want (by simp) h1).len
   split
   ·exact dz
   ·refine aV (ih.expr _ (by omega)) fun e r2 h2=>aV (ih.tq _ ?_) fun _ _ _=>dz
    have:=(se.expr _ _ _ h2).len;omega
  ·intro r hr
   rw [dR]
   split
   ·rename_i hh
    have:=(Suf.hd hh (by simp)).len;refine aV (ih.expr _ (by omega)) fun e r2 h2=>aV (ih.tq _ ?_) fun _ _ _=>dz;have:=(se.expr _ _ _ h2).len;omega
   ·exact aV iV fun _ _ _=>dz
  ·intro r hr
   rw [iC];refine aV (ih.qC _ (by omega)) fun e r2 h2=>ih.ri _ _ ?_;have:=(se.qC _ _ _ h2).len;omega
  ·intro l r hr
   rw [eM]
   split
   ·rename_i hh
    have:=(Suf.hd hh (by simp)).len;refine aV (ih.qC _ (by omega)) fun e r2 h2=>ih.ri _ _ ?_;have:=(se.qC _ _ _ h2).len;omega
   ·exact dz
  ·intro r hr
   rw [m9];refine aV (ih.prod _ (by omega)) fun e r2 h2=>ih.sumT _ _ ?_;have:=(se.prod _ _ _ h2).len;omega
  ·intro l r hr
   rw [fN]
   split
   ·rename_i hh
    have:=(Suf.hd hh (by simp)).len;refine aV (ih.prod _ (by omega)) fun e r2 h2=>ih.sumT _ _ ?_;have:=(se.prod _ _ _ h2).len;omega
   ·split
    ·rename_i hh
     have:=(Suf.hd hh (by simp)).len;refine aV (ih.prod _ (by omega)) fun e r2 h2=>ih.sumT _ _ ?_;have:=(se.prod _ _ _ h2).len;omega
    ·exact dz
  ·intro r hr
   rw [dM];refine aV (ih.sum _ (by omega)) fun e r2 h2=>?_;have:=(se.sum _ _ _ h2).len
   split
   ·rename_i hh
    have:=(Suf.hd hh (by simp)).len;exact aV (ih.sum _ (by omega)) fun _ _ _=>dz
   ·split
    ·rename_i hh
     have:=(Suf.hd hh (by simp)).len;exact aV (ih.sum _ (by omega)) fun _ _ _=>dz
    ·exact dz
theorem Hw (n:Nat) (to:Str) (r:List Tok) (hr:6 * r.length+1<=n):gk n to r≠.out:=by
 rw [gk];have key:∀(x:R Bool),x≠.out->(∀b r1,x = .ok b r1->r1.length<=r.length)->x.bind (fun par r=>(eS r).bind fun f r=>(gq n r).bind fun ar r=>if par=true/\ar.length≠2 then R.bad else R.ok (Stm.task par to f ar) r)≠.out:=by
  intro x hx hl;refine aV hx fun b r1 h1=>aV nw fun f r2 h2=>aV ((ne n).args _ ?_) fun ar r3 _=>?_
  ·have:=hl _ _ h1
   have:=(Suf.name h2).len;omega
  ·split<;>exact fun h=>nomatch h
 refine key _ ?_ ?_
 ·split
  ·exact dz
  ·exact aV iV fun _ _ _=>dz
 ·intro b r1 h
  split at h
  ·injection h with _ h
   rw [<- h];simp
  ·obtain ⟨_,r2,h2,h3⟩:=bind_ok.1 h
   injection h3 with _ h3
   subst h3;have:=(Suf.want (by decide) h2).len;omega
theorem LM (n:Nat) (r:List Tok) (hr:6 * r.length+4<=n):il n r≠.out:=by
 rw [il];have ih:=ne n
 split
 ·exact Hw n _ _ (by omega)
 ·split
  ·exact dz
  ·split
   ·exact aV (ih.expr _ (by simp;omega)) fun _ _ _=>dz
   ·split
    ·exact aV (ih.expr _ (by simp;omega)) fun _ _ _=>dz
    ·refine aV nw fun s r1 h1=>?_
     have:=(Suf.name h1).len
     split
     ·exact aV (ih.call _ _ (by omega)) fun _ _ _=>dz
     ·refine aV iV fun _ r2 h2=>?_
      have:=(Suf.want (by decide) h2).len
      split
      ·exact Hw n _ _ (by omega)
      ·exact aV (ih.expr _ (by omega)) fun _ _ _=>dz
structure NS (n:Nat):Prop where
 stmt:∀r,6 * r.length+5<=n->jh n r≠.out
 block:∀r,6 * r.length+5<=n->du n r≠.out
 stmts:∀r,6 * r.length+6<=n->dS n r≠.out
theorem ns_:∀n,NS n
 | 0=>⟨fun _ h=>by omega,fun _ h=>by omega,fun _ h=>by omega⟩
 | n+1=>by
  have ih:=ns_ n;have se:=eN n;have ss:=tr n;refine ⟨?_,?_,?_⟩
  ·intro r hr
   rw [jh]
   split
   ·rename_i hh
    have:=(Suf.hd hh (by decide)).len;refine aV ((ne n).expr _ (by omega)) fun e r1 h1=>?_;have:=(se.expr _ _ _ h1).len;refine aV (ih.block _ (by omega)) fun a r2 h2=>?_;have:=(ss.block _ _ _ h2).len
    split
    ·exact aV (ih.block _ (by simp;omega)) fun _ _ _=>dz
    ·exact dz
   ·split
    ·rename_i hh
     have:=(Suf.hd hh (by decide)).len;refine aV ((ne n).expr _ (by omega)) fun e r1 h1=>?_;have:=(se.expr _ _ _ h1).len;exact aV (ih.block _ (by omega)) fun a r2 h2=>dz
    ·exact aV (LM n _ (by omega)) fun _ _ _=>aV iV fun _ _ _=>dz
  ·intro r hr
   rw [du];refine aV iV fun _ r1 h1=>ih.stmts _ ?_;have:=(Suf.want (by decide) h1).len;omega
  ·intro r hr
   rw [dS]
   split
   ·exact dz
   ·refine aV (ih.stmt _ (by omega)) fun s r1 h1=>?_
    have:=(ss.stmt _ _ _ h1).len;have:=s.i6;exact aV (ih.stmts _ (by omega)) fun _ _ _=>dz
theorem Dz:∀n r,r.length+1<=n->cG n r≠.out
 | 0,_,h=>by omega
 | n+1,r,hr=>by
  rw [cG]
  split
  ·rename_i hh
   have:=(Suf.hd hh (by simp)).len;refine aV nw fun s r1 h1=>aV (Dz n _ ?_) fun _ _ _=>dz;have:=(Suf.name h1).len;omega
  ·exact aV iV fun _ _ _=>dz
theorem OG (n:Nat) (r:List Tok) (hr:r.length+1<=n):jE n r≠.out:=by
 rw [jE];refine aV iV fun _ r1 h1=>?_;have:=(Suf.want (by decide) h1).len
 split
 ·exact dz
 ·refine aV nw fun s r2 h2=>aV (Dz n _ ?_) fun _ _ _=>dz
  have:=(Suf.name h2).len;omega
theorem OH (n:Nat) (r:List Tok) (hr:6 * r.length+5<=n):rf n r≠.out:=by
 rw [rf];refine aV iV fun _ r1 h1=>aV nw fun s r2 h2=>?_;have:=(Suf.want (by decide) h1).len;have:=(Suf.name h2).len;refine aV (OG n _ (by omega)) fun l r3 h3=>aV ((ns_ n).block _ ?_) fun _ _ _=>dz;have:=(sx n).len h3;omega
theorem KC (r:List Tok):rh r≠.out:=by
 rw [va];have hw:∀k r,iM k r≠.out:=by
  intro k r;rw [iM.eq_def];split
  ·exact fun h=>nomatch h
  ·split<;>exact fun h=>nomatch h
 refine aV (hw _ _) fun t r _=>?_;show tt t.text r≠_;unfold tt
 cases kindOf t.text with
 | none=>exact fun h=>nomatch h
 | some k=>
  refine aV nw fun s r _=>?_;have hz:∀(d:Dec) r,jY [59] (eG d) r≠.out:=fun d r=>aV iV fun _ _ _=>dz;by_cases hk:k=0
  ·rw [if_pos hk]
   show (if hd r=[61] then _ else _)≠R.out
   split
   ·exact aV (hw _ _) fun t r _=>hz _ _
   ·exact hz _ _
  ·rw [if_neg hk]
   exact hz _ _
end Uw.Tryz
namespace Uw.Tryz
open Go Uw
theorem up {α:Type} {d:Int} {p:Nat->List Tok->R α} (h:∀n,IsP d (p n) (p (n+1))) {n:Nat} {r:List Tok} (hn:p n r≠.out) (k:Nat):p (n+k) r=p n r:=by
 induction k with
 | zero=>rfl
 | succ k ih=>
  rcases (h (n+k)).le r with e|e
  ·rw [ih] at e;exact absurd e hn
  ·rw [<- ZG,<- e,ih]
theorem up' {α:Type} {d:Int} {p:Nat->List Tok->R α} (h:∀n,IsP d (p n) (p (n+1))) {n m:Nat} {r:List Tok} {a:α} {r' : List Tok} (hn:p n r = .ok a r') (hm:n<=m):p m r = .ok a r':=by
 obtain ⟨k,rfl⟩:=Nat.le.dest hm;rw [up h (by rw [hn];exact dz),hn]
def Reads {α:Type} (p:Nat->List Tok->R α) (r:List Tok) (a:α) (r' : List Tok):Prop:=∃n,p n r = .ok a r'
theorem Reads.at {α:Type} {d:Int} {p:Nat->List Tok->R α} (h:∀n,IsP d (p n) (p (n+1))) {r:List Tok} {a:α} {r1:List Tok} (h1:Reads p r a r1) {n:Nat} (hn:p n r≠.out):p n r = .ok a r1:=by
 obtain ⟨m,h1⟩:=h1;have e1:=up' h h1 (Nat.le_max_right n m);obtain ⟨k,hk⟩:=Nat.le.dest (Nat.le_max_left n m);rw [<- hk,up h hn] at e1;exact e1
theorem EV {α β:Type} (a:β) (r:List Tok) (f:β->List Tok->R α):(R.ok a r).bind f=f a r:=rfl
inductive zH:List Tok->List Dec->List Tok->Prop
 | stop {r:List Tok}:r=[]\/hd r=np->zH r [] r
 | cons {r r' r'' : List Tok} {d:Dec} {ds:List Dec}:¬(r=[]\/hd r=np)->rh r = .ok d r'->zH r' ds r''->zH r (d::ds) r''
inductive BK:List Tok->List Fn->Prop
 | nil:BK [] []
 | cons {r r' : List Tok} {f:Fn} {fs:List Fn}:Reads rf r f r'->BK r' fs->BK r (f::fs)
def Prg (l:List Tok) (ds:List Dec) (fs:List Fn):Prop:=∃r,zH l ds r/\BK r fs
def xP (l:List Tok):Nat:=6 * l.length+6
def vd (l:List Tok):Option (List Dec×List Fn):=match u9 (xP l) l with | .ok x _=>some x | .bad=>none | .out=>none
theorem sy:wK rh:=by
 intro r e r' h;rw [va] at h;obtain ⟨t,r1,h1,h2⟩:=bind_ok.1 h;obtain ⟨q,rfl,rfl,_⟩:=yL h1;have:IsP 0 (tt t.text) (tt t.text):=by
  rw [tt]
  split
  ·exact .bad
  ·refine .name fun s=>?_
   split
   ·exact .skip (d:=0) (by decide) (.inl (by decide)) (.word (by decide) fun _ n=>.want (by decide) (.ret _) (by decide)) (.want (by decide) (.ret _) (by decide)) (by decide)
   ·exact .want (by decide) (.ret _) (by decide)
 have:=this.len h2;simp;omega
theorem Hy (n:Nat):wK (rf n):=by
 intro r e r' h;rw [rf] at h;obtain ⟨_,r1,h1,h⟩:=bind_ok.1 h;obtain ⟨s,r2,h2,h⟩:=bind_ok.1 h;obtain ⟨l,r3,h3,h⟩:=bind_ok.1 h;obtain ⟨b,r4,h4,h⟩:=bind_ok.1 h;injection h with _ h
 have:=(Suf.want (by decide) h1).len;have:=(Suf.name h2).len;have:=(sx n).len h3;have:=(ps n).block.len h4;rw [<- h];omega
theorem zH.len {r r' : List Tok} {ds:List Dec} (h:zH r ds r'):r'.length+ds.length<=r.length:=by
 induction h with
 | stop _=>simp
 | cons _ h1 _ ih=>
  have:=sy _ _ _ h1;simp;omega
theorem zH.at {r r' : List Tok} {ds:List Dec} (h:zH r ds r'):∀n,r.length+1<=n->fE n r = .ok ds r':=by
 induction h with
 | stop h=>
  intro n hn
  cases n with
  | zero=>omega
  | succ n=>rw [fE,if_pos h]
 | cons h h1 h2 ih=>
  intro n hn
  cases n with
  | zero=>omega
  | succ n=>
   have:=sy _ _ _ h1;rw [fE,if_neg h,h1,EV,ih n (by omega)];rfl
theorem BK.at {r:List Tok} {fs:List Fn} (h:BK r fs):∀n,6 * r.length+6<=n->gw n r = .ok fs []:=by
 induction h with
 | nil=>
  intro n hn
  cases n with
  | zero=>omega
  | succ n=>rw [gw,if_pos rfl]
 | cons h h2 ih=>
  rename_i r r' f fs;intro n hn
  cases n with
  | zero=>omega
  | succ n=>
   have h1:=h.at Q6 (OH n r (by omega));have:=Hy _ _ _ _ h1;rw [gw,if_neg (by rintro rfl;simp at this),h1,EV,ih n (by omega)];rfl
theorem Prg.at {l:List Tok} {ds:List Dec} {fs:List Fn} (h:Prg l ds fs):vd l=some (ds,fs):=by
 obtain ⟨r,h1,h2⟩:=h;have:=h1.len;rw [vd,u9,h1.at _ (by rw [xP];omega),EV,h2.at _ (by rw [xP];omega)];rfl
theorem zI:∀(n:Nat) {r r' : List Tok} {ds:List Dec},fE n r = .ok ds r'->zH r ds r'
 | 0,_,_,_,h=>by rw [fE] at h;cases h
 | n+1,r,r',ds,h=>by
  rw [fE] at h
  split at h
  ·rename_i hh
   injection h with h1 h2
   subst h1 h2;exact .stop hh
  ·rename_i hh
   obtain ⟨d,r1,h1,h⟩:=bind_ok.1 h;obtain ⟨l,r2,h2,h⟩:=bind_ok.1 h;injection h with h3 h4
   subst h3 h4;exact .cons hh h1 (zI n h2)
theorem KD:∀(n:Nat) {r r' : List Tok} {fs:List Fn},gw n r = .ok fs r'->BK r fs/\r' = []
 | 0,_,_,_,h=>by rw [gw] at h;cases h
 | n+1,r,r',fs,h=>by
  rw [gw] at h
  split at h
  ·rename_i hh
   injection h with h1 h2
   subst h1 h2 hh;exact ⟨.nil,rfl⟩
  ·rename_i hh
   obtain ⟨d,r1,h1,h⟩:=bind_ok.1 h;obtain ⟨l,r2,h2,h⟩:=bind_ok.1 h;injection h with h3 h4
   subst h3 h4;obtain ⟨h5,h6⟩:=KD n h2;exact ⟨.cons ⟨n,h1⟩ h5,h6⟩
theorem KE {n:Nat} {l r' : List Tok} {ds:List Dec} {fs:List Fn} (h:u9 n l = .ok (ds,fs) r'):Prg l ds fs:=by
 rw [u9] at h;obtain ⟨d,r1,h1,h⟩:=bind_ok.1 h;obtain ⟨f,r2,h2,h⟩:=bind_ok.1 h;injection h with h3 h4
 injection h3 with h3 h5
 subst h3 h5;exact ⟨r1,zI _ h1,(KD _ h2).1⟩
theorem DC {l:List Tok} {ds:List Dec} {fs:List Fn}:vd l=some (ds,fs)<->Prg l ds fs:=by
 refine ⟨fun h=>?_,Prg.at⟩;rw [vd] at h
 split at h
 ·rename_i x r e
  injection h with h
  subst h;exact KE e
 ·cases h
 ·cases h
theorem Hz:∀n r,r.length+1<=n->fE n r≠.out
 | 0,_,h=>by omega
 | n+1,r,hn=>by
  rw [fE]
  split
  ·exact dz
  ·refine aV (KC r) fun d r1 h1=>aV (Hz n _ ?_) fun _ _ _=>dz
   have:=sy _ _ _ h1;omega
theorem KF:∀n r,6 * r.length+6<=n->gw n r≠.out
 | 0,_,h=>by omega
 | n+1,r,hn=>by
  rw [gw]
  split
  ·exact dz
  ·refine aV (OH n r (by omega)) fun d r1 h1=>aV (KF n _ ?_) fun _ _ _=>dz
   have:=Hy _ _ _ _ h1;omega
theorem Q7 (l:List Tok):u9 (xP l) l≠.out:=by
 rw [u9];refine aV (Hz _ _ (by rw [xP];omega)) fun d r h1=>aV (KF _ _ ?_) fun _ _ _=>dz;have:=(zI _ h1).len;rw [xP];omega
end Uw.Tryz
namespace Uw.Tryz
open Go Uw
structure Nd where
 kind:Int
 n:Int
 name:Str
 name2:Str
 of:List Int
 deriving DecidableEq,Inhabited
structure Fu where
 name:Str
 args:List Str
 body:Int
 deriving DecidableEq,Inhabited
structure Pg where
 decls:List Dec
 ae:List Fu
 nodes:List Nd
 deriving DecidableEq,Inhabited
def cb (l:List Int):Dat:=.slice 1 (l.map fun i=>[I i]) false
def ei (l:List Str):Dat:=.slice 1 (l.map fun s=>[.str s]) false
def bM (d:Dec):List Dat:=[I d.kind,.str d.name,I d.n]
def fuL (f:Fu):List Dat:=[.str f.name,ei f.args,I f.body]
def ndL (x:Nd):List Dat:=[I x.kind,I x.n,.str x.name,.str x.name2,cb x.of]
def pgD (p:Pg):Dat:=.agg [.slice 3 (p.decls.map bM) false,.slice 3 (p.ae.map fuL) false,.slice 5 (p.nodes.map ndL) false]
def Nod.nd (x:Nod):Nd:=⟨x.kind,x.n,x.name,x.name2,x.of.map fun (i:Nat)=>(i:Int)⟩
def Fn.sz (f:Fn):Nat:=f.body.sz+1
def bV:List Fn->Nat->List Nod
 | [],_=>[]
 | f::fs,b=>f.body.all b++bV fs (b+f.sz)
def oR:List Fn->Nat->List Fu
 | [],_=>[]
 | f::fs,b=>⟨f.name,f.args,((b+f.body.sz:Nat):Int)⟩::oR fs (b+f.sz)
def eO:List Fn->Nat
 | []=>0
 | f::fs=>f.sz+eO fs
theorem mI:∀(fs:List Fn) (b:Nat),(bV fs b).length=eO fs
 | [],_=>rfl
 | f::fs,b=>by simp [bV,eO,Bl.fy,mI fs,Fn.sz]
theorem wN:∀(fs:List Fn) (b:Nat),(oR fs b).length=fs.length
 | [],_=>rfl
 | f::fs,b=>by simp [oR,wN fs]
theorem zJ:∀(a c:List Fn) (b:Nat),bV (a++c) b=bV a b++bV c (b+eO a)
 | [],c,b=>by simp [bV,eO]
 | f::fs,c,b=>by simp [bV,eO,zJ fs,ZG]
theorem DF:∀(a c:List Fn),eO (a++c)=eO a+eO c
 | [],c=>by simp [eO]
 | f::fs,c=>by simp [eO,DF fs,ZG]
def Jk (x:List Dec×List Fn):Pg:=⟨x.1,oR x.2 0,(bV x.2 0).map Nod.nd⟩
def BL:Pg:=⟨[],[],[]⟩
def mJ:List Tok->Int->Int->Int
 | [],_,m=>m
 | t::r,d,m=>mJ r (d+delta t.text) (max m (d+delta t.text))
def ofR (s:Str):Pg×Int:=
 if (fD s).2≠0 then (BL,(fD s).2)
 else if 40<mJ (fD s).1 0 0 then (BL,2)
 else match vd (fD s).1 with
  | none=>(BL,3)
  | some x=>(Jk x,0)
theorem cO (b x y:Nat):List.range' b (x+y)=List.range' b x++List.range' (b+x) y:=by
 rw [List.range'_append_1]
def ofs (l:List Nod):List Nat:=l.flatMap (·.of)
theorem eu (a b:List Nod):ofs (a++b)=ofs a++ofs b:=by simp [ofs]
theorem jF (x:Nod):ofs [x]=x.of:=by simp [ofs]
theorem range_one (b:Nat):List.range' b 1=[b]:=rfl
theorem pc {a b:List Nat} (h:a.Perm b) (i:Nat):a.count i=b.count i:=h.count_eq i
mutual
theorem Ex.perm:∀(e:Ex) (b:Nat),(ofs (e.flat b)++[b+e.sz - 1]).Perm (List.range' b e.sz)
 | .num _,b=>by simp [Ex.flat,Ex.sz,ofs]
 | .name _,b=>by simp [Ex.flat,Ex.sz,ofs]
 | .bin k x y,b=>by
  have h1:=fun i=>pc (x.perm b) i;have h2:=fun i=>pc (y.perm (b+x.sz)) i;refine Zx.2 fun i=>?_;have h1:=h1 i;have h2:=h2 i;rw [Ex.flat,Ex.sz,cO,cO,eu,eu,jF,range_one,show b+(x.sz+y.sz+1) - 1=b+(x.sz+y.sz) by omega];simp only [Zq,Zz,ZQ] at *;omega
 | .call o v ar,b=>by
  have h1:=fun i=>pc (ar.perm b) i;refine Zx.2 fun i=>?_;have h1:=h1 i;rw [Ex.flat,Ex.sz,cO,eu,jF,range_one,show b+(ar.sz+1) - 1=b+ar.sz by omega];simp only [Zq,Zz,ZQ] at *;omega
theorem Exs.perm:∀(e:Exs) (b:Nat),(ofs (e.flat b)++e.places b).Perm (List.range' b e.sz)
 | .nil,b=>by simp [Exs.flat,Exs.sz,ofs,Exs.places]
 | .cons e r,b=>by
  have h1:=fun i=>pc (e.perm b) i;have h2:=fun i=>pc (r.perm (b+e.sz)) i;refine Zx.2 fun i=>?_;have h1:=h1 i;have h2:=h2 i;rw [Exs.flat,Exs.sz,Exs.places,cO,eu];simp only [Zq,Zz,ZQ] at *;omega
end
theorem Bl.rj (x:Bl) (b:Nat) (h:(ofs (x.flat b)++x.places b).Perm (List.range' b x.sz)):(ofs (x.all b)++[b+x.sz]).Perm (List.range' b (x.sz+1)):=by
 rw [Bl.all,eu,jF,cO,range_one];exact h.append_right _
mutual
theorem Stm.perm:∀(e:Stm) (b:Nat),(ofs (e.flat b)++[b+e.sz - 1]).Perm (List.range' b e.sz)
 | .set s e,b=>by
  refine Zx.2 fun i=>?_;have h1:=pc (e.perm b) i;rw [Stm.flat,Stm.sz,cO,eu,jF,range_one,show b+(e.sz+1) - 1=b+e.sz by omega];simp only [Zq,Zz,ZQ] at *;omega
 | .task par to f ar,b=>by
  refine Zx.2 fun i=>?_;have h1:=pc (ar.perm b) i;rw [Stm.flat,Stm.sz,cO,eu,jF,range_one,show b+(ar.sz+1) - 1=b+ar.sz by omega];simp only [Zq,Zz,ZQ] at *;omega
 | .sync,b=>by simp [Stm.flat,Stm.sz,ofs]
 | .if1 e x,b=>by
  refine Zx.2 fun i=>?_;have h1:=pc (e.perm b) i;have h2:=pc (x.rj (b+e.sz) (x.perm _)) i;rw [show Stm.flat (.if1 e x) b=e.flat b++x.all (b+e.sz)++[⟨13,0,[],[],[b+e.sz - 1,b+e.sz+(x.sz+1) - 1]⟩] from rfl,Stm.sz,cO,cO,eu,eu,jF,range_one,show b+(e.sz+(x.sz+1)+1) - 1=b+(e.sz+(x.sz+1)) by omega,show b+e.sz+(x.sz+1) - 1=b+e.sz+x.sz by omega];simp only [Zq,Zz,ZQ] at *;omega
 | .if2 e x y,b=>by
  refine Zx.2 fun i=>?_;have h1:=pc (e.perm b) i;have h2:=pc (x.rj (b+e.sz) (x.perm _)) i;have h3:=pc (y.rj (b+e.sz+(x.sz+1)) (y.perm _)) i;rw [show Stm.flat (.if2 e x y) b=e.flat b++x.all (b+e.sz)++y.all (b+e.sz+(x.sz+1))++[⟨13,0,[],[],[b+e.sz - 1,b+e.sz+(x.sz+1) - 1,b+e.sz+(x.sz+1)+(y.sz+1) - 1]⟩] from rfl,Stm.sz,cO,cO,cO,eu,eu,eu,jF,range_one,show b+(e.sz+(x.sz+1)+(y.sz+1)+1) - 1=b+(e.sz+(x.sz+1)+(y.sz+1)) by omega,show b+e.sz+(x.sz+1) - 1=b+e.sz+x.sz by omega,show b+e.sz+(x.sz+1)+(y.sz+1) - 1=b+e.sz+(x.sz+1)+y.sz by omega,show b+(e.sz+(x.sz+1))=b+e.sz+(x.sz+1) by omega];simp only [Zq,Zz,ZQ] at *;omega
 | .loop e x,b=>by
  refine Zx.2 fun i=>?_;have h1:=pc (e.perm b) i;have h2:=pc (x.rj (b+e.sz) (x.perm _)) i;rw [show Stm.flat (.loop e x) b=e.flat b++x.all (b+e.sz)++[⟨14,0,[],[],[b+e.sz - 1,b+e.sz+(x.sz+1) - 1]⟩] from rfl,Stm.sz,cO,cO,eu,eu,jF,range_one,show b+(e.sz+(x.sz+1)+1) - 1=b+(e.sz+(x.sz+1)) by omega,show b+e.sz+(x.sz+1) - 1=b+e.sz+x.sz by omega];simp only [Zq,Zz,ZQ] at *;omega
 | .one k e,b=>by
  refine Zx.2 fun i=>?_;have h1:=pc (e.perm b) i;rw [Stm.flat,Stm.sz,cO,eu,jF,range_one,show b+(e.sz+1) - 1=b+e.sz by omega];simp only [Zq,Zz,ZQ] at *;omega
 | .act o v ar,b=>by
  refine Zx.2 fun i=>?_;have h1:=pc (ar.perm b) i;rw [Stm.flat,Stm.sz,cO,cO,eu,eu,jF,jF,range_one,range_one,show b+ar.sz+1 - 1=b+ar.sz by omega,show b+(ar.sz+1+1) - 1=b+(ar.sz+1) by omega];simp only [Zq,Zz,ZQ] at *;omega
theorem Bl.perm:∀(e:Bl) (b:Nat),(ofs (e.flat b)++e.places b).Perm (List.range' b e.sz)
 | .nil,b=>by simp [Bl.flat,Bl.sz,ofs,Bl.places]
 | .cons e r,b=>by
  refine Zx.2 fun i=>?_;have h1:=pc (e.perm b) i;have h2:=pc (r.perm (b+e.sz)) i;rw [Bl.flat,Bl.sz,Bl.places,cO,eu];simp only [Zq,Zz,ZQ] at *;omega
end
def bodies:List Fn->Nat->List Nat
 | [],_=>[]
 | f::fs,b=>(b+f.body.sz)::bodies fs (b+f.sz)
theorem rl:∀(fs:List Fn) (b:Nat),(ofs (bV fs b)++bodies fs b).Perm (List.range' b (eO fs))
 | [],b=>by simp [bV,eO,ofs,bodies]
 | f::fs,b=>by
  refine Zx.2 fun i=>?_;have h1:=pc (f.body.rj b (f.body.perm b)) i;have h2:=pc (rl fs (b+f.sz)) i;rw [bV,eO,bodies,cO,eu];rw [<- Fn.sz] at h1;simp only [Zq,Zz,ZQ] at *;omega
def Low (b:Nat):List Nod->Prop
 | []=>True
 | x::r=>(∀c∈x.of,c<b)/\Low (b+1) r
theorem Low.app:∀{x y:List Nod} {b:Nat},Low b x->Low (b+x.length) y->Low b (x++y)
 | [],y,b,_,h=>h
 | a::x,y,b,⟨h1,h2⟩,h=>⟨h1,h2.app (by rw [YR] at h;rwa [show b+1+x.length=b+(x.length+1) by omega])⟩
theorem Low.at:∀{x:List Nod} {b:Nat},Low b x->∀(j:Nat) (h:j<x.length),∀c∈x[j].of,c<b+j
 | [],_,_,j,h=>by simp at h
 | a::x,b,⟨h1,h2⟩,0,_=>h1
 | a::x,b,⟨h1,h2⟩,j+1,h=>by
  intro c hc;have:=h2.at j (by simpa using h) c hc;omega
theorem Low.one {b:Nat} {x:Nod} (h:∀c∈x.of,c<b):Low b [x]:=⟨h,trivial⟩
theorem Exs.kf:∀(e:Exs) (b:Nat),∀c∈e.places b,c<b+e.sz
 | .nil,_,c,h=>by simp [Exs.places] at h
 | .cons e r,b,c,h=>by
  rw [Exs.places] at h;have:=e.i6
  rcases Y3.1 h with rfl|h
  ·rw [Exs.sz];omega
  ·have:=r.kf _ c h
   rw [Exs.sz];omega
theorem Bl.kf:∀(e:Bl) (b:Nat),∀c∈e.places b,c<b+e.sz
 | .nil,_,c,h=>by simp [Bl.places] at h
 | .cons e r,b,c,h=>by
  rw [Bl.places] at h;have:=e.i6
  rcases Y3.1 h with rfl|h
  ·rw [Bl.sz];omega
  ·have:=r.kf _ c h
   rw [Bl.sz];omega
mutual
theorem Ex.low:∀(e:Ex) (b:Nat),Low b (e.flat b)
 | .num _,b=>⟨by simp,trivial⟩
 | .name _,b=>⟨by simp,trivial⟩
 | .bin k x y,b=>by
  have:=x.i6;have:=y.i6;exact ((x.low b).app (by rw [Ex.ax];exact y.low _)).app (Low.one (by simp [Ex.ax];omega))
 | .call o v ar,b=>(ar.low b).app (Low.one (by rw [Exs.ax];exact ar.kf b))
theorem Exs.low:∀(e:Exs) (b:Nat),Low b (e.flat b)
 | .nil,b=>trivial
 | .cons e r,b=>(e.low b).app (by rw [Ex.ax];exact r.low _)
end
theorem Bl.vf {x:Bl} {b:Nat} (h:Low b (x.flat b)):Low b (x.all b):=h.app (Low.one (by rw [Bl.ax];exact x.kf b))
mutual
theorem Stm.low:∀(e:Stm) (b:Nat),Low b (e.flat b)
 | .set s e,b=>(e.low b).app (Low.one (by have:=e.i6;simp [Ex.ax];omega))
 | .task par to f ar,b=>(ar.low b).app (Low.one (by rw [Exs.ax];exact ar.kf b))
 | .sync,b=>⟨by simp,trivial⟩
 | .if1 e x,b=>by
  have:=e.i6;exact ((e.low b).app (by rw [Ex.ax];exact Bl.vf (x.low _))).app (Low.one (by simp [Ex.ax,Bl.ax];omega))
 | .if2 e x y,b=>by
  have:=e.i6;exact (((e.low b).app (by rw [Ex.ax];exact Bl.vf (x.low _))).app (by
   rw [YP,Ex.ax,show (x.flat (b+e.sz)++[(⟨18,0,[],[],x.places (b+e.sz)⟩:Nod)]).length=x.sz+1 from x.fy _,<- ZG];exact Bl.vf (y.low _))).app (Low.one (by simp [Ex.ax,Bl.ax];omega))
 | .loop e x,b=>by
  have:=e.i6;exact ((e.low b).app (by rw [Ex.ax];exact Bl.vf (x.low _))).app (Low.one (by simp [Ex.ax,Bl.ax];omega))
 | .one k e,b=>(e.low b).app (Low.one (by have:=e.i6;simp [Ex.ax];omega))
 | .act o v ar,b=>((ar.low b).app (Low.one (by rw [Exs.ax];exact ar.kf b))).app (Low.one (by simp [Exs.ax]))
theorem Bl.low:∀(e:Bl) (b:Nat),Low b (e.flat b)
 | .nil,b=>trivial
 | .cons e r,b=>(e.low b).app (by rw [Stm.ax];exact r.low _)
end
theorem zK:∀(fs:List Fn) (b:Nat),Low b (bV fs b)
 | [],b=>trivial
 | f::fs,b=>(Bl.vf (f.body.low b)).app (by rw [Bl.fy];exact zK fs _)
end Uw.Tryz
namespace Uw.Tryz
open Go Uw
def cQ (k:Int):Int:=if 1<=k/\k<=8 then 1 else if 9<=k/\k<=17 then 2 else if k=18 then 3 else 0
def cU (ns:List Nd) (i:Int):Int:=(ns.getD i.toNat default).kind
def ct (ns:List Nd) (x:Nd):List Int:=x.of.map fun k=>cQ (cU ns k)
def dY (k n:Int) (so:List Int) (k0:Int):Bool:=
 if k=1 then decide (so=[])&&decide (0<=n)&&decide (n<4294967296)
 else if k=2\/k=12 then decide (so=[])
 else if k=3\/k=4\/k=5\/k=6\/k=7\/k=11 then decide (so=[1,1])
 else if k=8\/k=10 then so.all fun s=>decide (s=1)
 else if k=9\/k=15\/k=16 then decide (so=[1])
 else if k=17 then decide (so=[1])&&decide (k0=8)
 else if k=13 then decide (so=[1,3])||decide (so=[1,3,3])
 else if k=14 then decide (so=[1,3])
 else if k=18 then so.all fun s=>decide (s=2)
 else false
def dH (ns:List Nd) (x:Nd):Bool:=dY x.kind x.n (ct ns x) (cU ns (x.of.headD 0))
def mK (ns:List Nd) (i:Nat) (x:Nd):Bool:=(x.of.all fun k=>decide (0<=k)&&decide (k<i))&&dH ns x
def ez (ns:List Nd):Nat->List Nd->Bool
 | _,[]=>true
 | i,x::r=>mK ns i x&&ez ns (i+1) r
def gQ (ns:List Nd) (f:Fu):Bool:=decide (0<=f.body)&&decide (f.body<ns.length)&&decide (cU ns f.body=18)
def eX (p:Pg):List Int:=(p.nodes.flatMap (·.of))++p.ae.map (·.body)
def aY (p:Pg):Bool:=ez p.nodes 0 p.nodes&&p.ae.all (gQ p.nodes)&&(List.range p.nodes.length).all fun k=>decide ((eX p).count (k:Int)=1)
def aE (p:Pg) (s:Str):Option Int:=(p.decls.find? fun d=>decide (d.name=s)).map (·.kind)
def cV (p:Pg) (s:Str):Option Nat:=p.ae.findIdx? fun f=>decide (f.name=s)
def nW:List Fu->Nat->List Int->List Int
 | [],_,o=>o
 | f::fs,i,o=>nW fs (i+1) (o.set f.body.toNat i)
def fV (o:List Int) (i:Nat) (x:Nd):List Int:=x.of.foldl (fun o k=>o.set k.toNat (o.getD i 0)) o
def eA:List (Nat×Nd)->List Int->List Int
 | [],o=>o
 | (i,x)::r,o=>eA r (fV o i x)
def idx {α:Type}:Nat->List α->List (Nat×α)
 | _,[]=>[]
 | i,x::r=>(i,x)::idx (i+1) r
def aD (p:Pg):List Int:=eA (idx 0 p.nodes).reverse (nW p.ae 0 (List.replicate p.nodes.length 0))
def dA (p:Pg) (x:Nd):Bool:=(decide (x.kind=9)||decide (x.kind=10)||decide (x.kind=11))&&!decide (x.name=[])&&(aE p x.name).isNone
def addLocal (ls:List (List Str)) (f:Nat) (s:Str):List (List Str):=if s∈ls.getD f [] then ls else ls.set f (ls.getD f []++[s])
def dc (p:Pg):List (Nd×Int)->List (List Str)->List (List Str)
 | [],ls=>ls
 | (x,o)::r,ls=>dc p r (if dA p x then addLocal ls o.toNat x.name else ls)
def aj (p:Pg):List (List Str):=dc p (p.nodes.zip (aD p)) (p.ae.map (·.args))
def jG (p:Pg) (f:Int):List Str:=if f<0\/(p.ae.length:Int)<=f\/aY p=false then [] else (aj p).getD f.toNat []
def LN:Str:=[103,101,116]
def LO:Str:=[100,101,108]
def LP:Str:=[112,117,116]
def DG:Str:=[112,117,115,104]
def LQ:Str:=[112,111,112]
def DI:Str:=[115,101,110,100]
def DJ:Str:=[114,101,99,118]
def eY:Str:=[109,97,105,110]
def cX (k:Int) (s:Str):Option Int:=
 if k=1 then (if s=LN\/s=LO then some 1 else if s=LP then some 2 else none)
 else if k=2 then (if s=DG then some 1 else if s=LQ then some 0 else none)
 else if k=3 then (if s=DI then some 1 else if s=DJ then some 0 else none)
 else none
def dw (p:Pg):Bool:=
 decide (16<p.ae.length)||decide (16<(p.decls.countP fun d=>decide (d.kind=0)))||decide (8<(p.decls.countP fun d=>decide (d.kind=1)))||decide (8<(p.decls.countP fun d=>decide (d.kind=2)))||decide (8<(p.decls.countP fun d=>decide (d.kind=3)))
 ||((aj p).any fun l=>decide (16<l.length))||(p.nodes.any fun x=>decide (x.kind=10)&&decide (16<x.of.length))
def jq (p:Pg):List Str->List Str->Bool
 | _,[]=>false
 | seen,a::r=>(aE p a).isSome||decide (a∈seen)||jq p (a::seen) r
def dp (p:Pg):Bool:=!decide ((p.decls.map (·.name)).Nodup)||!decide ((p.ae.map (·.name)).Nodup)||(p.ae.any fun f=>jq p [] f.args)
def ft (p:Pg) (x:Nd) (o:Int):Bool:=
 if x.kind=10\/x.kind=11 then (cV p x.name2).isNone
 else if x.kind=8 then (aE p x.name).isNone
 else if x.kind=2 then (aE p x.name).isNone&&!decide (x.name∈(aj p).getD o.toNat [])
 else false
def nameP (p:Pg):Bool:=(cV p eY).isNone||((p.nodes.zip (aD p)).any fun y=>ft p y.1 y.2)||(p.decls.any fun d=>decide (d.kind<0)||decide (3<d.kind))
def iN (p:Pg) (x:Nd):Bool:=
 if x.kind=2\/x.kind=9 then (match aE p x.name with|some k=>!decide (k=0)|none=>false)
 else if x.kind=10\/x.kind=11 then (aE p x.name).isSome
 else if x.kind=8 then (cX ((aE p x.name).getD 0) x.name2).isNone
 else false
def gx (p:Pg):Bool:=p.nodes.any (iN p)
def argsAt (p:Pg) (s:Str):Nat:=(p.ae.getD ((cV p s).getD 0) default).args.length
def manyN (p:Pg) (x:Nd):Bool:=
 if x.kind=10 then !decide (x.of.length=argsAt p x.name2)
 else if x.kind=11 then !decide (argsAt p x.name2=1)
 else if x.kind=8 then !decide ((x.of.length:Int)=(cX ((aE p x.name).getD 0) x.name2).getD 0)
 else false
def fu (p:Pg):Bool:=decide (0<argsAt p eY)||p.nodes.any (manyN p)
def jT (p:Pg):Int:=if aY p=false then 1 else if dw p then 2 else if dp p then 5 else if nameP p then 4 else if gx p then 6 else if fu p then 7 else 0
end Uw.Tryz
