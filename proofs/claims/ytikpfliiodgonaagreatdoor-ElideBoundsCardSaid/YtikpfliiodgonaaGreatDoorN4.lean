/- N4: Sa Xa Pa Pa2 Pa3 Pt Pu Pv Pw Ca (merged by merge2.py from the working texts). -/
import Derived.Test.YtikpfliiodgonaaGreatDoorN3
import Derived.Test.YtikpfliiodgonaaGreatDoorProg
import Derived.Lib.LaidTab
import Derived.LaidSub
import Derived.MakeChecks
import Derived.Lib.ItoaNum
import Derived.KernelRfl
import Derived.Lib.Join
set_option linter.unusedSimpArgs false
set_option linter.unnecessarySimpa false
set_option linter.unusedVariables false
set_option linter.unusedSectionVars false
namespace Uw.Tryz
open Go Uw
noncomputable abbrev P0:Program:=Go.Proofs.Tryz.prog
theorem XL:P0.globalNamed "internal/strconv.uint64pow10" = some 3:=by kernel_rfl
noncomputable instance glob:Glob where
 n:=3+1
 p:=fun w=>Lib.TabIs P0 w "internal/strconv.uint64pow10" .u64 Lib.pow10Tab
 ok:=by
  intro w w' h hp;unfold Lib.TabIs World.var? at *;rw [XL] at hp ⊢;simp only [Option.bind_some] at hp ⊢;rw [h 3 (by decide)];exact hp
theorem gok {W:World} {l:List (String×DataW Unit)} (h:laidMetH P0 l W) (hl:(l.filter fun x=>x.1 == "internal/strconv.uint64pow10")=[("internal/strconv.uint64pow10",Lib.tabData .u64 Lib.pow10Tab)]) {t e:TypeId} (hty:(P0.globals[3]?).map (·.type)=some t) (ht:P0.underlying t=some (.array 20 e)) (he:P0.underlying e=some (.int .u64)) (hce:P0.cellsOf e=1) (hct:P0.cellsOf t=20):GOk W.heap.size W:=by
 have h1:=laidMetH.filter (fun x=>x.1 == "internal/strconv.uint64pow10") h;rw [hl,MakeChecks.laidMetH_plain _ _ _ rfl] at h1;have h2:Lib.TabIs P0 W "internal/strconv.uint64pow10" .u64 Lib.pow10Tab:=Lib.tabIs_of_head XL hty ht he hce hct h1;refine ⟨aa8 _,?_,h2⟩;show 3+1<=W.heap.size;unfold Lib.TabIs World.var? at h2;rw [XL] at h2;simp only [Option.bind_some] at h2
 rcases ab2 3 W.heap.size with h3|h3
 ·exact h3
 ·rw [ab4 h3] at h2
  simp at h2
end Uw.Tryz
namespace Uw.Tryz
open Go Uw
abbrev I (n:Int):Dat:=.int .i64 n
structure Tok where
 kind:Int
 text:List UInt8
 n:Int
 at_:Int
 deriving DecidableEq,Inhabited
def UT (t:Tok):List Dat:=[I t.kind,.str t.text,I t.n,I t.at_]
def Rm (l:List Tok):Dat:=.slice 4 (l.map UT) false
def cls (c:UInt8):Nat:=
 if 97<=c.toNat/\c.toNat<=122\/65<=c.toNat/\c.toNat<=90 then 1
 else if 48<=c.toNat/\c.toNat<=57 then 2
 else if c.toNat=95 then 3
 else if c.toNat=9\/c.toNat=10\/c.toNat=32 then 4
 else if c.toNat=40\/c.toNat=41\/c.toNat=123\/c.toNat=125\/c.toNat=44\/c.toNat=59\/c.toNat=46\/c.toNat=61\/c.toNat=43\/c.toNat=45\/c.toNat=42\/c.toNat=60 then 5
 else 0
def nameB (c:UInt8):Bool:=decide (cls c=1)||decide (cls c=2)||decide (cls c=3)
def eV (c:UInt8):Bool:=decide (cls c=2)
def rP (l:List UInt8):Nat:=l.foldl (fun n b=>10 * n+(b.toNat - 48)) 0
def II (r:List UInt8):Bool:=match r with|[]=>false|b::_=>decide (cls b=1)||decide (cls b=3)
def eqq (r:List UInt8):Bool:=match r with|[]=>false|b::_=>decide (b.toNat=61)
def db:List UInt8->Option (Int×Nat×Int)
 | []=>none
 | c::t=>
  if cls c=1 then (if 1+(t.takeWhile nameB).length<=12 then some (1,1+(t.takeWhile nameB).length,0) else none)
  else if cls c=2 then
   (if 1+(t.takeWhile eV).length<=10/\¬(1<1+(t.takeWhile eV).length/\c.toNat=48)/\rP (c::t.takeWhile eV)<4294967296/\II (t.dropWhile eV)=false
    then some (2,1+(t.takeWhile eV).length,(rP (c::t.takeWhile eV):Nat)) else none)
  else if cls c=5 then (if c.toNat=61/\eqq t=true then some (3,2,0) else some (3,1,0))
  else none
def Ef:Nat->List UInt8->Int->Option (List Tok)
 | _,[],_=>some []
 | 0,_,_=>none
 | f+1,c::t,at_=>
  if cls c=4 then Ef f t (at_+1)
  else match db (c::t) with
   | none=>none
   | some (k,n,v)=>(Ef f ((c::t).drop n) (at_+n)).map (⟨k,(c::t).take n,v,at_⟩::·)
def pW (r:List UInt8) (at_:Int):Option (List Tok):=Ef r.length r at_
theorem mN {α:Type} (p:α->Bool) (l:List α):(l.takeWhile p).length<=l.length:=(adH (p:=p) (l:=l)).length_le
theorem tY {r:List UInt8} {k:Int} {n:Nat} {v:Int} (h:db r=some (k,n,v)):1<=n/\n<=r.length:=by
 cases r with
 | nil=>simp [db] at h
 | cons c t=>
  have h1:=mN nameB t;have h2:=mN eV t;rw [db] at h;by_cases a1:cls c=1
  ·rw [if_pos a1] at h
   split at h
   ·simp at h;simp;omega
   ·cases h
  ·rw [if_neg a1] at h
   by_cases a2:cls c=2
   ·rw [if_pos a2] at h
    split at h
    ·simp only [abq,ab6] at h;simp only [abp];omega
    ·cases h
   ·rw [if_neg a2] at h
    split at h
    ·split at h
     ·rename_i h3
      cases t with
      | nil=>simp [eqq] at h3
      | cons b u=>simp at h;simp;omega
     ·simp at h;simp;omega
    ·cases h
theorem sD:∀(f g:Nat) (r:List UInt8) (a:Int),r.length<=f->r.length<=g->Ef f r a=Ef g r a
 | 0,g,[],a,_,_=>by cases g<;>rfl
 | f+1,g,[],a,_,_=>by cases g<;>rfl
 | 0,_,_::_,_,h,_=>by simp at h
 | _+1,0,_::_,_,_,h=>by simp at h
 | f+1,g+1,c::t,a,h1,h2=>by
  simp only [abp] at h1 h2;rw [Ef,Ef];by_cases hb:cls c=4
  ·rw [if_pos hb,if_pos hb];exact sD f g t (a+1) (by omega) (by omega)
  ·rw [if_neg hb,if_neg hb]
   cases ht:db (c::t) with
   | none=>rfl
   | some x=>
    obtain ⟨k,n,v⟩:=x;have:=tY ht;simp only [abp] at this;simp only;rw [sD f g ((c::t).drop n) (a+n) (by simp;omega) (by simp;omega)]
theorem Rn (a:Int):pW [] a=some []:=rfl
theorem KT (c:UInt8) (t:List UInt8) (a:Int) (h:cls c=4):pW (c::t) a=pW t (a+1):=by
 rw [pW,abp,Ef,if_pos h];rfl
theorem OO (c:UInt8) (t:List UInt8) (a:Int) (h:cls c≠4) (h2:db (c::t)=none):pW (c::t) a=none:=by
 rw [pW,abp,Ef,if_neg h,h2]
theorem Ro (c:UInt8) (t:List UInt8) (a:Int) (h:cls c≠4) {k:Int} {n:Nat} {v:Int} (h2:db (c::t)=some (k,n,v)):pW (c::t) a=(pW ((c::t).drop n) (a+n)).map (⟨k,(c::t).take n,v,a⟩::·):=by
 have:=tY h2;simp only [abp] at this;rw [pW,abp,Ef,if_neg h,h2];simp only;rw [pW,sD t.length _ ((c::t).drop n) (a+n) (by simp;omega) (aa8 _)]
def sE (s:List UInt8):List Tok×Int:=if 4000<s.length then ([],2) else match pW s 0 with|none=>([],3)|some l=>(l,0)
def KU (x:List Tok×Int):Dat:=.tuple [Rm x.1,I x.2]
end Uw.Tryz
namespace Uw.Tryz
open Go Uw
abbrev Str:=List UInt8
mutual
inductive Ex where
 | num (n:Int)
 | name (s:Str)
 | bin (k:Int) (a b:Ex)
 | call (o v:Str) (ar:Exs)
inductive Exs where
 | nil
 | cons (e:Ex) (r:Exs)
end
mutual
inductive Stm where
 | set (s:Str) (e:Ex)
 | task (par:Bool) (to f:Str) (ar:Exs)
 | sync
 | if1 (e:Ex) (a:Bl)
 | if2 (e:Ex) (a b:Bl)
 | loop (e:Ex) (a:Bl)
 | one (k:Int) (e:Ex)
 | act (o v:Str) (ar:Exs)
inductive Bl where
 | nil
 | cons (s:Stm) (r:Bl)
end
def Exs.length:Exs->Nat
 | .nil=>0
 | .cons _ r=>r.length+1
inductive R (α:Type) where
 | ok (a:α) (r:List Tok)
 | bad
 | out
def R.bind {α β:Type} (x:R α) (f:α->List Tok->R β):R β:=
 match x with
 | .ok a r=>f a r
 | .bad=>.bad
 | .out=>.out
def hd (r:List Tok):Str:=match r with|[]=>[]|t::_=>t.text
def want (s:Str) (r:List Tok):R Unit:=if hd r=s then .ok () r.tail else .bad
def Wb:Str:=[99,101,108,108]
def YT:Str:=[109,97,112]
def Rq:Str:=[115,116,97,99,107]
def Wc:Str:=[99,104,97,110]
def Fe:Str:=[102,117,110,99]
def cQ:Str:=[115,112,97,119,110]
def IJ:Str:=[112,97,114]
def jv:Str:=[115,121,110,99]
def sIf:Str:=[105,102]
def Rr:Str:=[101,108,115,101]
def KW:Str:=[119,104,105,108,101]
def A7:Str:=[114,101,116,117,114,110]
def dC:Str:=[97,115,115,101,114,116]
def YU (s:Str):Bool:=decide (s=Wb)||decide (s=YT)||decide (s=Rq)||decide (s=Wc)||decide (s=Fe)||decide (s=cQ)||decide (s=IJ)||decide (s=jv)||decide (s=sIf)||decide (s=Rr)||decide (s=KW)||decide (s=A7)||decide (s=dC)
def wI (k:Int) (r:List Tok):R Tok:=
 match r with
 | []=>.bad
 | t::r'=>if t.kind=k then .ok t r' else .bad
def isNum (r:List Tok):Bool:=match r with|[]=>false|t::_=>decide (t.kind=2)
def numOf (r:List Tok):Int:=match r with|[]=>0|t::_=>t.n
def nr (r:List Tok):R Str:=(wI 1 r).bind fun t r'=>if YU t.text then .bad else .ok t.text r'
mutual
def oD:Nat->List Tok->R Ex
 | 0,_=>.out
 | n+1,r=>
  if hd r=[40] then (eW n r.tail).bind fun e r=>(want [41] r).bind fun _ r=>.ok e r
  else if isNum r then .ok (.num (numOf r)) r.tail
  else (nr r).bind fun s r=>if hd r=[46] then (kM n s r).bind fun x r=>.ok (.call s x.1 x.2) r else .ok (.name s) r
def kM:Nat->Str->List Tok->R (Str×Exs)
 | 0,_,_=>.out
 | n+1,s,r=>(want [46] r).bind fun _ r=>(nr r).bind fun v r=>(nw n r).bind fun ar r=>.ok (v,ar) r
def nw:Nat->List Tok->R Exs
 | 0,_=>.out
 | n+1,r=>(want [40] r).bind fun _ r=>if hd r=[41] then .ok .nil r.tail else (eW n r).bind fun e r=>(gX n r).bind fun es r=>.ok (.cons e es) r
def gX:Nat->List Tok->R Exs
 | 0,_=>.out
 | n+1,r=>if hd r=[44] then (eW n r.tail).bind fun e r=>(gX n r).bind fun es r=>.ok (.cons e es) r
  else (want [41] r).bind fun _ r=>.ok .nil r
def lL:Nat->List Tok->R Ex
 | 0,_=>.out
 | n+1,r=>(oD n r).bind fun e r=>jx n e r
def jx:Nat->Ex->List Tok->R Ex
 | 0,_,_=>.out
 | n+1,left,r=>if hd r=[42] then (oD n r.tail).bind fun e r=>jx n (.bin 5 left e) r else .ok left r
def uj:Nat->List Tok->R Ex
 | 0,_=>.out
 | n+1,r=>(lL n r).bind fun e r=>lM n e r
def lM:Nat->Ex->List Tok->R Ex
 | 0,_,_=>.out
 | n+1,left,r=>
  if hd r=[43] then (lL n r.tail).bind fun e r=>lM n (.bin 3 left e) r
  else if hd r=[45] then (lL n r.tail).bind fun e r=>lM n (.bin 4 left e) r
  else .ok left r
def eW:Nat->List Tok->R Ex
 | 0,_=>.out
 | n+1,r=>(uj n r).bind fun left r=>
  if hd r=[60] then (uj n r.tail).bind fun e r=>.ok (.bin 6 left e) r
  else if hd r=[61,61] then (uj n r.tail).bind fun e r=>.ok (.bin 7 left e) r
  else .ok left r
end
def iG (n:Nat) (to:Str) (r:List Tok):R Stm:=
 (if hd r=cQ then R.ok false r.tail else (want IJ r).bind fun _ r=>.ok true r).bind fun par r=>
  (nr r).bind fun f r=>(nw n r).bind fun ar r=>if par=true/\ar.length≠2 then .bad else .ok (.task par to f ar) r
def kA (n:Nat) (r:List Tok):R Stm:=
 if hd r=cQ\/hd r=IJ then iG n [] r
 else if hd r=jv then .ok .sync r.tail
 else if hd r=A7 then (eW n r.tail).bind fun e r=>.ok (.one 15 e) r
 else if hd r=dC then (eW n r.tail).bind fun e r=>.ok (.one 16 e) r
 else (nr r).bind fun s r=>
  if hd r=[46] then (kM n s r).bind fun x r=>.ok (.act s x.1 x.2) r
  else (want [61] r).bind fun _ r=>
   if hd r=cQ\/hd r=IJ then iG n s r else (eW n r).bind fun e r=>.ok (.set s e) r
mutual
def rG:Nat->List Tok->R Stm
 | 0,_=>.out
 | n+1,r=>
  if hd r=sIf then (eW n r.tail).bind fun e r=>(fM n r).bind fun a r=>
   if hd r=Rr then (fM n r.tail).bind fun b r=>.ok (.if2 e a b) r else .ok (.if1 e a) r
  else if hd r=KW then (eW n r.tail).bind fun e r=>(fM n r).bind fun a r=>.ok (.loop e a) r
  else (kA n r).bind fun s r=>(want [59] r).bind fun _ r=>.ok s r
def fM:Nat->List Tok->R Bl
 | 0,_=>.out
 | n+1,r=>(want [123] r).bind fun _ r=>jy n r
def jy:Nat->List Tok->R Bl
 | 0,_=>.out
 | n+1,r=>if hd r=[125] then .ok .nil r.tail else (rG n r).bind fun s r=>(jy n r).bind fun ss r=>.ok (.cons s ss) r
end
structure Dec where
 kind:Int
 name:Str
 n:Int
 deriving DecidableEq,Inhabited
structure Fn where
 name:Str
 args:List Str
 body:Bl
def gB:Nat->List Tok->R (List Str)
 | 0,_=>.out
 | n+1,r=>if hd r=[44] then (nr r.tail).bind fun s r=>(gB n r).bind fun l r=>.ok (s::l) r
  else (want [41] r).bind fun _ r=>.ok [] r
def sF (n:Nat) (r:List Tok):R (List Str):=(want [40] r).bind fun _ r=>
 if hd r=[41] then .ok [] r.tail else (nr r).bind fun s r=>(gB n r).bind fun l r=>.ok (s::l) r
def Eg (n:Nat) (r:List Tok):R Fn:=(want Fe r).bind fun _ r=>(nr r).bind fun s r=>(sF n r).bind fun l r=>(fM n r).bind fun b r=>.ok ⟨s,l,b⟩ r
def kindOf (s:Str):Option Int:=if s=Wb then some 0 else if s=YT then some 1 else if s=Rq then some 2 else if s=Wc then some 3 else none
def IK (r:List Tok):R Dec:=(wI 1 r).bind fun t r=>match kindOf t.text with
 | none=>.bad
 | some k=>(nr r).bind fun s r=>
  (if k=0/\hd r=[61] then (wI 2 r.tail).bind fun t r=>R.ok t.n r else .ok 0 r).bind fun v r=>(want [59] r).bind fun _ r=>.ok ⟨k,s,v⟩ r
def CG:Nat->List Tok->R (List Dec)
 | 0,_=>.out
 | n+1,r=>if r=[]\/hd r=Fe then .ok [] r else (IK r).bind fun d r=>(CG n r).bind fun l r=>.ok (d::l) r
def IL:Nat->List Tok->R (List Fn)
 | 0,_=>.out
 | n+1,r=>if r=[] then .ok [] r else (Eg n r).bind fun f r=>(IL n r).bind fun l r=>.ok (f::l) r
def Wg (n:Nat) (r:List Tok):R (List Dec×List Fn):=(CG n r).bind fun d r=>(IL n r).bind fun f r=>.ok (d,f) r
structure Nod where
 kind:Int
 n:Int
 name:Str
 name2:Str
 of:List Nat
 deriving DecidableEq,Inhabited
mutual
def Ex.sz:Ex->Nat
 | .num _=>1
 | .name _=>1
 | .bin _ a b=>a.sz+b.sz+1
 | .call _ _ ar=>ar.sz+1
def Exs.sz:Exs->Nat
 | .nil=>0
 | .cons e r=>e.sz+r.sz
end
def Exs.places:Exs->Nat->List Nat
 | .nil,_=>[]
 | .cons e r,b=>(b+e.sz - 1)::r.places (b+e.sz)
mutual
def Ex.flat:Ex->Nat->List Nod
 | .num n,_=>[⟨1,n,[],[],[]⟩]
 | .name s,_=>[⟨2,0,s,[],[]⟩]
 | .bin k x y,b=>x.flat b++y.flat (b+x.sz)++[⟨k,0,[],[],[b+x.sz - 1,b+x.sz+y.sz - 1]⟩]
 | .call o v ar,b=>ar.flat b++[⟨8,0,o,v,ar.places b⟩]
def Exs.flat:Exs->Nat->List Nod
 | .nil,_=>[]
 | .cons e r,b=>e.flat b++r.flat (b+e.sz)
end
mutual
def Stm.sz:Stm->Nat
 | .set _ e=>e.sz+1
 | .task _ _ _ ar=>ar.sz+1
 | .sync=>1
 | .if1 e a=>e.sz+(a.sz+1)+1
 | .if2 e a b=>e.sz+(a.sz+1)+(b.sz+1)+1
 | .loop e a=>e.sz+(a.sz+1)+1
 | .one _ e=>e.sz+1
 | .act _ _ ar=>ar.sz+1+1
def Bl.sz:Bl->Nat
 | .nil=>0
 | .cons s r=>s.sz+r.sz
end
def Bl.places:Bl->Nat->List Nat
 | .nil,_=>[]
 | .cons s r,b=>(b+s.sz - 1)::r.places (b+s.sz)
mutual
def Stm.flat:Stm->Nat->List Nod
 | .set s e,b=>e.flat b++[⟨9,0,s,[],[b+e.sz - 1]⟩]
 | .task par to f ar,b=>ar.flat b++[⟨if par then 11 else 10,0,to,f,ar.places b⟩]
 | .sync,b=>[⟨12,0,[],[],[]⟩]
 | .if1 e x,b=>e.flat b++(x.flat (b+e.sz)++[⟨18,0,[],[],x.places (b+e.sz)⟩])++[⟨13,0,[],[],[b+e.sz - 1,b+e.sz+(x.sz+1) - 1]⟩]
 | .if2 e x y,b=>e.flat b++(x.flat (b+e.sz)++[⟨18,0,[],[],x.places (b+e.sz)⟩])++(y.flat (b+e.sz+(x.sz+1))++[⟨18,0,[],[],y.places (b+e.sz+(x.sz+1))⟩])++[⟨13,0,[],[],[b+e.sz - 1,b+e.sz+(x.sz+1) - 1,b+e.sz+(x.sz+1)+(y.sz+1) - 1]⟩]
 | .loop e x,b=>e.flat b++(x.flat (b+e.sz)++[⟨18,0,[],[],x.places (b+e.sz)⟩])++[⟨14,0,[],[],[b+e.sz - 1,b+e.sz+(x.sz+1) - 1]⟩]
 | .one k e,b=>e.flat b++[⟨k,0,[],[],[b+e.sz - 1]⟩]
 | .act o v ar,b=>ar.flat b++[⟨8,0,o,v,ar.places b⟩]++[⟨17,0,[],[],[b+ar.sz+1 - 1]⟩]
def Bl.flat:Bl->Nat->List Nod
 | .nil,_=>[]
 | .cons s r,b=>s.flat b++r.flat (b+s.sz)
end
def Bl.all (x:Bl) (b:Nat):List Nod:=x.flat b++[⟨18,0,[],[],x.places b⟩]
mutual
theorem Ex.GL:∀(e:Ex),1<=e.sz
 | .num _=>aa8 _
 | .name _=>aa8 _
 | .bin _ a b=>by rw [Ex.sz];omega
 | .call _ _ ar=>by rw [Ex.sz];omega
end
theorem Stm.GL (s:Stm):1<=s.sz:=by cases s<;>simp only [Stm.sz]<;>omega
end Uw.Tryz
namespace Uw.Tryz
open Go Uw
theorem bind_ok {α β:Type} {x:R α} {f:α->List Tok->R β} {b:β} {r:List Tok}:x.bind f = .ok b r<->∃a r1,x = .ok a r1/\f a r1 = .ok b r:=by
 cases x with
 | ok a r1=>exact ⟨fun h=>⟨a,r1,rfl,h⟩,fun ⟨_,_,h1,h2⟩=>by injection h1 with e1 e2;subst e1 e2;exact h2⟩
 | bad=>exact ⟨fun h=>(by cases h),fun ⟨_,_,h,_⟩=>(by cases h)⟩
 | out=>exact ⟨fun h=>(by cases h),fun ⟨_,_,h,_⟩=>(by cases h)⟩
def Suf (r r' : List Tok) (s:Nat):Prop:=∃j,j<=r.length/\r' = r.drop j/\s<=j
theorem Suf.refl (r:List Tok):Suf r r 0:=⟨0,by simp,rfl,aa8 _⟩
theorem Suf.trans {a b c:List Tok} {s t:Nat} (h1:Suf a b s) (h2:Suf b c t):Suf a c (s+t):=by
 obtain ⟨i,i1,rfl,i3⟩:=h1;obtain ⟨j,j1,rfl,j3⟩:=h2;simp at j1;exact ⟨i+j,by omega,by rw [acM],by omega⟩
theorem Suf.le {a b:List Tok} {s t:Nat} (h:Suf a b s) (hl:t<=s):Suf a b t:=by
 obtain ⟨i,i1,i2,i3⟩:=h;exact ⟨i,i1,i2,by omega⟩
theorem Suf.tail {r:List Tok} (h:r≠[]):Suf r r.tail 1:=by
 cases r with
 | nil=>exact absurd rfl h
 | cons a l=>exact ⟨1,by simp,rfl,aa8 _⟩
theorem YV {r:List Tok} {s:Str} (h:hd r=s) (hs:s≠[]):r≠[]:=by
 rintro rfl;exact hs h.symm
theorem Suf.hd {r:List Tok} {s:Str} (h:hd r=s) (hs:s≠[]):Suf r r.tail 1:=Suf.tail (YV h hs)
theorem M1 {s:Str} {r r' : List Tok} {u:Unit} (h:want s r = .ok u r'):Uw.Tryz.hd r=s/\r' = r.tail:=by
 rw [want] at h
 split at h
 ·rename_i hh
  injection h with _ h
  exact ⟨hh,h.symm⟩
 ·cases h
theorem GM {k:Int} {r r' : List Tok} {t:Tok} (h:wI k r = .ok t r'):∃q,r=t::q/\r' = q/\t.kind=k:=by
 cases r with
 | nil=>rw [wI] at h;cases h
 | cons a q=>
  rw [wI] at h
  split at h
  ·rename_i hk
   injection h with h1 h2
   subst h1 h2;exact ⟨q,rfl,rfl,hk⟩
  ·cases h
theorem M3 {r r' : List Tok} {s:Str} (h:nr r = .ok s r'):∃t,r=t::r'/\s=t.text/\t.kind=1/\YU t.text=false:=by
 rw [nr,bind_ok] at h;obtain ⟨t,r1,h1,h2⟩:=h;obtain ⟨q,rfl,rfl,hk⟩:=GM h1
 split at h2
 ·cases h2
 ·rename_i hkw
  injection h2 with e1 e2
  subst e1 e2;exact ⟨t,rfl,rfl,hk,by simpa using hkw⟩
theorem Suf.name {r r' : List Tok} {s:Str} (h:nr r = .ok s r'):Suf r r' 1:=by
 obtain ⟨t,rfl,_⟩:=M3 h;exact ⟨1,by simp,rfl,aa8 _⟩
theorem Suf.want {s:Str} (hs:s≠[]) {r r' : List Tok} {u:Unit} (h:want s r = .ok u r'):Suf r r' 1:=by
 obtain ⟨h1,rfl⟩:=M1 h;exact Suf.hd h1 hs
structure ZU (n:Nat):Prop where
 Eh:∀r e r',oD n r = .ok e r'->Suf r r' e.sz
 call:∀s r x r',kM n s r = .ok x r'->Suf r r' (x.2.sz+1)
 args:∀r x r',nw n r = .ok x r'->Suf r r' (x.sz+1)
 CH:∀r x r',gX n r = .ok x r'->Suf r r' x.sz
 prod:∀r e r',lL n r = .ok e r'->Suf r r' e.sz
 zA:∀l r e r',jx n l r = .ok e r'->Suf r r' (e.sz - l.sz)/\l.sz<=e.sz
 sum:∀r e r',uj n r = .ok e r'->Suf r r' e.sz
 sumT:∀l r e r',lM n l r = .ok e r'->Suf r r' (e.sz - l.sz)/\l.sz<=e.sz
 expr:∀r e r',eW n r = .ok e r'->Suf r r' e.sz
theorem rH:∀n,ZU n
 | 0=>by
  refine ⟨?_,?_,?_,?_,?_,?_,?_,?_,?_⟩
  ·intro _ _ _ h;rw [oD] at h;cases h
  ·intro _ _ _ _ h;rw [kM] at h;cases h
  ·intro _ _ _ h;rw [nw] at h;cases h
  ·intro _ _ _ h;rw [gX] at h;cases h
  ·intro _ _ _ h;rw [lL] at h;cases h
  ·intro _ _ _ _ h;rw [jx] at h;cases h
  ·intro _ _ _ h;rw [uj] at h;cases h
  ·intro _ _ _ _ h;rw [lM] at h;cases h
  ·intro _ _ _ h;rw [eW] at h;cases h
 | n+1=>by
  have ih:=rH n;refine ⟨?_,?_,?_,?_,?_,?_,?_,?_,?_⟩
  ·intro r e r' h
   rw [oD] at h
   split at h
   ·rename_i hh
    obtain ⟨e1,r1,h1,h⟩:=bind_ok.1 h;obtain ⟨_,r2,h2,h⟩:=bind_ok.1 h;injection h with h3 h4
    subst h3 h4;exact ((Suf.hd hh (by simp)).trans ((ih.expr _ _ _ h1).trans (Suf.want (by simp) h2))).le (by omega)
   ·split at h
    ·rename_i hn
     injection h with h1 h2
     subst h1 h2;exact (Suf.tail (by rintro rfl;cases hn)).le (by simp [Ex.sz])
    ·obtain ⟨s,r1,h1,h⟩:=bind_ok.1 h
     have s1:=Suf.name h1
     split at h
     ·obtain ⟨x,r2,h2,h⟩:=bind_ok.1 h
      injection h with h3 h4
      subst h3 h4;exact (s1.trans (ih.call _ _ _ _ h2)).le (by rw [Ex.sz];omega)
     ·injection h with h3 h4
      subst h3 h4;exact s1.le (by simp [Ex.sz])
  ·intro s r x r' h
   rw [kM] at h;obtain ⟨_,r1,h1,h⟩:=bind_ok.1 h;obtain ⟨v,r2,h2,h⟩:=bind_ok.1 h;obtain ⟨ar,r3,h3,h⟩:=bind_ok.1 h;injection h with h4 h5
   subst h4 h5;exact ((Suf.want (by simp) h1).trans ((Suf.name h2).trans (ih.args _ _ _ h3))).le (by simp only;omega)
  ·intro r x r' h
   rw [nw] at h;obtain ⟨_,r1,h1,h⟩:=bind_ok.1 h;have s1:=Suf.want (by simp) h1
   split at h
   ·rename_i hh
    injection h with h4 h5
    subst h4 h5;exact (s1.trans (Suf.hd hh (by simp))).le (by simp [Exs.sz])
   ·obtain ⟨e,r2,h2,h⟩:=bind_ok.1 h
    obtain ⟨es,r3,h3,h⟩:=bind_ok.1 h;injection h with h4 h5
    subst h4 h5;exact (s1.trans ((ih.expr _ _ _ h2).trans (ih.CH _ _ _ h3))).le (by rw [Exs.sz];omega)
  ·intro r x r' h
   rw [gX] at h
   split at h
   ·rename_i hh
    obtain ⟨e,r2,h2,h⟩:=bind_ok.1 h;obtain ⟨es,r3,h3,h⟩:=bind_ok.1 h;injection h with h4 h5
    subst h4 h5;exact ((Suf.hd hh (by simp)).trans ((ih.expr _ _ _ h2).trans (ih.CH _ _ _ h3))).le (by rw [Exs.sz];omega)
   ·obtain ⟨_,r1,h1,h⟩:=bind_ok.1 h
    injection h with h4 h5
    subst h4 h5;exact (Suf.want (by simp) h1).le (by simp [Exs.sz])
  ·intro r e r' h
   rw [lL] at h;obtain ⟨e1,r1,h1,h⟩:=bind_ok.1 h;obtain ⟨a1,a2⟩:=ih.zA _ _ _ _ h;exact ((ih.Eh _ _ _ h1).trans a1).le (by omega)
  ·intro l r e r' h
   rw [jx] at h
   split at h
   ·rename_i hh
    obtain ⟨e1,r1,h1,h⟩:=bind_ok.1 h;obtain ⟨a1,a2⟩:=ih.zA _ _ _ _ h;rw [Ex.sz] at a1 a2;exact ⟨((Suf.hd hh (by simp)).trans ((ih.Eh _ _ _ h1).trans a1)).le (by omega),by omega⟩
   ·injection h with h4 h5
    subst h4 h5;exact ⟨(Suf.refl _).le (by omega),aa8 _⟩
  ·intro r e r' h
   rw [uj] at h;obtain ⟨e1,r1,h1,h⟩:=bind_ok.1 h;obtain ⟨a1,a2⟩:=ih.sumT _ _ _ _ h;exact ((ih.prod _ _ _ h1).trans a1).le (by omega)
  ·intro l r e r' h
   rw [lM] at h
   split at h
   ·rename_i hh
    obtain ⟨e1,r1,h1,h⟩:=bind_ok.1 h;obtain ⟨a1,a2⟩:=ih.sumT _ _ _ _ h;rw [Ex.sz] at a1 a2;exact ⟨((Suf.hd hh (by simp)).trans ((ih.prod _ _ _ h1).trans a1)).le (by omega),by omega⟩
   ·split at h
    ·rename_i hh
     obtain ⟨e1,r1,h1,h⟩:=bind_ok.1 h;obtain ⟨a1,a2⟩:=ih.sumT _ _ _ _ h;rw [Ex.sz] at a1 a2;exact ⟨((Suf.hd hh (by simp)).trans ((ih.prod _ _ _ h1).trans a1)).le (by omega),by omega⟩
    ·injection h with h4 h5
     subst h4 h5;exact ⟨(Suf.refl _).le (by omega),aa8 _⟩
  ·intro r e r' h
   rw [eW] at h;obtain ⟨e1,r1,h1,h⟩:=bind_ok.1 h;have s1:=ih.sum _ _ _ h1
   split at h
   ·rename_i hh
    obtain ⟨e2,r2,h2,h⟩:=bind_ok.1 h;injection h with h4 h5
    subst h4 h5;exact (s1.trans ((Suf.hd hh (by simp)).trans (ih.sum _ _ _ h2))).le (by rw [Ex.sz];omega)
   ·split at h
    ·rename_i hh
     obtain ⟨e2,r2,h2,h⟩:=bind_ok.1 h;injection h with h4 h5
     subst h4 h5;exact (s1.trans ((Suf.hd hh (by simp)).trans (ih.sum _ _ _ h2))).le (by rw [Ex.sz];omega)
    ·injection h with h4 h5
     subst h4 h5;exact s1
end Uw.Tryz
namespace Uw.Tryz
open Go Uw
theorem yV {n:Nat} {to:Str} {r r' : List Tok} {s:Stm} (h:iG n to r = .ok s r'):Suf r r' s.sz:=by
 rw [iG] at h;obtain ⟨p,r1,h1,h⟩:=bind_ok.1 h;obtain ⟨f,r2,h2,h⟩:=bind_ok.1 h;obtain ⟨ar,r3,h3,h⟩:=bind_ok.1 h;have s1:Suf r r1 1:=by
  split at h1
  ·rename_i hh
   injection h1 with _ e
   subst e;exact Suf.hd hh (by decide)
  ·obtain ⟨_,r4,h4,h5⟩:=bind_ok.1 h1
   injection h5 with _ e
   subst e;exact Suf.want (by decide) h4
 split at h
 ·cases h
 ·injection h with e1 e2
  subst e1 e2;exact (s1.trans ((Suf.name h2).trans ((rH n).args _ _ _ h3))).le (by rw [Stm.sz];omega)
theorem KX {n:Nat} {r r' : List Tok} {s:Stm} (h:kA n r = .ok s r'):Suf r r' s.sz:=by
 rw [kA] at h
 split at h
 ·exact yV h
 ·split at h
  ·rename_i hh
   injection h with e1 e2
   subst e1 e2;exact Suf.hd hh (by decide)
  ·split at h
   ·rename_i hh
    obtain ⟨e,r1,h1,h⟩:=bind_ok.1 h;injection h with e1 e2
    subst e1 e2;exact ((Suf.hd hh (by decide)).trans ((rH n).expr _ _ _ h1)).le (by rw [Stm.sz];omega)
   ·split at h
    ·rename_i hh
     obtain ⟨e,r1,h1,h⟩:=bind_ok.1 h;injection h with e1 e2
     subst e1 e2;exact ((Suf.hd hh (by decide)).trans ((rH n).expr _ _ _ h1)).le (by rw [Stm.sz];omega)
    ·obtain ⟨nm,r1,h1,h⟩:=bind_ok.1 h
     split at h
     ·obtain ⟨x,r2,h2,h⟩:=bind_ok.1 h
      injection h with e1 e2
      subst e1 e2;exact ((Suf.name h1).trans ((rH n).call _ _ _ _ h2)).le (by rw [Stm.sz];omega)
     ·obtain ⟨_,r2,h2,h⟩:=bind_ok.1 h
      have s2:=(Suf.name h1).trans (Suf.want (by decide) h2)
      split at h
      ·exact (s2.trans (yV h)).le (by omega)
      ·obtain ⟨e,r3,h3,h⟩:=bind_ok.1 h
       injection h with e1 e2
       subst e1 e2;exact (s2.trans ((rH n).expr _ _ _ h3)).le (by rw [Stm.sz];omega)
structure ZV (n:Nat):Prop where
 stmt:∀r s r',rG n r = .ok s r'->Suf r r' s.sz
 block:∀r s r',fM n r = .ok s r'->Suf r r' (s.sz+1)
 stmts:∀r s r',jy n r = .ok s r'->Suf r r' s.sz
theorem Wh:∀n,ZV n
 | 0=>by
  refine ⟨?_,?_,?_⟩
  ·intro _ _ _ h;rw [rG] at h;cases h
  ·intro _ _ _ h;rw [fM] at h;cases h
  ·intro _ _ _ h;rw [jy] at h;cases h
 | n+1=>by
  have ih:=Wh n;refine ⟨?_,?_,?_⟩
  ·intro r s r' h
   rw [rG] at h
   split at h
   ·rename_i hh
    obtain ⟨e,r1,h1,h⟩:=bind_ok.1 h;obtain ⟨a,r2,h2,h⟩:=bind_ok.1 h;have s2:=(Suf.hd hh (by decide)).trans (((rH n).expr _ _ _ h1).trans (ih.block _ _ _ h2))
    split at h
    ·rename_i hh2
     obtain ⟨b,r3,h3,h⟩:=bind_ok.1 h;injection h with e1 e2
     subst e1 e2;exact (s2.trans ((Suf.hd hh2 (by decide)).trans (ih.block _ _ _ h3))).le (by rw [Stm.sz];omega)
    ·injection h with e1 e2
     subst e1 e2;exact s2.le (by rw [Stm.sz];omega)
   ·split at h
    ·rename_i hh
     obtain ⟨e,r1,h1,h⟩:=bind_ok.1 h;obtain ⟨a,r2,h2,h⟩:=bind_ok.1 h;injection h with e1 e2
     subst e1 e2;exact ((Suf.hd hh (by decide)).trans (((rH n).expr _ _ _ h1).trans (ih.block _ _ _ h2))).le (by rw [Stm.sz];omega)
    ·obtain ⟨e,r1,h1,h⟩:=bind_ok.1 h
     obtain ⟨_,r2,h2,h⟩:=bind_ok.1 h;injection h with e1 e2
     subst e1 e2;exact ((KX h1).trans (Suf.want (by decide) h2)).le (by omega)
  ·intro r s r' h
   rw [fM] at h;obtain ⟨_,r1,h1,h⟩:=bind_ok.1 h;exact ((Suf.want (by decide) h1).trans (ih.stmts _ _ _ h)).le (by omega)
  ·intro r s r' h
   rw [jy] at h
   split at h
   ·rename_i hh
    injection h with e1 e2
    subst e1 e2;exact (Suf.hd hh (by decide)).le (by simp [Bl.sz])
   ·obtain ⟨e,r1,h1,h⟩:=bind_ok.1 h
    obtain ⟨ss,r2,h2,h⟩:=bind_ok.1 h;injection h with e1 e2
    subst e1 e2;exact ((ih.stmt _ _ _ h1).trans (ih.stmts _ _ _ h2)).le (by rw [Bl.sz];omega)
end Uw.Tryz
namespace Uw.Tryz
open Go Uw
def ew {α:Type} (a:α):List Tok->R α:=fun r=>.ok a r
def UU {α:Type}:List Tok->R α:=fun _=>.bad
def cX {α β:Type} (p:List Tok->R β) (f:β->List Tok->R α):List Tok->R α:=fun r=>(p r).bind f
def lN {α:Type} (s:Str) (p:List Tok->R α):List Tok->R α:=fun r=>(want s r).bind fun _ r=>p r
def fX {α:Type} (s:Str) (p q:List Tok->R α):List Tok->R α:=fun r=>if hd r=s then p r.tail else q r
def rI {α:Type} (s:Str) (p q:List Tok->R α):List Tok->R α:=fun r=>if hd r=s then p r else q r
def cName {α:Type} (f:Str->List Tok->R α):List Tok->R α:=fun r=>(nr r).bind f
def M4 {α:Type} (k:Int) (f:Str->Int->List Tok->R α):List Tok->R α:=fun r=>(wI k r).bind fun t r=>f t.text t.n r
def Rt {α:Type} (f:Int->List Tok->R α) (q:List Tok->R α):List Tok->R α:=fun r=>if isNum r then f (numOf r) r.tail else q r
theorem IP (n:Nat):oD (n+1)=fX [40] (cX (eW n) fun e=>lN [41] (ew e)) (Rt (fun v=>ew (.num v)) (cName fun s=>rI [46] (cX (kM n s) fun x=>ew (.call s x.1 x.2)) (ew (.name s)))):=by
 funext r;rw [oD];rfl
theorem IQ (n:Nat) (s:Str):kM (n+1) s=lN [46] (cName fun v=>cX (nw n) fun ar=>ew (v,ar)):=by
 funext r;rw [kM];rfl
theorem IR (n:Nat):nw (n+1)=lN [40] (fX [41] (ew .nil) (cX (eW n) fun e=>cX (gX n) fun es=>ew (.cons e es))):=by
 funext r;rw [nw];rfl
theorem Ff (n:Nat):gX (n+1)=fX [44] (cX (eW n) fun e=>cX (gX n) fun es=>ew (.cons e es)) (lN [41] (ew .nil)):=by
 funext r;rw [gX];rfl
theorem IU (n:Nat):lL (n+1)=cX (oD n) fun e=>jx n e:=by funext r;rw [lL];rfl
theorem Fg (n:Nat) (l:Ex):jx (n+1) l=fX [42] (cX (oD n) fun e=>jx n (.bin 5 l e)) (ew l):=by funext r;rw [jx];rfl
theorem M5 (n:Nat):uj (n+1)=cX (lL n) fun e=>lM n e:=by funext r;rw [uj];rfl
theorem IV (n:Nat) (l:Ex):lM (n+1) l=fX [43] (cX (lL n) fun e=>lM n (.bin 3 l e)) (fX [45] (cX (lL n) fun e=>lM n (.bin 4 l e)) (ew l)):=by funext r;rw [lM];rfl
theorem IW (n:Nat):eW (n+1)=cX (uj n) fun l=>fX [60] (cX (uj n) fun e=>ew (.bin 6 l e)) (fX [61,61] (cX (uj n) fun e=>ew (.bin 7 l e)) (ew l)):=by funext r;rw [eW];rfl
theorem Fh (n:Nat) (to:Str):iG n to=cX (fX cQ (ew false) (lN IJ (ew true))) fun par=>cName fun f=>cX (nw n) fun ar=>if par=true/\ar.length≠2 then UU else ew (.task par to f ar):=by
 funext r
 rw [iG];show R.bind _ _=R.bind _ _
 congr 1
 funext par r
 show R.bind _ _=R.bind _ _
 congr 1
 funext f r
 show R.bind _ _=R.bind _ _
 congr 1
 funext ar r
 split<;>rfl
theorem CJ (n:Nat):kA n=rI cQ (iG n []) (rI IJ (iG n []) (fX jv (ew .sync) (fX A7 (cX (eW n) fun e=>ew (.one 15 e)) (fX dC (cX (eW n) fun e=>ew (.one 16 e))
  (cName fun s=>rI [46] (cX (kM n s) fun x=>ew (.act s x.1 x.2)) (lN [61] (rI cQ (iG n s) (rI IJ (iG n s) (cX (eW n) fun e=>ew (.set s e)))))))))):=by
 have key:∀{α:Type} (a b:Prop) [Decidable a] [Decidable b] (x y:α),(if a\/b then x else y)=if a then x else if b then x else y:=by
  intro α a b _ _ x y;by_cases ha:a<;>by_cases hb:b<;>simp [ha,hb]
 funext r
 rw [kA,key];show _=if hd r=cQ then _ else if hd r=IJ then _ else if hd r=jv then _ else if hd r=A7 then _ else if hd r=dC then _ else R.bind _ _
 congr 6
 funext s r
 show _=if hd r=[46] then _ else R.bind _ _
 congr 2
 funext _ r
 rw [key];rfl
theorem IX (n:Nat):rG (n+1)=fX sIf (cX (eW n) fun e=>cX (fM n) fun a=>fX Rr (cX (fM n) fun b=>ew (.if2 e a b)) (ew (.if1 e a))) (fX KW (cX (eW n) fun e=>cX (fM n) fun a=>ew (.loop e a)) (cX (kA n) fun s=>lN [59] (ew s))):=by
 funext r;rw [rG];rfl
theorem Fj (n:Nat):fM (n+1)=lN [123] (jy n):=by funext r;rw [fM];rfl
theorem Fo (n:Nat):jy (n+1)=fX [125] (ew .nil) (cX (rG n) fun s=>cX (jy n) fun ss=>ew (.cons s ss)):=by funext r;rw [jy];rfl
theorem CL (n:Nat):gB (n+1)=fX [44] (cName fun s=>cX (gB n) fun l=>ew (s::l)) (lN [41] (ew [])):=by funext r;rw [gB];rfl
theorem Fp (n:Nat):sF n=lN [40] (fX [41] (ew []) (cName fun s=>cX (gB n) fun l=>ew (s::l))):=by funext r;rw [sF];rfl
theorem M6 (n:Nat):Eg n=lN Fe (cName fun s=>cX (sF n) fun l=>cX (fM n) fun b=>ew ⟨s,l,b⟩):=by funext r;rw [Eg];rfl
def Fq (t:Str):List Tok->R Dec:=
 match kindOf t with
 | none=>UU
 | some k=>cName fun s=>if k=0 then fX [61] (M4 2 fun _ n=>lN [59] (ew ⟨k,s,n⟩)) (lN [59] (ew ⟨k,s,0⟩)) else lN [59] (ew ⟨k,s,0⟩)
theorem Ru:IK=M4 1 fun t _=>Fq t:=by
 funext r
 rw [IK];show R.bind _ _=R.bind _ _
 congr 1
 funext t r
 show _=Fq t.text r;unfold Fq
 cases kindOf t.text with
 | none=>rfl
 | some k=>
  show R.bind _ _=R.bind _ _
  congr 1
  funext s r
  by_cases hk:k=0
  ·rw [if_pos hk]
   by_cases h:hd r=[61]
   ·rw [if_pos ⟨hk,h⟩]
    show _=if hd r=[61] then R.bind _ _ else _
    rw [if_pos h]
    cases wI 2 r.tail<;>rfl
   ·rw [if_neg (fun x=>h x.2)]
    show _=if hd r=[61] then R.bind _ _ else _
    rw [if_neg h];rfl
  ·rw [if_neg hk,if_neg (fun x=>hk x.1)]
   rfl
def Ax {α:Type} (p:List Tok->R α):Prop:=∀r a r',p r = .ok a r'->r'.length<r.length
def delta (s:Str):Int:=if s=[40]\/s=[123] then 1 else if s=[41]\/s=[125] then -1 else 0
inductive IsP:{α:Type}->Int->(List Tok->R α)->(List Tok->R α)->Prop
 | out {α:Type} {d:Int} {q:List Tok->R α}:IsP d (fun _=>.out) q
 | bad {α:Type} {d:Int}:IsP d (UU (α:=α)) UU
 | ret {α:Type} (a:α):IsP 0 (ew a) (ew a)
 | bind {α β:Type} {d e g:Int} {p p' : List Tok->R β} {f f' : β->List Tok->R α}:IsP d p p'->(∀b,IsP e (f b) (f' b))->g=d+e->IsP g (cX p f) (cX p' f')
 | want {α:Type} {d g:Int} {s:Str} {p p' : List Tok->R α}:s≠[]->IsP d p p'->g=delta s+d->IsP g (lN s p) (lN s p')
 | skip {α:Type} {d g:Int} {s:Str} {p p' q q' : List Tok->R α}:s≠[]->(s≠[41]\/Ax q)->IsP d p p'->IsP g q q'->g=delta s+d->IsP g (fX s p q) (fX s p' q')
 | peek {α:Type} {d:Int} {s:Str} {p p' q q' : List Tok->R α}:s≠[41]->Ax p->IsP d p p'->IsP d q q'->IsP d (rI s p q) (rI s p' q')
 | name {α:Type} {d:Int} {f f' : Str->List Tok->R α}:(∀b,IsP d (f b) (f' b))->IsP d (cName f) (cName f')
 | word {α:Type} {d:Int} {k:Int} {f f' : Str->Int->List Tok->R α}:k≠3->(∀b n,IsP d (f b n) (f' b n))->IsP d (M4 k f) (M4 k f')
 | num {α:Type} {d:Int} {f f' : Int->List Tok->R α} {q q' : List Tok->R α}:Ax q->(∀b,IsP d (f b) (f' b))->IsP d q q'->IsP d (Rt f q) (Rt f' q')
theorem A8 {α β:Type} {x y:R β} {f g:β->List Tok->R α} (h:x = .out\/x=y) (hf:∀b r,f b r = .out\/f b r=g b r):x.bind f = .out\/x.bind f=y.bind g:=by
 rcases h with rfl|rfl
 ·exact .inl rfl
 ·cases x with
  | ok a r=>exact hf a r
  | bad=>exact .inr rfl
  | out=>exact .inl rfl
theorem IsP.le {α:Type} {d:Int} {p q:List Tok->R α} (h:IsP d p q):∀r,p r = .out\/p r=q r:=by
 induction h with
 | out=>exact fun r=>.inl rfl
 | bad=>exact fun r=>.inr rfl
 | ret=>exact fun r=>.inr rfl
 | bind _ _ _ ih1 ih2=>exact fun r=>A8 (ih1 r) ih2
 | want _ _ _ ih=>exact fun r=>A8 (.inr rfl) fun _ r=>ih r
 | skip _ _ _ _ _ ih1 ih2=>
  intro r;unfold fX
  split
  ·exact ih1 _
  ·exact ih2 _
 | peek _ _ _ _ ih1 ih2=>
  intro r;unfold rI
  split
  ·exact ih1 _
  ·exact ih2 _
 | name _ ih=>exact fun r=>A8 (.inr rfl) ih
 | word _ _ ih=>exact fun r=>A8 (.inr rfl) fun t r=>ih t.text t.n r
 | num _ _ _ ih1 ih2=>
  intro r;unfold Rt
  split
  ·exact ih1 _ _
  ·exact ih2 _
theorem M7 {r:List Tok} {s:Str} (h:hd r=s) (hs:s≠[]):∃t,r=t::r.tail/\t.text=s:=by
 cases r with
 | nil=>exact absurd h.symm hs
 | cons a l=>exact ⟨a,rfl,h⟩
theorem IsP.pre {α:Type} {d:Int} {p q:List Tok->R α} (h:IsP d p q):∀r a r',p r = .ok a r'->∃c,r=c++r':=by
 induction h with
 | out=>intro r a r' h;cases h
 | bad=>intro r a r' h;cases h
 | ret=>intro r a r' h;injection h with _ h;exact ⟨[],by rw [h];rfl⟩
 | bind _ _ _ ih1 ih2=>
  intro r a r' h;obtain ⟨b,r1,h1,h2⟩:=bind_ok.1 h;obtain ⟨c1,rfl⟩:=ih1 _ _ _ h1;obtain ⟨c2,rfl⟩:=ih2 _ _ _ _ h2;exact ⟨c1++c2,by simp⟩
 | want hs _ _ ih=>
  intro r a r' h;obtain ⟨b,r1,h1,h2⟩:=bind_ok.1 h;obtain ⟨hh,rfl⟩:=M1 h1;obtain ⟨t,ht,_⟩:=M7 hh hs;obtain ⟨c2,h3⟩:=ih _ _ _ h2;exact ⟨t::c2,by rw [ht,h3];rfl⟩
 | skip hs _ _ _ _ ih1 ih2=>
  intro r a r' h;unfold fX at h
  split at h
  ·rename_i hh
   obtain ⟨t,ht,_⟩:=M7 hh hs;obtain ⟨c2,h3⟩:=ih1 _ _ _ h;exact ⟨t::c2,by rw [ht,h3];rfl⟩
  ·exact ih2 _ _ _ h
 | peek _ _ _ _ ih1 ih2=>
  intro r a r' h;unfold rI at h
  split at h
  ·exact ih1 _ _ _ h
  ·exact ih2 _ _ _ h
 | name _ ih=>
  intro r a r' h;obtain ⟨b,r1,h1,h2⟩:=bind_ok.1 h;obtain ⟨t,rfl,_⟩:=M3 h1;obtain ⟨c,rfl⟩:=ih _ _ _ _ h2;exact ⟨t::c,rfl⟩
 | word _ _ ih=>
  intro r a r' h;obtain ⟨b,r1,h1,h2⟩:=bind_ok.1 h;obtain ⟨q,rfl,rfl,_⟩:=GM h1;obtain ⟨c,rfl⟩:=ih _ _ _ _ _ h2;exact ⟨b::c,rfl⟩
 | num _ _ _ ih1 ih2=>
  intro r a r' h;unfold Rt at h
  split at h
  ·rename_i hn
   obtain ⟨c,h3⟩:=ih1 _ _ _ _ h
   cases r with
   | nil=>cases hn
   | cons t l=>exact ⟨t::c,by rw [List.tail_cons] at h3;rw [h3];rfl⟩
  ·exact ih2 _ _ _ h
end Uw.Tryz
namespace Uw.Tryz
open Go Uw
theorem Suf.len {a b:List Tok} {s:Nat} (h:Suf a b s):b.length+s<=a.length:=by
 obtain ⟨i,i1,rfl,i3⟩:=h;simp;omega
theorem IsP.len {α:Type} {d:Int} {p q:List Tok->R α} (h:IsP d p q) {r r' : List Tok} {a:α} (e:p r = .ok a r'):r'.length<=r.length:=by
 obtain ⟨c,rfl⟩:=h.pre _ _ _ e;simp
theorem GN {α:Type} {p:List Tok->R α} (h:∀r e r',p r = .ok e r'->∃s,1<=s/\Suf r r' s):Ax p:=by
 intro r e r' he;obtain ⟨s,h1,h2⟩:=h r e r' he;have:=h2.len;omega
theorem yW {α β:Type} {d:Int} {p:List Tok->R β} {f f' : β->List Tok->R α} (h:Ax p) (hf:∀b,IsP d (f b) (f' b)):Ax (cX p f):=by
 intro r a r' he;obtain ⟨b,r1,h1,h2⟩:=bind_ok.1 he;have:=h _ _ _ h1;have:=(hf b).len h2;omega
theorem Ft {α:Type} {d:Int} {f f' : Str->List Tok->R α} (hf:∀b,IsP d (f b) (f' b)):Ax (cName f):=by
 intro r a r' he;obtain ⟨b,r1,h1,h2⟩:=bind_ok.1 he;have:=(Suf.name h1).len;have:=(hf b).len h2;omega
theorem OP (n:Nat):Ax (eW n):=GN fun r e r' h=>⟨_,e.GL,(rH n).expr _ _ _ h⟩
theorem Fv (n:Nat) (s:Str):Ax (kM n s):=GN fun r e r' h=>⟨_,by omega,(rH n).call _ _ _ _ h⟩
theorem qV (n:Nat) (s:Str):Ax (iG n s):=GN fun r e r' h=>⟨_,e.GL,yV h⟩
structure PE (n:Nat):Prop where
 Eh:IsP 0 (oD n) (oD (n+1))
 call:∀s,IsP 0 (kM n s) (kM (n+1) s)
 args:IsP 0 (nw n) (nw (n+1))
 CH:IsP (-1) (gX n) (gX (n+1))
 prod:IsP 0 (lL n) (lL (n+1))
 zA:∀l,IsP 0 (jx n l) (jx (n+1) l)
 sum:IsP 0 (uj n) (uj (n+1))
 sumT:∀l,IsP 0 (lM n l) (lM (n+1) l)
 expr:IsP 0 (eW n) (eW (n+1))
theorem gC {α:Type} {d:Int} {p q:List Tok->R α} (h:∀r,p r = .out):IsP d p q:=by
 have:p=fun _=>.out:=funext h;rw [this];exact .out
theorem pe:∀n,PE n
 | 0=>⟨gC fun r=>by rw [oD],fun s=>gC fun r=>by rw [kM],gC fun r=>by rw [nw],gC fun r=>by rw [gX],gC fun r=>by rw [lL],fun l=>gC fun r=>by rw [jx],gC fun r=>by rw [uj],fun l=>gC fun r=>by rw [lM],gC fun r=>by rw [eW]⟩
 | n+1=>by
  have ih:=pe n;have arT:∀e,IsP (-1) (cX (gX n) fun es=>ew (Exs.cons e es)) (cX (gX (n+1)) fun es=>ew (Exs.cons e es)):=fun e=>.bind ih.CH (fun es=>.ret _) (by decide);refine ⟨?_,?_,?_,?_,?_,?_,?_,?_,?_⟩
  ·rw [IP n,IP (n+1)]
   have hq:∀s,IsP 0 (rI [46] (cX (kM n s) fun x=>ew (Ex.call s x.1 x.2)) (ew (.name s))) (rI [46] (cX (kM (n+1) s) fun x=>ew (Ex.call s x.1 x.2)) (ew (.name s))):=fun s=>
    .peek (by decide) (yW (Fv n s) fun x=>.ret _) (.bind (ih.call s) (fun x=>.ret _) (by decide)) (.ret _)
   exact .skip (d:=-1) (by decide) (.inl (by decide)) (.bind ih.expr (fun e=>.want (by decide) (.ret _) rfl) (by decide)) (.num (Ft hq) (fun v=>.ret _) (.name hq)) (by decide)
  ·intro s
   rw [IQ n,IQ (n+1)];exact .want (by decide) (.name fun v=>.bind ih.args (fun ar=>.ret _) rfl) (by decide)
  ·rw [IR n,IR (n+1)]
   exact .want (d:=-1) (by decide) (.skip (by decide) (.inr (yW (OP n) arT)) (.ret _) (.bind ih.expr arT (by decide)) (by decide)) (by decide)
  ·rw [Ff n,Ff (n+1)]
   exact .skip (d:=-1) (by decide) (.inl (by decide)) (.bind ih.expr arT (by decide)) (.want (by decide) (.ret _) (by decide)) (by decide)
  ·rw [IU n,IU (n+1)]
   exact .bind ih.Eh ih.zA (by decide)
  ·intro l
   rw [Fg n,Fg (n+1)];exact .skip (d:=0) (by decide) (.inl (by decide)) (.bind ih.Eh (fun e=>ih.zA _) (by decide)) (.ret _) (by decide)
  ·rw [M5 n,M5 (n+1)]
   exact .bind ih.prod ih.sumT (by decide)
  ·intro l
   rw [IV n,IV (n+1)];exact .skip (d:=0) (by decide) (.inl (by decide)) (.bind ih.prod (fun e=>ih.sumT _) (by decide)) (.skip (d:=0) (by decide) (.inl (by decide)) (.bind ih.prod (fun e=>ih.sumT _) (by decide)) (.ret _) (by decide)) (by decide)
  ·rw [IW n,IW (n+1)]
   exact .bind ih.sum (fun l=>.skip (d:=0) (by decide) (.inl (by decide)) (.bind ih.sum (fun e=>.ret _) (by decide)) (.skip (d:=0) (by decide) (.inl (by decide)) (.bind ih.sum (fun e=>.ret _) (by decide)) (.ret _) (by decide)) (by decide)) (by decide)
theorem tZ (n:Nat) (to:Str):IsP 0 (iG n to) (iG (n+1) to):=by
 rw [Fh n,Fh (n+1)];exact .bind (d:=0) (e:=0) (.skip (d:=0) (by decide) (.inl (by decide)) (.ret _) (.want (by decide) (.ret _) (by decide)) (by decide)) (fun par=>.name fun f=>.bind (e:=0) (pe n).args (fun ar=>by split<;>first|exact .bad|exact .ret _) (by decide)) (by decide)
theorem KY (n:Nat):IsP 0 (kA n) (kA (n+1)):=by
 rw [CJ n,CJ (n+1)];exact .peek (by decide) (qV n []) (tZ n []) (.peek (by decide) (qV n []) (tZ n []) (.skip (d:=0) (by decide) (.inl (by decide)) (.ret _) (.skip (d:=0) (by decide) (.inl (by decide)) (.bind (pe n).expr (fun e=>.ret _) (by decide))
  (.skip (d:=0) (by decide) (.inl (by decide)) (.bind (pe n).expr (fun e=>.ret _) (by decide)) (.name fun s=>.peek (by decide) (yW (Fv n s) fun x=>.ret _) (.bind ((pe n).call s) (fun x=>.ret _) (by decide))
   (.want (d:=0) (by decide) (.peek (by decide) (qV n s) (tZ n s) (.peek (by decide) (qV n s) (tZ n s) (.bind (pe n).expr (fun e=>.ret _) (by decide)))) (by decide))) (by decide)) (by decide)) (by decide)))
structure PS (n:Nat):Prop where
 stmt:IsP 0 (rG n) (rG (n+1))
 block:IsP 0 (fM n) (fM (n+1))
 stmts:IsP (-1) (jy n) (jy (n+1))
theorem ps:∀n,PS n
 | 0=>⟨gC fun r=>by rw [rG],gC fun r=>by rw [fM],gC fun r=>by rw [jy]⟩
 | n+1=>by
  have ih:=ps n;refine ⟨?_,?_,?_⟩
  ·rw [IX n,IX (n+1)]
   exact .skip (d:=0) (by decide) (.inl (by decide)) (.bind (pe n).expr (fun e=>.bind (d:=0) (e:=0) ih.block (fun a=>.skip (d:=0) (by decide) (.inl (by decide)) (.bind ih.block (fun b=>.ret _) (by decide)) (.ret _) (by decide)) rfl) (by decide))
    (.skip (d:=0) (by decide) (.inl (by decide)) (.bind (pe n).expr (fun e=>.bind ih.block (fun a=>.ret _) rfl) (by decide)) (.bind (KY n) (fun s=>.want (by decide) (.ret _) rfl) (by decide)) (by decide)) (by decide)
  ·rw [Fj n,Fj (n+1)]
   exact .want (by decide) ih.stmts (by decide)
  ·rw [Fo n,Fo (n+1)]
   exact .skip (d:=0) (by decide) (.inl (by decide)) (.ret _) (.bind ih.stmt (fun s=>.bind ih.stmts (fun ss=>.ret _) rfl) (by decide)) (by decide)
theorem CM:∀n,IsP (-1) (gB n) (gB (n+1))
 | 0=>gC fun r=>by rw [gB]
 | n+1=>by
  rw [CL n,CL (n+1)];exact .skip (d:=-1) (by decide) (.inl (by decide)) (.name fun s=>.bind (CM n) (fun l=>.ret _) (by decide)) (.want (by decide) (.ret _) (by decide)) (by decide)
theorem yX (n:Nat):IsP 0 (sF n) (sF (n+1)):=by
 rw [Fp n,Fp (n+1)];have hq:∀s,IsP (-1) (cX (gB n) fun l=>ew (s::l)) (cX (gB (n+1)) fun l=>ew (s::l)):=fun s=>.bind (CM n) (fun l=>.ret _) (by decide);exact .want (d:=-1) (by decide) (.skip (d:=0) (by decide) (.inr (Ft hq)) (.ret _) (.name hq) (by decide)) (by decide)
theorem UV (n:Nat):IsP 0 (Eg n) (Eg (n+1)):=by
 rw [M6 n,M6 (n+1)];exact .want (d:=0) (by decide) (.name fun s=>.bind (e:=0) (yX n) (fun l=>.bind (ps n).block (fun b=>.ret _) (by decide)) (by decide)) (by decide)
theorem bf {α β:Type} {x:R β} {f:β->List Tok->R α} (h:x≠.out) (hf:∀b r,x = .ok b r->f b r≠.out):x.bind f≠.out:=by
 cases x with
 | ok a r=>exact hf a r rfl
 | bad=>exact fun h=>nomatch h
 | out=>exact absurd rfl h
theorem dV {α:Type} {a:α} {r:List Tok}:R.ok a r≠.out:=fun h=>nomatch h
theorem jz {s:Str} {r:List Tok}:want s r≠.out:=by rw [want];split<;>exact fun h=>nomatch h
theorem qW {r:List Tok}:nr r≠.out:=by
 rw [nr];refine bf ?_ fun t r _=>?_
 ·rw [wI.eq_def];split
  ·exact fun h=>nomatch h
  ·split<;>exact fun h=>nomatch h
 ·split<;>exact fun h=>nomatch h
structure NE (n:Nat):Prop where
 Eh:∀r,6 * r.length+1<=n->oD n r≠.out
 call:∀s r,6 * r.length+1<=n->kM n s r≠.out
 args:∀r,6 * r.length+1<=n->nw n r≠.out
 CH:∀r,6 * r.length+1<=n->gX n r≠.out
 prod:∀r,6 * r.length+2<=n->lL n r≠.out
 zA:∀l r,6 * r.length+1<=n->jx n l r≠.out
 sum:∀r,6 * r.length+3<=n->uj n r≠.out
 sumT:∀l r,6 * r.length+1<=n->lM n l r≠.out
 expr:∀r,6 * r.length+4<=n->eW n r≠.out
theorem ne:∀n,NE n
 | 0=>⟨fun _ h=>by omega,fun _ _ h=>by omega,fun _ h=>by omega,fun _ h=>by omega,fun _ h=>by omega,fun _ _ h=>by omega,fun _ h=>by omega,fun _ _ h=>by omega,fun _ h=>by omega⟩
 | n+1=>by
  have ih:=ne n;have se:=rH n;refine ⟨?_,?_,?_,?_,?_,?_,?_,?_,?_⟩
  ·intro r hr
   rw [oD]
   split
   ·rename_i hh
    have:=(Suf.hd hh (by simp)).len;exact bf (ih.expr _ (by omega)) fun e r1 h1=>bf jz fun _ _ _=>dV
   ·split
    ·exact dV
    ·refine bf qW fun s r1 h1=>?_
     have:=(Suf.name h1).len
     split
     ·exact bf (ih.call _ _ (by omega)) fun _ _ _=>dV
     ·exact dV
  ·intro s r hr
   rw [kM];refine bf jz fun _ r1 h1=>bf qW fun v r2 h2=>bf (ih.args _ ?_) fun _ _ _=>dV;have:=(Suf.want (by simp) h1).len;have:=(Suf.name h2).len;omega
  ·intro r hr
   rw [nw];refine bf jz fun _ r1 h1=>?_;have:=(Suf.want (by simp) h1).len
   split
   ·exact dV
   ·refine bf (ih.expr _ (by omega)) fun e r2 h2=>bf (ih.CH _ ?_) fun _ _ _=>dV
    have:=(se.expr _ _ _ h2).len;omega
  ·intro r hr
   rw [gX]
   split
   ·rename_i hh
    have:=(Suf.hd hh (by simp)).len;refine bf (ih.expr _ (by omega)) fun e r2 h2=>bf (ih.CH _ ?_) fun _ _ _=>dV;have:=(se.expr _ _ _ h2).len;omega
   ·exact bf jz fun _ _ _=>dV
  ·intro r hr
   rw [lL];refine bf (ih.Eh _ (by omega)) fun e r2 h2=>ih.zA _ _ ?_;have:=(se.Eh _ _ _ h2).len;omega
  ·intro l r hr
   rw [jx]
   split
   ·rename_i hh
    have:=(Suf.hd hh (by simp)).len;refine bf (ih.Eh _ (by omega)) fun e r2 h2=>ih.zA _ _ ?_;have:=(se.Eh _ _ _ h2).len;omega
   ·exact dV
  ·intro r hr
   rw [uj];refine bf (ih.prod _ (by omega)) fun e r2 h2=>ih.sumT _ _ ?_;have:=(se.prod _ _ _ h2).len;omega
  ·intro l r hr
   rw [lM]
   split
   ·rename_i hh
    have:=(Suf.hd hh (by simp)).len;refine bf (ih.prod _ (by omega)) fun e r2 h2=>ih.sumT _ _ ?_;have:=(se.prod _ _ _ h2).len;omega
   ·split
    ·rename_i hh
     have:=(Suf.hd hh (by simp)).len;refine bf (ih.prod _ (by omega)) fun e r2 h2=>ih.sumT _ _ ?_;have:=(se.prod _ _ _ h2).len;omega
    ·exact dV
  ·intro r hr
   rw [eW];refine bf (ih.sum _ (by omega)) fun e r2 h2=>?_;have:=(se.sum _ _ _ h2).len
   split
   ·rename_i hh
    have:=(Suf.hd hh (by simp)).len;exact bf (ih.sum _ (by omega)) fun _ _ _=>dV
   ·split
    ·rename_i hh
     have:=(Suf.hd hh (by simp)).len;exact bf (ih.sum _ (by omega)) fun _ _ _=>dV
    ·exact dV
theorem IY (n:Nat) (to:Str) (r:List Tok) (hr:6 * r.length+1<=n):iG n to r≠.out:=by
 rw [iG];have key:∀(x:R Bool),x≠.out->(∀b r1,x = .ok b r1->r1.length<=r.length)->x.bind (fun par r=>(nr r).bind fun f r=>(nw n r).bind fun ar r=>if par=true/\ar.length≠2 then R.bad else R.ok (Stm.task par to f ar) r)≠.out:=by
  intro x hx hl;refine bf hx fun b r1 h1=>bf qW fun f r2 h2=>bf ((ne n).args _ ?_) fun ar r3 _=>?_
  ·have:=hl _ _ h1
   have:=(Suf.name h2).len;omega
  ·split<;>exact fun h=>nomatch h
 refine key _ ?_ ?_
 ·split
  ·exact dV
  ·exact bf jz fun _ _ _=>dV
 ·intro b r1 h
  split at h
  ·injection h with _ h
   rw [<- h];simp
  ·obtain ⟨_,r2,h2,h3⟩:=bind_ok.1 h
   injection h3 with _ h3
   subst h3;have:=(Suf.want (by decide) h2).len;omega
theorem OQ (n:Nat) (r:List Tok) (hr:6 * r.length+4<=n):kA n r≠.out:=by
 rw [kA];have ih:=ne n
 split
 ·exact IY n _ _ (by omega)
 ·split
  ·exact dV
  ·split
   ·exact bf (ih.expr _ (by simp;omega)) fun _ _ _=>dV
   ·split
    ·exact bf (ih.expr _ (by simp;omega)) fun _ _ _=>dV
    ·refine bf qW fun s r1 h1=>?_
     have:=(Suf.name h1).len
     split
     ·exact bf (ih.call _ _ (by omega)) fun _ _ _=>dV
     ·refine bf jz fun _ r2 h2=>?_
      have:=(Suf.want (by decide) h2).len
      split
      ·exact IY n _ _ (by omega)
      ·exact bf (ih.expr _ (by omega)) fun _ _ _=>dV
structure NS (n:Nat):Prop where
 stmt:∀r,6 * r.length+5<=n->rG n r≠.out
 block:∀r,6 * r.length+5<=n->fM n r≠.out
 stmts:∀r,6 * r.length+6<=n->jy n r≠.out
theorem ns_:∀n,NS n
 | 0=>⟨fun _ h=>by omega,fun _ h=>by omega,fun _ h=>by omega⟩
 | n+1=>by
  have ih:=ns_ n;have se:=rH n;have ss:=Wh n;refine ⟨?_,?_,?_⟩
  ·intro r hr
   rw [rG]
   split
   ·rename_i hh
    have:=(Suf.hd hh (by decide)).len;refine bf ((ne n).expr _ (by omega)) fun e r1 h1=>?_;have:=(se.expr _ _ _ h1).len;refine bf (ih.block _ (by omega)) fun a r2 h2=>?_;have:=(ss.block _ _ _ h2).len
    split
    ·exact bf (ih.block _ (by simp;omega)) fun _ _ _=>dV
    ·exact dV
   ·split
    ·rename_i hh
     have:=(Suf.hd hh (by decide)).len;refine bf ((ne n).expr _ (by omega)) fun e r1 h1=>?_;have:=(se.expr _ _ _ h1).len;exact bf (ih.block _ (by omega)) fun a r2 h2=>dV
    ·exact bf (OQ n _ (by omega)) fun _ _ _=>bf jz fun _ _ _=>dV
  ·intro r hr
   rw [fM];refine bf jz fun _ r1 h1=>ih.stmts _ ?_;have:=(Suf.want (by decide) h1).len;omega
  ·intro r hr
   rw [jy]
   split
   ·exact dV
   ·refine bf (ih.stmt _ (by omega)) fun s r1 h1=>?_
    have:=(ss.stmt _ _ _ h1).len;have:=s.GL;exact bf (ih.stmts _ (by omega)) fun _ _ _=>dV
theorem Fz:∀n r,r.length+1<=n->gB n r≠.out
 | 0,_,h=>by omega
 | n+1,r,hr=>by
  rw [gB]
  split
  ·rename_i hh
   have:=(Suf.hd hh (by simp)).len;refine bf qW fun s r1 h1=>bf (Fz n _ ?_) fun _ _ _=>dV;have:=(Suf.name h1).len;omega
  ·exact bf jz fun _ _ _=>dV
theorem Rw (n:Nat) (r:List Tok) (hr:r.length+1<=n):sF n r≠.out:=by
 rw [sF];refine bf jz fun _ r1 h1=>?_;have:=(Suf.want (by decide) h1).len
 split
 ·exact dV
 ·refine bf qW fun s r2 h2=>bf (Fz n _ ?_) fun _ _ _=>dV
  have:=(Suf.name h2).len;omega
theorem XM (n:Nat) (r:List Tok) (hr:6 * r.length+5<=n):Eg n r≠.out:=by
 rw [Eg];refine bf jz fun _ r1 h1=>bf qW fun s r2 h2=>?_;have:=(Suf.want (by decide) h1).len;have:=(Suf.name h2).len;refine bf (Rw n _ (by omega)) fun l r3 h3=>bf ((ns_ n).block _ ?_) fun _ _ _=>dV;have:=(yX n).len h3;omega
end Uw.Tryz
namespace Uw.Tryz
open Go Uw
theorem up {α:Type} {d:Int} {p:Nat->List Tok->R α} (h:∀n,IsP d (p n) (p (n+1))) {n:Nat} {r:List Tok} (hn:p n r≠.out) (k:Nat):p (n+k) r=p n r:=by
 induction k with
 | zero=>rfl
 | succ k ih=>
  rcases (h (n+k)).le r with e|e
  ·rw [ih] at e;exact absurd e hn
  ·rw [<- acP,<- e,ih]
theorem up' {α:Type} {d:Int} {p:Nat->List Tok->R α} (h:∀n,IsP d (p n) (p (n+1))) {n m:Nat} {r:List Tok} {a:α} {r' : List Tok} (hn:p n r = .ok a r') (hm:n<=m):p m r = .ok a r':=by
 obtain ⟨k,rfl⟩:=Nat.le.dest hm;rw [up h (by rw [hn];exact dV),hn]
def Reads {α:Type} (p:Nat->List Tok->R α) (r:List Tok) (a:α) (r' : List Tok):Prop:=∃n,p n r = .ok a r'
theorem Reads.at {α:Type} {d:Int} {p:Nat->List Tok->R α} (h:∀n,IsP d (p n) (p (n+1))) {r:List Tok} {a:α} {r1:List Tok} (h1:Reads p r a r1) {n:Nat} (hn:p n r≠.out):p n r = .ok a r1:=by
 obtain ⟨m,h1⟩:=h1;have e1:=up' h h1 (Nat.le_max_right n m);obtain ⟨k,hk⟩:=Nat.le.dest (Nat.le_max_left n m);rw [<- hk,up h hn] at e1;exact e1
theorem GQ {α β:Type} (a:β) (r:List Tok) (f:β->List Tok->R α):(R.ok a r).bind f=f a r:=rfl
inductive IZ:List Tok->List Dec->List Tok->Prop
 | stop {r:List Tok}:r=[]\/hd r=Fe->IZ r [] r
 | cons {r r' r'' : List Tok} {d:Dec} {ds:List Dec}:¬(r=[]\/hd r=Fe)->IK r = .ok d r'->IZ r' ds r''->IZ r (d::ds) r''
inductive OS:List Tok->List Fn->Prop
 | nil:OS [] []
 | cons {r r' : List Tok} {f:Fn} {fs:List Fn}:Reads Eg r f r'->OS r' fs->OS r (f::fs)
def Prg (l:List Tok) (ds:List Dec) (fs:List Fn):Prop:=∃r,IZ l ds r/\OS r fs
def Rx (l:List Tok):Nat:=6 * l.length+6
def Ry (l:List Tok):Option (List Dec×List Fn):=match Wg (Rx l) l with | .ok x _=>some x | .bad=>none | .out=>none
theorem FA:Ax IK:=by
 intro r e r' h;rw [Ru] at h;obtain ⟨t,r1,h1,h2⟩:=bind_ok.1 h;obtain ⟨q,rfl,rfl,_⟩:=GM h1;have:IsP 0 (Fq t.text) (Fq t.text):=by
  rw [Fq]
  split
  ·exact .bad
  ·refine .name fun s=>?_
   split
   ·exact .skip (d:=0) (by decide) (.inl (by decide)) (.word (by decide) fun _ n=>.want (by decide) (.ret _) (by decide)) (.want (by decide) (.ret _) (by decide)) (by decide)
   ·exact .want (by decide) (.ret _) (by decide)
 have:=this.len h2;simp;omega
theorem Rz (n:Nat):Ax (Eg n):=by
 intro r e r' h;rw [Eg] at h;obtain ⟨_,r1,h1,h⟩:=bind_ok.1 h;obtain ⟨s,r2,h2,h⟩:=bind_ok.1 h;obtain ⟨l,r3,h3,h⟩:=bind_ok.1 h;obtain ⟨b,r4,h4,h⟩:=bind_ok.1 h;injection h with _ h
 have:=(Suf.want (by decide) h1).len;have:=(Suf.name h2).len;have:=(yX n).len h3;have:=(ps n).block.len h4;rw [<- h];omega
theorem IZ.len {r r' : List Tok} {ds:List Dec} (h:IZ r ds r'):r'.length+ds.length<=r.length:=by
 induction h with
 | stop _=>simp
 | cons _ h1 _ ih=>
  have:=FA _ _ _ h1;simp;omega
theorem IZ.at {r r' : List Tok} {ds:List Dec} (h:IZ r ds r'):∀n,r.length+1<=n->CG n r = .ok ds r':=by
 induction h with
 | stop h=>
  intro n hn
  cases n with
  | zero=>omega
  | succ n=>rw [CG,if_pos h]
 | cons h h1 h2 ih=>
  intro n hn
  cases n with
  | zero=>omega
  | succ n=>
   have:=FA _ _ _ h1;rw [CG,if_neg h,h1,GQ,ih n (by omega)];rfl
theorem OS.at {r:List Tok} {fs:List Fn} (h:OS r fs):∀n,6 * r.length+6<=n->IL n r = .ok fs []:=by
 induction h with
 | nil=>
  intro n hn
  cases n with
  | zero=>omega
  | succ n=>rw [IL,if_pos rfl]
 | cons h h2 ih=>
  rename_i r r' f fs;intro n hn
  cases n with
  | zero=>omega
  | succ n=>
   have h1:=h.at UV (XM n r (by omega));have:=Rz _ _ _ _ h1;rw [IL,if_neg (by rintro rfl;simp at this),h1,GQ,ih n (by omega)];rfl
theorem Prg.at {l:List Tok} {ds:List Dec} {fs:List Fn} (h:Prg l ds fs):Ry l=some (ds,fs):=by
 obtain ⟨r,h1,h2⟩:=h;have:=h1.len;rw [Ry,Wg,h1.at _ (by rw [Rx];omega),GQ,h2.at _ (by rw [Rx];omega)];rfl
end Uw.Tryz
namespace Uw.Tryz
open Go Uw
structure Nd where
 kind:Int
 n:Int
 name:Str
 name2:Str
 of:List Int
 deriving DecidableEq,Inhabited
structure Fu where
 name:Str
 args:List Str
 body:Int
 deriving DecidableEq,Inhabited
structure Pg where
 decls:List Dec
 az:List Fu
 nodes:List Nd
 deriving DecidableEq,Inhabited
def ae (l:List Int):Dat:=.slice 1 (l.map fun i=>[I i]) false
def Wi (l:List Str):Dat:=.slice 1 (l.map fun s=>[.str s]) false
def YW (d:Dec):List Dat:=[I d.kind,.str d.name,I d.n]
def fuL (f:Fu):List Dat:=[.str f.name,Wi f.args,I f.body]
def ndL (x:Nd):List Dat:=[I x.kind,I x.n,.str x.name,.str x.name2,ae x.of]
def pgD (p:Pg):Dat:=.agg [.slice 3 (p.decls.map YW) false,.slice 3 (p.az.map fuL) false,.slice 5 (p.nodes.map ndL) false]
def Nod.nd (x:Nod):Nd:=⟨x.kind,x.n,x.name,x.name2,x.of.map fun (i:Nat)=>(i:Int)⟩
def Fn.sz (f:Fn):Nat:=f.body.sz+1
def RA:List Fn->Nat->List Nod
 | [],_=>[]
 | f::fs,b=>f.body.all b++RA fs (b+f.sz)
def Wj:List Fn->Nat->List Fu
 | [],_=>[]
 | f::fs,b=>⟨f.name,f.args,((b+f.body.sz:Nat):Int)⟩::Wj fs (b+f.sz)
def ZW (x:List Dec×List Fn):Pg:=⟨x.1,Wj x.2 0,(RA x.2 0).map Nod.nd⟩
def XO:Pg:=⟨[],[],[]⟩
def Wl:List Tok->Int->Int->Int
 | [],_,m=>m
 | t::r,d,m=>Wl r (d+delta t.text) (max m (d+delta t.text))
def ofR (s:Str):Pg×Int:=
 if (sE s).2≠0 then (XO,(sE s).2)
 else if 40<Wl (sE s).1 0 0 then (XO,2)
 else match Ry (sE s).1 with
  | none=>(XO,3)
  | some x=>(ZW x,0)
theorem pc {a b:List Nat} (h:a.Perm b) (i:Nat):a.count i=b.count i:=h.count_eq i
def Low (b:Nat):List Nod->Prop
 | []=>True
 | x::r=>(∀c∈x.of,c<b)/\Low (b+1) r
theorem Low.app:∀{x y:List Nod} {b:Nat},Low b x->Low (b+x.length) y->Low b (x++y)
 | [],y,b,_,h=>h
 | a::x,y,b,⟨h1,h2⟩,h=>⟨h1,h2.app (by rw [abp] at h;rwa [show b+1+x.length=b+(x.length+1) by omega])⟩
theorem Low.at:∀{x:List Nod} {b:Nat},Low b x->∀(j:Nat) (h:j<x.length),∀c∈x[j].of,c<b+j
 | [],_,_,j,h=>by simp at h
 | a::x,b,⟨h1,h2⟩,0,_=>h1
 | a::x,b,⟨h1,h2⟩,j+1,h=>by
  intro c hc;have:=h2.at j (by simpa using h) c hc;omega
theorem Low.one {b:Nat} {x:Nod} (h:∀c∈x.of,c<b):Low b [x]:=⟨h,trivial⟩
end Uw.Tryz
namespace Uw.Tryz
open Go Uw
def YX (k:Int):Int:=if 1<=k/\k<=8 then 1 else if 9<=k/\k<=17 then 2 else if k=18 then 3 else 0
def GR (ns:List Nd) (i:Int):Int:=(ns.getD i.toNat default).kind
def UW (ns:List Nd) (x:Nd):List Int:=x.of.map fun k=>YX (GR ns k)
def UX (k n:Int) (so:List Int) (k0:Int):Bool:=
 if k=1 then decide (so=[])&&decide (0<=n)&&decide (n<4294967296)
 else if k=2\/k=12 then decide (so=[])
 else if k=3\/k=4\/k=5\/k=6\/k=7\/k=11 then decide (so=[1,1])
 else if k=8\/k=10 then so.all fun s=>decide (s=1)
 else if k=9\/k=15\/k=16 then decide (so=[1])
 else if k=17 then decide (so=[1])&&decide (k0=8)
 else if k=13 then decide (so=[1,3])||decide (so=[1,3,3])
 else if k=14 then decide (so=[1,3])
 else if k=18 then so.all fun s=>decide (s=2)
 else false
def wJ (ns:List Nd) (x:Nd):Bool:=UX x.kind x.n (UW ns x) (GR ns (x.of.headD 0))
def RB (ns:List Nd) (i:Nat) (x:Nd):Bool:=(x.of.all fun k=>decide (0<=k)&&decide (k<i))&&wJ ns x
def Be (ns:List Nd):Nat->List Nd->Bool
 | _,[]=>true
 | i,x::r=>RB ns i x&&Be ns (i+1) r
def GU (ns:List Nd) (f:Fu):Bool:=decide (0<=f.body)&&decide (f.body<ns.length)&&decide (GR ns f.body=18)
def RD (p:Pg):List Int:=(p.nodes.flatMap (·.of))++p.az.map (·.body)
def mO (p:Pg):Bool:=Be p.nodes 0 p.nodes&&p.az.all (GU p.nodes)&&(List.range p.nodes.length).all fun k=>decide ((RD p).count (k:Int)=1)
def ny (p:Pg) (s:Str):Option Int:=(p.decls.find? fun d=>decide (d.name=s)).map (·.kind)
def I0 (p:Pg) (s:Str):Option Nat:=p.az.findIdx? fun f=>decide (f.name=s)
def CN:List Fu->Nat->List Int->List Int
 | [],_,o=>o
 | f::fs,i,o=>CN fs (i+1) (o.set f.body.toNat i)
def wK (o:List Int) (i:Nat) (x:Nd):List Int:=x.of.foldl (fun o k=>o.set k.toNat (o.getD i 0)) o
def mP:List (Nat×Nd)->List Int->List Int
 | [],o=>o
 | (i,x)::r,o=>mP r (wK o i x)
def idx {α:Type}:Nat->List α->List (Nat×α)
 | _,[]=>[]
 | i,x::r=>(i,x)::idx (i+1) r
def fw (p:Pg):List Int:=mP (idx 0 p.nodes).reverse (CN p.az 0 (List.replicate p.nodes.length 0))
def RE (p:Pg) (x:Nd):Bool:=(decide (x.kind=9)||decide (x.kind=10)||decide (x.kind=11))&&!decide (x.name=[])&&(ny p x.name).isNone
def addLocal (ls:List (List Str)) (f:Nat) (s:Str):List (List Str):=if s∈ls.getD f [] then ls else ls.set f (ls.getD f []++[s])
def wL (p:Pg):List (Nd×Int)->List (List Str)->List (List Str)
 | [],ls=>ls
 | (x,o)::r,ls=>wL p r (if RE p x then addLocal ls o.toNat x.name else ls)
def mQ (p:Pg):List (List Str):=wL p (p.nodes.zip (fw p)) (p.az.map (·.args))
def wN (p:Pg) (f:Int):List Str:=if f<0\/(p.az.length:Int)<=f\/mO p=false then [] else (mQ p).getD f.toNat []
def ZX:Str:=[103,101,116]
def ZY:Str:=[100,101,108]
def ZZ:Str:=[112,117,116]
def jX:Str:=[112,117,115,104]
def Z1:Str:=[112,111,112]
def YY:Str:=[115,101,110,100]
def YZ:Str:=[114,101,99,118]
def M8:Str:=[109,97,105,110]
def RF (k:Int) (s:Str):Option Int:=
 if k=1 then (if s=ZX\/s=ZY then some 1 else if s=ZZ then some 2 else none)
 else if k=2 then (if s=jX then some 1 else if s=Z1 then some 0 else none)
 else if k=3 then (if s=YY then some 1 else if s=YZ then some 0 else none)
 else none
def RG (p:Pg):Bool:=
 decide (16<p.az.length)||decide (16<(p.decls.countP fun d=>decide (d.kind=0)))||decide (8<(p.decls.countP fun d=>decide (d.kind=1)))||decide (8<(p.decls.countP fun d=>decide (d.kind=2)))||decide (8<(p.decls.countP fun d=>decide (d.kind=3)))
 ||((mQ p).any fun l=>decide (16<l.length))||(p.nodes.any fun x=>decide (x.kind=10)&&decide (16<x.of.length))
def RH (p:Pg):List Str->List Str->Bool
 | _,[]=>false
 | seen,a::r=>(ny p a).isSome||decide (a∈seen)||RH p (a::seen) r
def RJ (p:Pg):Bool:=!decide ((p.decls.map (·.name)).Nodup)||!decide ((p.az.map (·.name)).Nodup)||(p.az.any fun f=>RH p [] f.args)
def Wm (p:Pg) (x:Nd) (o:Int):Bool:=
 if x.kind=10\/x.kind=11 then (I0 p x.name2).isNone
 else if x.kind=8 then (ny p x.name).isNone
 else if x.kind=2 then (ny p x.name).isNone&&!decide (x.name∈(mQ p).getD o.toNat [])
 else false
def nameP (p:Pg):Bool:=(I0 p M8).isNone||((p.nodes.zip (fw p)).any fun y=>Wm p y.1 y.2)||(p.decls.any fun d=>decide (d.kind<0)||decide (3<d.kind))
def Y0 (p:Pg) (x:Nd):Bool:=
 if x.kind=2\/x.kind=9 then (match ny p x.name with|some k=>!decide (k=0)|none=>false)
 else if x.kind=10\/x.kind=11 then (ny p x.name).isSome
 else if x.kind=8 then (RF ((ny p x.name).getD 0) x.name2).isNone
 else false
def dN (p:Pg):Bool:=p.nodes.any (Y0 p)
def argsAt (p:Pg) (s:Str):Nat:=(p.az.getD ((I0 p s).getD 0) default).args.length
def manyN (p:Pg) (x:Nd):Bool:=
 if x.kind=10 then !decide (x.of.length=argsAt p x.name2)
 else if x.kind=11 then !decide (argsAt p x.name2=1)
 else if x.kind=8 then !decide ((x.of.length:Int)=(RF ((ny p x.name).getD 0) x.name2).getD 0)
 else false
def RL (p:Pg):Bool:=decide (0<argsAt p M8)||p.nodes.any (manyN p)
end Uw.Tryz
