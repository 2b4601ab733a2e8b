/- T1: Sa Xa Pa Pa2 Pa3 Pt Pu Pv Pw Ca (merged by merge2.py from the working texts). -/
import Derived.Test.YtoeaaemleaogbaaGreatDoorN3
import Derived.Test.YtoeaaemleaogbaaGreatDoorProg
import Derived.Lib.LaidTab
import Derived.LaidSub
import Derived.MakeChecks
import Derived.Lib.ItoaNum
import Derived.KernelRfl
import Derived.Lib.Join
set_option linter.unusedSimpArgs false
set_option linter.unnecessarySimpa false
set_option linter.unusedVariables false
set_option linter.unusedSectionVars false
namespace Uw.Tryz
open Go Uw
noncomputable abbrev P0:Program:=Go.Proofs.Tryz.prog
theorem gPow:P0.globalNamed "internal/strconv.uint64pow10" = some 3:=by kernel_rfl
noncomputable instance glob:Glob where
 n:=3+1
 p:=fun w=>Lib.TabIs P0 w "internal/strconv.uint64pow10" .u64 Lib.pow10Tab
 ok:=by
  intro w w' h hp
  unfold Lib.TabIs World.var? at *
  rw [gPow] at hp ⊢
  simp only [Option.bind_some] at hp ⊢
  rw [h 3 (by decide)]
  exact hp
theorem gok {W:World} {l:List (String×DataW Unit)} (h:laidMetH P0 l W) (hl:(l.filter fun x=>x.1 == "internal/strconv.uint64pow10")=[("internal/strconv.uint64pow10",Lib.tabData .u64 Lib.pow10Tab)]) {t e:TypeId} (hty:(P0.globals[3]?).map (·.type)=some t) (ht:P0.underlying t=some (.array 20 e)) (he:P0.underlying e=some (.int .u64)) (hce:P0.cellsOf e=1) (hct:P0.cellsOf t=20):GOk W.heap.size W:=by
 have h1:=laidMetH.filter (fun x=>x.1 == "internal/strconv.uint64pow10") h
 rw [hl,MakeChecks.laidMetH_plain _ _ _ rfl] at h1
 have h2:Lib.TabIs P0 W "internal/strconv.uint64pow10" .u64 Lib.pow10Tab:=Lib.tabIs_of_head gPow hty ht he hce hct h1
 refine ⟨Nat.le_refl _,?_,h2⟩
 show 3+1≤W.heap.size
 unfold Lib.TabIs World.var? at h2
 rw [gPow] at h2
 simp only [Option.bind_some] at h2
 rcases Nat.lt_or_ge 3 W.heap.size with h3|h3
 ·exact h3
 ·rw [Array.getElem?_eq_none h3] at h2
  simp at h2
end Uw.Tryz
namespace Uw.Tryz
open Go Uw
abbrev I (n:Int):Dat:=.int .i64 n
structure Tok where
 kind:Int
 text:List UInt8
 n:Int
 at_:Int
 deriving DecidableEq,Inhabited
def tokL (t:Tok):List Dat:=[I t.kind,.str t.text,I t.n,I t.at_]
def toksD (l:List Tok):Dat:=.slice 4 (l.map tokL) false
def cls (c:UInt8):Nat:=
 if 97≤c.toNat∧c.toNat≤122∨65≤c.toNat∧c.toNat≤90 then 1
 else if 48≤c.toNat∧c.toNat≤57 then 2
 else if c.toNat=95 then 3
 else if c.toNat=9∨c.toNat=10∨c.toNat=32 then 4
 else if c.toNat=40∨c.toNat=41∨c.toNat=123∨c.toNat=125∨c.toNat=44∨c.toNat=59∨c.toNat=46∨c.toNat=61∨c.toNat=43∨c.toNat=45∨c.toNat=42∨c.toNat=60 then 5
 else 0
def nameB (c:UInt8):Bool:=decide (cls c=1)||decide (cls c=2)||decide (cls c=3)
def digB (c:UInt8):Bool:=decide (cls c=2)
def valD (l:List UInt8):Nat:=l.foldl (fun n b=>10 * n+(b.toNat - 48)) 0
def letr (r:List UInt8):Bool:=match r with|[]=>false|b::_=>decide (cls b=1)||decide (cls b=3)
def eqq (r:List UInt8):Bool:=match r with|[]=>false|b::_=>decide (b.toNat=61)
def tokLen:List UInt8→Option (Int×Nat×Int)
 | []=>none
 | c::t=>
  if cls c=1 then (if 1+(t.takeWhile nameB).length≤12 then some (1,1+(t.takeWhile nameB).length,0) else none)
  else if cls c=2 then
   (if 1+(t.takeWhile digB).length≤10∧¬(1<1+(t.takeWhile digB).length∧c.toNat=48)∧valD (c::t.takeWhile digB)<4294967296∧letr (t.dropWhile digB)=false
    then some (2,1+(t.takeWhile digB).length,(valD (c::t.takeWhile digB):Nat)) else none)
  else if cls c=5 then (if c.toNat=61∧eqq t=true then some (3,2,0) else some (3,1,0))
  else none
def lexK:Nat→List UInt8→Int→Option (List Tok)
 | _,[],_=>some []
 | 0,_,_=>none
 | f+1,c::t,at_=>
  if cls c=4 then lexK f t (at_+1)
  else match tokLen (c::t) with
   | none=>none
   | some (k,n,v)=>(lexK f ((c::t).drop n) (at_+n)).map (⟨k,(c::t).take n,v,at_⟩::·)
def lexF (r:List UInt8) (at_:Int):Option (List Tok):=lexK r.length r at_
theorem takeWhile_le {α:Type} (p:α→Bool) (l:List α):(l.takeWhile p).length≤l.length:=(List.takeWhile_prefix (p:=p) (l:=l)).length_le
theorem tokLen_le {r:List UInt8} {k:Int} {n:Nat} {v:Int} (h:tokLen r=some (k,n,v)):1≤n∧n≤r.length:=by
 cases r with
 | nil=>simp [tokLen] at h
 | cons c t=>
  have h1:=takeWhile_le nameB t
  have h2:=takeWhile_le digB t
  rw [tokLen] at h
  by_cases a1:cls c=1
  ·rw [if_pos a1] at h
   split at h
   ·simp at h;simp;omega
   ·cases h
  ·rw [if_neg a1] at h
   by_cases a2:cls c=2
   ·rw [if_pos a2] at h
    split at h
    ·simp only [Option.some.injEq,Prod.mk.injEq] at h;simp only [List.length_cons];omega
    ·cases h
   ·rw [if_neg a2] at h
    split at h
    ·split at h
     ·rename_i h3
      cases t with
      | nil=>simp [eqq] at h3
      | cons b u=>simp at h;simp;omega
     ·simp at h;simp;omega
    ·cases h
theorem lexK_enough:∀(f g:Nat) (r:List UInt8) (a:Int),r.length≤f→r.length≤g→lexK f r a=lexK g r a
 | 0,g,[],a,_,_=>by cases g<;>rfl
 | f+1,g,[],a,_,_=>by cases g<;>rfl
 | 0,_,_::_,_,h,_=>by simp at h
 | _+1,0,_::_,_,_,h=>by simp at h
 | f+1,g+1,c::t,a,h1,h2=>by
  simp only [List.length_cons] at h1 h2
  rw [lexK,lexK]
  by_cases hb:cls c=4
  ·rw [if_pos hb,if_pos hb];exact lexK_enough f g t (a+1) (by omega) (by omega)
  ·rw [if_neg hb,if_neg hb]
   cases ht:tokLen (c::t) with
   | none=>rfl
   | some x=>
    obtain ⟨k,n,v⟩:=x
    have:=tokLen_le ht
    simp only [List.length_cons] at this
    simp only
    rw [lexK_enough f g ((c::t).drop n) (a+n) (by simp;omega) (by simp;omega)]
theorem lexF_nil (a:Int):lexF [] a=some []:=rfl
theorem lexF_blank (c:UInt8) (t:List UInt8) (a:Int) (h:cls c=4):lexF (c::t) a=lexF t (a+1):=by
 rw [lexF,List.length_cons,lexK,if_pos h];rfl
theorem lexF_none (c:UInt8) (t:List UInt8) (a:Int) (h:cls c≠4) (h2:tokLen (c::t)=none):lexF (c::t) a=none:=by
 rw [lexF,List.length_cons,lexK,if_neg h,h2]
theorem lexF_tok (c:UInt8) (t:List UInt8) (a:Int) (h:cls c≠4) {k:Int} {n:Nat} {v:Int} (h2:tokLen (c::t)=some (k,n,v)):lexF (c::t) a=(lexF ((c::t).drop n) (a+n)).map (⟨k,(c::t).take n,v,a⟩::·):=by
 have:=tokLen_le h2
 simp only [List.length_cons] at this
 rw [lexF,List.length_cons,lexK,if_neg h,h2]
 simp only
 rw [lexF,lexK_enough t.length _ ((c::t).drop n) (a+n) (by simp;omega) (Nat.le_refl _)]
def wordsR (s:List UInt8):List Tok×Int:=if 4000<s.length then ([],2) else match lexF s 0 with|none=>([],3)|some l=>(l,0)
def wordsD (x:List Tok×Int):Dat:=.tuple [toksD x.1,I x.2]
end Uw.Tryz
namespace Uw.Tryz
open Go Uw
abbrev Str:=List UInt8
mutual
inductive Ex where
 | num (n:Int)
 | name (s:Str)
 | bin (k:Int) (a b:Ex)
 | call (o v:Str) (ar:Exs)
inductive Exs where
 | nil
 | cons (e:Ex) (r:Exs)
end
mutual
inductive Stm where
 | set (s:Str) (e:Ex)
 | task (par:Bool) (to f:Str) (ar:Exs)
 | sync
 | if1 (e:Ex) (a:Bl)
 | if2 (e:Ex) (a b:Bl)
 | loop (e:Ex) (a:Bl)
 | one (k:Int) (e:Ex)
 | act (o v:Str) (ar:Exs)
inductive Bl where
 | nil
 | cons (s:Stm) (r:Bl)
end
def Exs.length:Exs→Nat
 | .nil=>0
 | .cons _ r=>r.length+1
inductive R (α:Type) where
 | ok (a:α) (r:List Tok)
 | bad
 | out
def R.bind {α β:Type} (x:R α) (f:α→List Tok→R β):R β:=
 match x with
 | .ok a r=>f a r
 | .bad=>.bad
 | .out=>.out
def hd (r:List Tok):Str:=match r with|[]=>[]|t::_=>t.text
def want (s:Str) (r:List Tok):R Unit:=if hd r=s then .ok () r.tail else .bad
def sCell:Str:=[99,101,108,108]
def sMap:Str:=[109,97,112]
def sStack:Str:=[115,116,97,99,107]
def sChan:Str:=[99,104,97,110]
def sFunc:Str:=[102,117,110,99]
def sSpawn:Str:=[115,112,97,119,110]
def sPar:Str:=[112,97,114]
def sSync:Str:=[115,121,110,99]
def sIf:Str:=[105,102]
def sElse:Str:=[101,108,115,101]
def sWhile:Str:=[119,104,105,108,101]
def sReturn:Str:=[114,101,116,117,114,110]
def sAssert:Str:=[97,115,115,101,114,116]
def keyw (s:Str):Bool:=decide (s=sCell)||decide (s=sMap)||decide (s=sStack)||decide (s=sChan)||decide (s=sFunc)||decide (s=sSpawn)||decide (s=sPar)||decide (s=sSync)||decide (s=sIf)||decide (s=sElse)||decide (s=sWhile)||decide (s=sReturn)||decide (s=sAssert)
def pWord (k:Int) (r:List Tok):R Tok:=
 match r with
 | []=>.bad
 | t::r'=>if t.kind=k then .ok t r' else .bad
def isNum (r:List Tok):Bool:=match r with|[]=>false|t::_=>decide (t.kind=2)
def numOf (r:List Tok):Int:=match r with|[]=>0|t::_=>t.n
def pName (r:List Tok):R Str:=(pWord 1 r).bind fun t r'=>if keyw t.text then .bad else .ok t.text r'
mutual
def pPrim:Nat→List Tok→R Ex
 | 0,_=>.out
 | n+1,r=>
  if hd r=[40] then (pExpr n r.tail).bind fun e r=>(want [41] r).bind fun _ r=>.ok e r
  else if isNum r then .ok (.num (numOf r)) r.tail
  else (pName r).bind fun s r=>if hd r=[46] then (pCall n s r).bind fun x r=>.ok (.call s x.1 x.2) r else .ok (.name s) r
def pCall:Nat→Str→List Tok→R (Str×Exs)
 | 0,_,_=>.out
 | n+1,s,r=>(want [46] r).bind fun _ r=>(pName r).bind fun v r=>(pArgs n r).bind fun ar r=>.ok (v,ar) r
def pArgs:Nat→List Tok→R Exs
 | 0,_=>.out
 | n+1,r=>(want [40] r).bind fun _ r=>if hd r=[41] then .ok .nil r.tail else (pExpr n r).bind fun e r=>(pArgsT n r).bind fun es r=>.ok (.cons e es) r
def pArgsT:Nat→List Tok→R Exs
 | 0,_=>.out
 | n+1,r=>if hd r=[44] then (pExpr n r.tail).bind fun e r=>(pArgsT n r).bind fun es r=>.ok (.cons e es) r
  else (want [41] r).bind fun _ r=>.ok .nil r
def pProd:Nat→List Tok→R Ex
 | 0,_=>.out
 | n+1,r=>(pPrim n r).bind fun e r=>pProdT n e r
def pProdT:Nat→Ex→List Tok→R Ex
 | 0,_,_=>.out
 | n+1,left,r=>if hd r=[42] then (pPrim n r.tail).bind fun e r=>pProdT n (.bin 5 left e) r else .ok left r
def pSum:Nat→List Tok→R Ex
 | 0,_=>.out
 | n+1,r=>(pProd n r).bind fun e r=>pSumT n e r
def pSumT:Nat→Ex→List Tok→R Ex
 | 0,_,_=>.out
 | n+1,left,r=>
  if hd r=[43] then (pProd n r.tail).bind fun e r=>pSumT n (.bin 3 left e) r
  else if hd r=[45] then (pProd n r.tail).bind fun e r=>pSumT n (.bin 4 left e) r
  else .ok left r
def pExpr:Nat→List Tok→R Ex
 | 0,_=>.out
 | n+1,r=>(pSum n r).bind fun left r=>
  if hd r=[60] then (pSum n r.tail).bind fun e r=>.ok (.bin 6 left e) r
  else if hd r=[61,61] then (pSum n r.tail).bind fun e r=>.ok (.bin 7 left e) r
  else .ok left r
end
def pChild (n:Nat) (to:Str) (r:List Tok):R Stm:=
 (if hd r=sSpawn then R.ok false r.tail else (want sPar r).bind fun _ r=>.ok true r).bind fun par r=>
  (pName r).bind fun f r=>(pArgs n r).bind fun ar r=>if par=true∧ar.length≠2 then .bad else .ok (.task par to f ar) r
def pSimple (n:Nat) (r:List Tok):R Stm:=
 if hd r=sSpawn∨hd r=sPar then pChild n [] r
 else if hd r=sSync then .ok .sync r.tail
 else if hd r=sReturn then (pExpr n r.tail).bind fun e r=>.ok (.one 15 e) r
 else if hd r=sAssert then (pExpr n r.tail).bind fun e r=>.ok (.one 16 e) r
 else (pName r).bind fun s r=>
  if hd r=[46] then (pCall n s r).bind fun x r=>.ok (.act s x.1 x.2) r
  else (want [61] r).bind fun _ r=>
   if hd r=sSpawn∨hd r=sPar then pChild n s r else (pExpr n r).bind fun e r=>.ok (.set s e) r
mutual
def pStmt:Nat→List Tok→R Stm
 | 0,_=>.out
 | n+1,r=>
  if hd r=sIf then (pExpr n r.tail).bind fun e r=>(pBlock n r).bind fun a r=>
   if hd r=sElse then (pBlock n r.tail).bind fun b r=>.ok (.if2 e a b) r else .ok (.if1 e a) r
  else if hd r=sWhile then (pExpr n r.tail).bind fun e r=>(pBlock n r).bind fun a r=>.ok (.loop e a) r
  else (pSimple n r).bind fun s r=>(want [59] r).bind fun _ r=>.ok s r
def pBlock:Nat→List Tok→R Bl
 | 0,_=>.out
 | n+1,r=>(want [123] r).bind fun _ r=>pStmts n r
def pStmts:Nat→List Tok→R Bl
 | 0,_=>.out
 | n+1,r=>if hd r=[125] then .ok .nil r.tail else (pStmt n r).bind fun s r=>(pStmts n r).bind fun ss r=>.ok (.cons s ss) r
end
structure Dec where
 kind:Int
 name:Str
 n:Int
 deriving DecidableEq,Inhabited
structure Fn where
 name:Str
 args:List Str
 body:Bl
def pNamesT:Nat→List Tok→R (List Str)
 | 0,_=>.out
 | n+1,r=>if hd r=[44] then (pName r.tail).bind fun s r=>(pNamesT n r).bind fun l r=>.ok (s::l) r
  else (want [41] r).bind fun _ r=>.ok [] r
def pNames (n:Nat) (r:List Tok):R (List Str):=(want [40] r).bind fun _ r=>
 if hd r=[41] then .ok [] r.tail else (pName r).bind fun s r=>(pNamesT n r).bind fun l r=>.ok (s::l) r
def pFun (n:Nat) (r:List Tok):R Fn:=(want sFunc r).bind fun _ r=>(pName r).bind fun s r=>(pNames n r).bind fun l r=>(pBlock n r).bind fun b r=>.ok ⟨s,l,b⟩ r
def kindOf (s:Str):Option Int:=if s=sCell then some 0 else if s=sMap then some 1 else if s=sStack then some 2 else if s=sChan then some 3 else none
def pDecl (r:List Tok):R Dec:=(pWord 1 r).bind fun t r=>match kindOf t.text with
 | none=>.bad
 | some k=>(pName r).bind fun s r=>
  (if k=0∧hd r=[61] then (pWord 2 r.tail).bind fun t r=>R.ok t.n r else .ok 0 r).bind fun v r=>(want [59] r).bind fun _ r=>.ok ⟨k,s,v⟩ r
def pDecls:Nat→List Tok→R (List Dec)
 | 0,_=>.out
 | n+1,r=>if r=[]∨hd r=sFunc then .ok [] r else (pDecl r).bind fun d r=>(pDecls n r).bind fun l r=>.ok (d::l) r
def pFuns:Nat→List Tok→R (List Fn)
 | 0,_=>.out
 | n+1,r=>if r=[] then .ok [] r else (pFun n r).bind fun f r=>(pFuns n r).bind fun l r=>.ok (f::l) r
def pProg (n:Nat) (r:List Tok):R (List Dec×List Fn):=(pDecls n r).bind fun d r=>(pFuns n r).bind fun f r=>.ok (d,f) r
structure Nod where
 kind:Int
 n:Int
 name:Str
 name2:Str
 of:List Nat
 deriving DecidableEq,Inhabited
mutual
def Ex.sz:Ex→Nat
 | .num _=>1
 | .name _=>1
 | .bin _ a b=>a.sz+b.sz+1
 | .call _ _ ar=>ar.sz+1
def Exs.sz:Exs→Nat
 | .nil=>0
 | .cons e r=>e.sz+r.sz
end
def Exs.places:Exs→Nat→List Nat
 | .nil,_=>[]
 | .cons e r,b=>(b+e.sz - 1)::r.places (b+e.sz)
mutual
def Ex.flat:Ex→Nat→List Nod
 | .num n,_=>[⟨1,n,[],[],[]⟩]
 | .name s,_=>[⟨2,0,s,[],[]⟩]
 | .bin k x y,b=>x.flat b++y.flat (b+x.sz)++[⟨k,0,[],[],[b+x.sz - 1,b+x.sz+y.sz - 1]⟩]
 | .call o v ar,b=>ar.flat b++[⟨8,0,o,v,ar.places b⟩]
def Exs.flat:Exs→Nat→List Nod
 | .nil,_=>[]
 | .cons e r,b=>e.flat b++r.flat (b+e.sz)
end
mutual
def Stm.sz:Stm→Nat
 | .set _ e=>e.sz+1
 | .task _ _ _ ar=>ar.sz+1
 | .sync=>1
 | .if1 e a=>e.sz+(a.sz+1)+1
 | .if2 e a b=>e.sz+(a.sz+1)+(b.sz+1)+1
 | .loop e a=>e.sz+(a.sz+1)+1
 | .one _ e=>e.sz+1
 | .act _ _ ar=>ar.sz+1+1
def Bl.sz:Bl→Nat
 | .nil=>0
 | .cons s r=>s.sz+r.sz
end
def Bl.places:Bl→Nat→List Nat
 | .nil,_=>[]
 | .cons s r,b=>(b+s.sz - 1)::r.places (b+s.sz)
mutual
def Stm.flat:Stm→Nat→List Nod
 | .set s e,b=>e.flat b++[⟨9,0,s,[],[b+e.sz - 1]⟩]
 | .task par to f ar,b=>ar.flat b++[⟨if par then 11 else 10,0,to,f,ar.places b⟩]
 | .sync,b=>[⟨12,0,[],[],[]⟩]
 | .if1 e x,b=>e.flat b++(x.flat (b+e.sz)++[⟨18,0,[],[],x.places (b+e.sz)⟩])++[⟨13,0,[],[],[b+e.sz - 1,b+e.sz+(x.sz+1) - 1]⟩]
 | .if2 e x y,b=>e.flat b++(x.flat (b+e.sz)++[⟨18,0,[],[],x.places (b+e.sz)⟩])++(y.flat (b+e.sz+(x.sz+1))++[⟨18,0,[],[],y.places (b+e.sz+(x.sz+1))⟩])++[⟨13,0,[],[],[b+e.sz - 1,b+e.sz+(x.sz+1) - 1,b+e.sz+(x.sz+1)+(y.sz+1) - 1]⟩]
 | .loop e x,b=>e.flat b++(x.flat (b+e.sz)++[⟨18,0,[],[],x.places (b+e.sz)⟩])++[⟨14,0,[],[],[b+e.sz - 1,b+e.sz+(x.sz+1) - 1]⟩]
 | .one k e,b=>e.flat b++[⟨k,0,[],[],[b+e.sz - 1]⟩]
 | .act o v ar,b=>ar.flat b++[⟨8,0,o,v,ar.places b⟩]++[⟨17,0,[],[],[b+ar.sz+1 - 1]⟩]
def Bl.flat:Bl→Nat→List Nod
 | .nil,_=>[]
 | .cons s r,b=>s.flat b++r.flat (b+s.sz)
end
def Bl.all (x:Bl) (b:Nat):List Nod:=x.flat b++[⟨18,0,[],[],x.places b⟩]
mutual
theorem Ex.flat_len:∀(e:Ex) (b:Nat),(e.flat b).length=e.sz
 | .num _,_=>rfl
 | .name _,_=>rfl
 | .bin k x y,b=>by simp [Ex.flat,Ex.sz,Ex.flat_len x,Ex.flat_len y];omega
 | .call o v ar,b=>by simp [Ex.flat,Ex.sz,Exs.flat_len ar]
theorem Exs.flat_len:∀(e:Exs) (b:Nat),(e.flat b).length=e.sz
 | .nil,_=>rfl
 | .cons e r,b=>by simp [Exs.flat,Exs.sz,Ex.flat_len e,Exs.flat_len r]
end
mutual
theorem Stm.flat_len:∀(e:Stm) (b:Nat),(e.flat b).length=e.sz
 | .set s e,b=>by simp [Stm.flat,Stm.sz,Ex.flat_len]
 | .task par to f ar,b=>by simp [Stm.flat,Stm.sz,Exs.flat_len]
 | .sync,b=>rfl
 | .if1 e x,b=>by simp [Stm.flat,Stm.sz,Ex.flat_len,Bl.flat_len x];omega
 | .if2 e x y,b=>by simp [Stm.flat,Stm.sz,Ex.flat_len,Bl.flat_len x,Bl.flat_len y];omega
 | .loop e x,b=>by simp [Stm.flat,Stm.sz,Ex.flat_len,Bl.flat_len x];omega
 | .one k e,b=>by simp [Stm.flat,Stm.sz,Ex.flat_len]
 | .act o v ar,b=>by simp [Stm.flat,Stm.sz,Exs.flat_len]
theorem Bl.flat_len:∀(e:Bl) (b:Nat),(e.flat b).length=e.sz
 | .nil,_=>rfl
 | .cons s r,b=>by simp [Bl.flat,Bl.sz,Stm.flat_len s,Bl.flat_len r]
end
theorem Bl.all_len (x:Bl) (b:Nat):(x.all b).length=x.sz+1:=by simp [Bl.all,Bl.flat_len]
mutual
theorem Ex.sz_pos:∀(e:Ex),1≤e.sz
 | .num _=>Nat.le_refl _
 | .name _=>Nat.le_refl _
 | .bin _ a b=>by rw [Ex.sz];omega
 | .call _ _ ar=>by rw [Ex.sz];omega
end
theorem Stm.sz_pos (s:Stm):1≤s.sz:=by cases s<;>simp only [Stm.sz]<;>omega
end Uw.Tryz
namespace Uw.Tryz
open Go Uw
theorem bind_ok {α β:Type} {x:R α} {f:α→List Tok→R β} {b:β} {r:List Tok}:x.bind f = .ok b r↔∃a r1,x = .ok a r1∧f a r1 = .ok b r:=by
 cases x with
 | ok a r1=>exact ⟨fun h=>⟨a,r1,rfl,h⟩,fun ⟨_,_,h1,h2⟩=>by injection h1 with e1 e2;subst e1 e2;exact h2⟩
 | bad=>exact ⟨fun h=>(by cases h),fun ⟨_,_,h,_⟩=>(by cases h)⟩
 | out=>exact ⟨fun h=>(by cases h),fun ⟨_,_,h,_⟩=>(by cases h)⟩
def Suf (r r' : List Tok) (s:Nat):Prop:=∃j,j≤r.length∧r' = r.drop j∧s≤j
theorem Suf.refl (r:List Tok):Suf r r 0:=⟨0,by simp,rfl,Nat.le_refl _⟩
theorem Suf.trans {a b c:List Tok} {s t:Nat} (h1:Suf a b s) (h2:Suf b c t):Suf a c (s+t):=by
 obtain ⟨i,i1,rfl,i3⟩:=h1
 obtain ⟨j,j1,rfl,j3⟩:=h2
 simp at j1
 exact ⟨i+j,by omega,by rw [List.drop_drop],by omega⟩
theorem Suf.le {a b:List Tok} {s t:Nat} (h:Suf a b s) (hl:t≤s):Suf a b t:=by
 obtain ⟨i,i1,i2,i3⟩:=h
 exact ⟨i,i1,i2,by omega⟩
theorem Suf.tail {r:List Tok} (h:r≠[]):Suf r r.tail 1:=by
 cases r with
 | nil=>exact absurd rfl h
 | cons a l=>exact ⟨1,by simp,rfl,Nat.le_refl _⟩
theorem hd_ne {r:List Tok} {s:Str} (h:hd r=s) (hs:s≠[]):r≠[]:=by
 rintro rfl;exact hs h.symm
theorem Suf.hd {r:List Tok} {s:Str} (h:hd r=s) (hs:s≠[]):Suf r r.tail 1:=Suf.tail (hd_ne h hs)
theorem want_ok {s:Str} {r r' : List Tok} {u:Unit} (h:want s r = .ok u r'):Uw.Tryz.hd r=s∧r' = r.tail:=by
 rw [want] at h
 split at h
 ·rename_i hh
  injection h with _ h
  exact ⟨hh,h.symm⟩
 ·cases h
theorem word_ok {k:Int} {r r' : List Tok} {t:Tok} (h:pWord k r = .ok t r'):∃q,r=t::q∧r' = q∧t.kind=k:=by
 cases r with
 | nil=>rw [pWord] at h;cases h
 | cons a q=>
  rw [pWord] at h
  split at h
  ·rename_i hk
   injection h with h1 h2
   subst h1 h2
   exact ⟨q,rfl,rfl,hk⟩
  ·cases h
theorem name_ok {r r' : List Tok} {s:Str} (h:pName r = .ok s r'):∃t,r=t::r'∧s=t.text∧t.kind=1∧keyw t.text=false:=by
 rw [pName,bind_ok] at h
 obtain ⟨t,r1,h1,h2⟩:=h
 obtain ⟨q,rfl,rfl,hk⟩:=word_ok h1
 split at h2
 ·cases h2
 ·rename_i hkw
  injection h2 with e1 e2
  subst e1 e2
  exact ⟨t,rfl,rfl,hk,by simpa using hkw⟩
theorem Suf.name {r r' : List Tok} {s:Str} (h:pName r = .ok s r'):Suf r r' 1:=by
 obtain ⟨t,rfl,_⟩:=name_ok h
 exact ⟨1,by simp,rfl,Nat.le_refl _⟩
theorem Suf.want {s:Str} (hs:s≠[]) {r r' : List Tok} {u:Unit} (h:want s r = .ok u r'):Suf r r' 1:=by
 obtain ⟨h1,rfl⟩:=want_ok h
 exact Suf.hd h1 hs
structure SufE (n:Nat):Prop where
 prim:∀r e r',pPrim n r = .ok e r'→Suf r r' e.sz
 call:∀s r x r',pCall n s r = .ok x r'→Suf r r' (x.2.sz+1)
 args:∀r x r',pArgs n r = .ok x r'→Suf r r' (x.sz+1)
 argsT:∀r x r',pArgsT n r = .ok x r'→Suf r r' x.sz
 prod:∀r e r',pProd n r = .ok e r'→Suf r r' e.sz
 prodT:∀l r e r',pProdT n l r = .ok e r'→Suf r r' (e.sz - l.sz)∧l.sz≤e.sz
 sum:∀r e r',pSum n r = .ok e r'→Suf r r' e.sz
 sumT:∀l r e r',pSumT n l r = .ok e r'→Suf r r' (e.sz - l.sz)∧l.sz≤e.sz
 expr:∀r e r',pExpr n r = .ok e r'→Suf r r' e.sz
theorem suf_e:∀n,SufE n
 | 0=>by
  refine ⟨?_,?_,?_,?_,?_,?_,?_,?_,?_⟩
  ·intro _ _ _ h;rw [pPrim] at h;cases h
  ·intro _ _ _ _ h;rw [pCall] at h;cases h
  ·intro _ _ _ h;rw [pArgs] at h;cases h
  ·intro _ _ _ h;rw [pArgsT] at h;cases h
  ·intro _ _ _ h;rw [pProd] at h;cases h
  ·intro _ _ _ _ h;rw [pProdT] at h;cases h
  ·intro _ _ _ h;rw [pSum] at h;cases h
  ·intro _ _ _ _ h;rw [pSumT] at h;cases h
  ·intro _ _ _ h;rw [pExpr] at h;cases h
 | n+1=>by
  have ih:=suf_e n
  refine ⟨?_,?_,?_,?_,?_,?_,?_,?_,?_⟩
  ·intro r e r' h
   rw [pPrim] at h
   split at h
   ·rename_i hh
    obtain ⟨e1,r1,h1,h⟩:=bind_ok.1 h
    obtain ⟨_,r2,h2,h⟩:=bind_ok.1 h
    injection h with h3 h4
    subst h3 h4
    exact ((Suf.hd hh (by simp)).trans ((ih.expr _ _ _ h1).trans (Suf.want (by simp) h2))).le (by omega)
   ·split at h
    ·rename_i hn
     injection h with h1 h2
     subst h1 h2
     exact (Suf.tail (by rintro rfl;cases hn)).le (by simp [Ex.sz])
    ·obtain ⟨s,r1,h1,h⟩:=bind_ok.1 h
     have s1:=Suf.name h1
     split at h
     ·obtain ⟨x,r2,h2,h⟩:=bind_ok.1 h
      injection h with h3 h4
      subst h3 h4
      exact (s1.trans (ih.call _ _ _ _ h2)).le (by rw [Ex.sz];omega)
     ·injection h with h3 h4
      subst h3 h4
      exact s1.le (by simp [Ex.sz])
  ·intro s r x r' h
   rw [pCall] at h
   obtain ⟨_,r1,h1,h⟩:=bind_ok.1 h
   obtain ⟨v,r2,h2,h⟩:=bind_ok.1 h
   obtain ⟨ar,r3,h3,h⟩:=bind_ok.1 h
   injection h with h4 h5
   subst h4 h5
   exact ((Suf.want (by simp) h1).trans ((Suf.name h2).trans (ih.args _ _ _ h3))).le (by simp only;omega)
  ·intro r x r' h
   rw [pArgs] at h
   obtain ⟨_,r1,h1,h⟩:=bind_ok.1 h
   have s1:=Suf.want (by simp) h1
   split at h
   ·rename_i hh
    injection h with h4 h5
    subst h4 h5
    exact (s1.trans (Suf.hd hh (by simp))).le (by simp [Exs.sz])
   ·obtain ⟨e,r2,h2,h⟩:=bind_ok.1 h
    obtain ⟨es,r3,h3,h⟩:=bind_ok.1 h
    injection h with h4 h5
    subst h4 h5
    exact (s1.trans ((ih.expr _ _ _ h2).trans (ih.argsT _ _ _ h3))).le (by rw [Exs.sz];omega)
  ·intro r x r' h
   rw [pArgsT] at h
   split at h
   ·rename_i hh
    obtain ⟨e,r2,h2,h⟩:=bind_ok.1 h
    obtain ⟨es,r3,h3,h⟩:=bind_ok.1 h
    injection h with h4 h5
    subst h4 h5
    exact ((Suf.hd hh (by simp)).trans ((ih.expr _ _ _ h2).trans (ih.argsT _ _ _ h3))).le (by rw [Exs.sz];omega)
   ·obtain ⟨_,r1,h1,h⟩:=bind_ok.1 h
    injection h with h4 h5
    subst h4 h5
    exact (Suf.want (by simp) h1).le (by simp [Exs.sz])
  ·intro r e r' h
   rw [pProd] at h
   obtain ⟨e1,r1,h1,h⟩:=bind_ok.1 h
   obtain ⟨a1,a2⟩:=ih.prodT _ _ _ _ h
   exact ((ih.prim _ _ _ h1).trans a1).le (by omega)
  ·intro l r e r' h
   rw [pProdT] at h
   split at h
   ·rename_i hh
    obtain ⟨e1,r1,h1,h⟩:=bind_ok.1 h
    obtain ⟨a1,a2⟩:=ih.prodT _ _ _ _ h
    rw [Ex.sz] at a1 a2
    exact ⟨((Suf.hd hh (by simp)).trans ((ih.prim _ _ _ h1).trans a1)).le (by omega),by omega⟩
   ·injection h with h4 h5
    subst h4 h5
    exact ⟨(Suf.refl _).le (by omega),Nat.le_refl _⟩
  ·intro r e r' h
   rw [pSum] at h
   obtain ⟨e1,r1,h1,h⟩:=bind_ok.1 h
   obtain ⟨a1,a2⟩:=ih.sumT _ _ _ _ h
   exact ((ih.prod _ _ _ h1).trans a1).le (by omega)
  ·intro l r e r' h
   rw [pSumT] at h
   split at h
   ·rename_i hh
    obtain ⟨e1,r1,h1,h⟩:=bind_ok.1 h
    obtain ⟨a1,a2⟩:=ih.sumT _ _ _ _ h
    rw [Ex.sz] at a1 a2
    exact ⟨((Suf.hd hh (by simp)).trans ((ih.prod _ _ _ h1).trans a1)).le (by omega),by omega⟩
   ·split at h
    ·rename_i hh
     obtain ⟨e1,r1,h1,h⟩:=bind_ok.1 h
     obtain ⟨a1,a2⟩:=ih.sumT _ _ _ _ h
     rw [Ex.sz] at a1 a2
     exact ⟨((Suf.hd hh (by simp)).trans ((ih.prod _ _ _ h1).trans a1)).le (by omega),by omega⟩
    ·injection h with h4 h5
     subst h4 h5
     exact ⟨(Suf.refl _).le (by omega),Nat.le_refl _⟩
  ·intro r e r' h
   rw [pExpr] at h
   obtain ⟨e1,r1,h1,h⟩:=bind_ok.1 h
   have s1:=ih.sum _ _ _ h1
   split at h
   ·rename_i hh
    obtain ⟨e2,r2,h2,h⟩:=bind_ok.1 h
    injection h with h4 h5
    subst h4 h5
    exact (s1.trans ((Suf.hd hh (by simp)).trans (ih.sum _ _ _ h2))).le (by rw [Ex.sz];omega)
   ·split at h
    ·rename_i hh
     obtain ⟨e2,r2,h2,h⟩:=bind_ok.1 h
     injection h with h4 h5
     subst h4 h5
     exact (s1.trans ((Suf.hd hh (by simp)).trans (ih.sum _ _ _ h2))).le (by rw [Ex.sz];omega)
    ·injection h with h4 h5
     subst h4 h5
     exact s1
end Uw.Tryz
namespace Uw.Tryz
open Go Uw
theorem suf_child {n:Nat} {to:Str} {r r' : List Tok} {s:Stm} (h:pChild n to r = .ok s r'):Suf r r' s.sz:=by
 rw [pChild] at h
 obtain ⟨p,r1,h1,h⟩:=bind_ok.1 h
 obtain ⟨f,r2,h2,h⟩:=bind_ok.1 h
 obtain ⟨ar,r3,h3,h⟩:=bind_ok.1 h
 have s1:Suf r r1 1:=by
  split at h1
  ·rename_i hh
   injection h1 with _ e
   subst e
   exact Suf.hd hh (by decide)
  ·obtain ⟨_,r4,h4,h5⟩:=bind_ok.1 h1
   injection h5 with _ e
   subst e
   exact Suf.want (by decide) h4
 split at h
 ·cases h
 ·injection h with e1 e2
  subst e1 e2
  exact (s1.trans ((Suf.name h2).trans ((suf_e n).args _ _ _ h3))).le (by rw [Stm.sz];omega)
theorem suf_simple {n:Nat} {r r' : List Tok} {s:Stm} (h:pSimple n r = .ok s r'):Suf r r' s.sz:=by
 rw [pSimple] at h
 split at h
 ·exact suf_child h
 ·split at h
  ·rename_i hh
   injection h with e1 e2
   subst e1 e2
   exact Suf.hd hh (by decide)
  ·split at h
   ·rename_i hh
    obtain ⟨e,r1,h1,h⟩:=bind_ok.1 h
    injection h with e1 e2
    subst e1 e2
    exact ((Suf.hd hh (by decide)).trans ((suf_e n).expr _ _ _ h1)).le (by rw [Stm.sz];omega)
   ·split at h
    ·rename_i hh
     obtain ⟨e,r1,h1,h⟩:=bind_ok.1 h
     injection h with e1 e2
     subst e1 e2
     exact ((Suf.hd hh (by decide)).trans ((suf_e n).expr _ _ _ h1)).le (by rw [Stm.sz];omega)
    ·obtain ⟨nm,r1,h1,h⟩:=bind_ok.1 h
     split at h
     ·obtain ⟨x,r2,h2,h⟩:=bind_ok.1 h
      injection h with e1 e2
      subst e1 e2
      exact ((Suf.name h1).trans ((suf_e n).call _ _ _ _ h2)).le (by rw [Stm.sz];omega)
     ·obtain ⟨_,r2,h2,h⟩:=bind_ok.1 h
      have s2:=(Suf.name h1).trans (Suf.want (by decide) h2)
      split at h
      ·exact (s2.trans (suf_child h)).le (by omega)
      ·obtain ⟨e,r3,h3,h⟩:=bind_ok.1 h
       injection h with e1 e2
       subst e1 e2
       exact (s2.trans ((suf_e n).expr _ _ _ h3)).le (by rw [Stm.sz];omega)
structure SufS (n:Nat):Prop where
 stmt:∀r s r',pStmt n r = .ok s r'→Suf r r' s.sz
 block:∀r s r',pBlock n r = .ok s r'→Suf r r' (s.sz+1)
 stmts:∀r s r',pStmts n r = .ok s r'→Suf r r' s.sz
theorem suf_s:∀n,SufS n
 | 0=>by
  refine ⟨?_,?_,?_⟩
  ·intro _ _ _ h;rw [pStmt] at h;cases h
  ·intro _ _ _ h;rw [pBlock] at h;cases h
  ·intro _ _ _ h;rw [pStmts] at h;cases h
 | n+1=>by
  have ih:=suf_s n
  refine ⟨?_,?_,?_⟩
  ·intro r s r' h
   rw [pStmt] at h
   split at h
   ·rename_i hh
    obtain ⟨e,r1,h1,h⟩:=bind_ok.1 h
    obtain ⟨a,r2,h2,h⟩:=bind_ok.1 h
    have s2:=(Suf.hd hh (by decide)).trans (((suf_e n).expr _ _ _ h1).trans (ih.block _ _ _ h2))
    split at h
    ·rename_i hh2
     obtain ⟨b,r3,h3,h⟩:=bind_ok.1 h
     injection h with e1 e2
     subst e1 e2
     exact (s2.trans ((Suf.hd hh2 (by decide)).trans (ih.block _ _ _ h3))).le (by rw [Stm.sz];omega)
    ·injection h with e1 e2
     subst e1 e2
     exact s2.le (by rw [Stm.sz];omega)
   ·split at h
    ·rename_i hh
     obtain ⟨e,r1,h1,h⟩:=bind_ok.1 h
     obtain ⟨a,r2,h2,h⟩:=bind_ok.1 h
     injection h with e1 e2
     subst e1 e2
     exact ((Suf.hd hh (by decide)).trans (((suf_e n).expr _ _ _ h1).trans (ih.block _ _ _ h2))).le (by rw [Stm.sz];omega)
    ·obtain ⟨e,r1,h1,h⟩:=bind_ok.1 h
     obtain ⟨_,r2,h2,h⟩:=bind_ok.1 h
     injection h with e1 e2
     subst e1 e2
     exact ((suf_simple h1).trans (Suf.want (by decide) h2)).le (by omega)
  ·intro r s r' h
   rw [pBlock] at h
   obtain ⟨_,r1,h1,h⟩:=bind_ok.1 h
   exact ((Suf.want (by decide) h1).trans (ih.stmts _ _ _ h)).le (by omega)
  ·intro r s r' h
   rw [pStmts] at h
   split at h
   ·rename_i hh
    injection h with e1 e2
    subst e1 e2
    exact (Suf.hd hh (by decide)).le (by simp [Bl.sz])
   ·obtain ⟨e,r1,h1,h⟩:=bind_ok.1 h
    obtain ⟨ss,r2,h2,h⟩:=bind_ok.1 h
    injection h with e1 e2
    subst e1 e2
    exact ((ih.stmt _ _ _ h1).trans (ih.stmts _ _ _ h2)).le (by rw [Bl.sz];omega)
end Uw.Tryz
namespace Uw.Tryz
open Go Uw
def cRet {α:Type} (a:α):List Tok→R α:=fun r=>.ok a r
def cBad {α:Type}:List Tok→R α:=fun _=>.bad
def cBind {α β:Type} (p:List Tok→R β) (f:β→List Tok→R α):List Tok→R α:=fun r=>(p r).bind f
def cWant {α:Type} (s:Str) (p:List Tok→R α):List Tok→R α:=fun r=>(want s r).bind fun _ r=>p r
def cSkip {α:Type} (s:Str) (p q:List Tok→R α):List Tok→R α:=fun r=>if hd r=s then p r.tail else q r
def cPeek {α:Type} (s:Str) (p q:List Tok→R α):List Tok→R α:=fun r=>if hd r=s then p r else q r
def cName {α:Type} (f:Str→List Tok→R α):List Tok→R α:=fun r=>(pName r).bind f
def cWord {α:Type} (k:Int) (f:Str→Int→List Tok→R α):List Tok→R α:=fun r=>(pWord k r).bind fun t r=>f t.text t.n r
def cNum {α:Type} (f:Int→List Tok→R α) (q:List Tok→R α):List Tok→R α:=fun r=>if isNum r then f (numOf r) r.tail else q r
theorem pPrim_eq (n:Nat):pPrim (n+1)=cSkip [40] (cBind (pExpr n) fun e=>cWant [41] (cRet e)) (cNum (fun v=>cRet (.num v)) (cName fun s=>cPeek [46] (cBind (pCall n s) fun x=>cRet (.call s x.1 x.2)) (cRet (.name s)))):=by
 funext r;rw [pPrim];rfl
theorem pCall_eq (n:Nat) (s:Str):pCall (n+1) s=cWant [46] (cName fun v=>cBind (pArgs n) fun ar=>cRet (v,ar)):=by
 funext r;rw [pCall];rfl
theorem pArgs_eq (n:Nat):pArgs (n+1)=cWant [40] (cSkip [41] (cRet .nil) (cBind (pExpr n) fun e=>cBind (pArgsT n) fun es=>cRet (.cons e es))):=by
 funext r;rw [pArgs];rfl
theorem pArgsT_eq (n:Nat):pArgsT (n+1)=cSkip [44] (cBind (pExpr n) fun e=>cBind (pArgsT n) fun es=>cRet (.cons e es)) (cWant [41] (cRet .nil)):=by
 funext r;rw [pArgsT];rfl
theorem pProd_eq (n:Nat):pProd (n+1)=cBind (pPrim n) fun e=>pProdT n e:=by funext r;rw [pProd];rfl
theorem pProdT_eq (n:Nat) (l:Ex):pProdT (n+1) l=cSkip [42] (cBind (pPrim n) fun e=>pProdT n (.bin 5 l e)) (cRet l):=by funext r;rw [pProdT];rfl
theorem pSum_eq (n:Nat):pSum (n+1)=cBind (pProd n) fun e=>pSumT n e:=by funext r;rw [pSum];rfl
theorem pSumT_eq (n:Nat) (l:Ex):pSumT (n+1) l=cSkip [43] (cBind (pProd n) fun e=>pSumT n (.bin 3 l e)) (cSkip [45] (cBind (pProd n) fun e=>pSumT n (.bin 4 l e)) (cRet l)):=by funext r;rw [pSumT];rfl
theorem pExpr_eq (n:Nat):pExpr (n+1)=cBind (pSum n) fun l=>cSkip [60] (cBind (pSum n) fun e=>cRet (.bin 6 l e)) (cSkip [61,61] (cBind (pSum n) fun e=>cRet (.bin 7 l e)) (cRet l)):=by funext r;rw [pExpr];rfl
theorem pChild_eq (n:Nat) (to:Str):pChild n to=cBind (cSkip sSpawn (cRet false) (cWant sPar (cRet true))) fun par=>cName fun f=>cBind (pArgs n) fun ar=>if par=true∧ar.length≠2 then cBad else cRet (.task par to f ar):=by
 funext r
 rw [pChild]
 show R.bind _ _=R.bind _ _
 congr 1
 funext par r
 show R.bind _ _=R.bind _ _
 congr 1
 funext f r
 show R.bind _ _=R.bind _ _
 congr 1
 funext ar r
 split<;>rfl
theorem pSimple_eq (n:Nat):pSimple n=cPeek sSpawn (pChild n []) (cPeek sPar (pChild n []) (cSkip sSync (cRet .sync) (cSkip sReturn (cBind (pExpr n) fun e=>cRet (.one 15 e)) (cSkip sAssert (cBind (pExpr n) fun e=>cRet (.one 16 e))
  (cName fun s=>cPeek [46] (cBind (pCall n s) fun x=>cRet (.act s x.1 x.2)) (cWant [61] (cPeek sSpawn (pChild n s) (cPeek sPar (pChild n s) (cBind (pExpr n) fun e=>cRet (.set s e)))))))))):=by
 have key:∀{α:Type} (a b:Prop) [Decidable a] [Decidable b] (x y:α),(if a∨b then x else y)=if a then x else if b then x else y:=by
  intro α a b _ _ x y
  by_cases ha:a<;>by_cases hb:b<;>simp [ha,hb]
 funext r
 rw [pSimple,key]
 show _=if hd r=sSpawn then _ else if hd r=sPar then _ else if hd r=sSync then _ else if hd r=sReturn then _ else if hd r=sAssert then _ else R.bind _ _
 congr 6
 funext s r
 show _=if hd r=[46] then _ else R.bind _ _
 congr 2
 funext _ r
 rw [key]
 rfl
theorem pStmt_eq (n:Nat):pStmt (n+1)=cSkip sIf (cBind (pExpr n) fun e=>cBind (pBlock n) fun a=>cSkip sElse (cBind (pBlock n) fun b=>cRet (.if2 e a b)) (cRet (.if1 e a))) (cSkip sWhile (cBind (pExpr n) fun e=>cBind (pBlock n) fun a=>cRet (.loop e a)) (cBind (pSimple n) fun s=>cWant [59] (cRet s))):=by
 funext r;rw [pStmt];rfl
theorem pBlock_eq (n:Nat):pBlock (n+1)=cWant [123] (pStmts n):=by funext r;rw [pBlock];rfl
theorem pStmts_eq (n:Nat):pStmts (n+1)=cSkip [125] (cRet .nil) (cBind (pStmt n) fun s=>cBind (pStmts n) fun ss=>cRet (.cons s ss)):=by funext r;rw [pStmts];rfl
theorem pNamesT_eq (n:Nat):pNamesT (n+1)=cSkip [44] (cName fun s=>cBind (pNamesT n) fun l=>cRet (s::l)) (cWant [41] (cRet [])):=by funext r;rw [pNamesT];rfl
theorem pNames_eq (n:Nat):pNames n=cWant [40] (cSkip [41] (cRet []) (cName fun s=>cBind (pNamesT n) fun l=>cRet (s::l))):=by funext r;rw [pNames];rfl
theorem pFun_eq (n:Nat):pFun n=cWant sFunc (cName fun s=>cBind (pNames n) fun l=>cBind (pBlock n) fun b=>cRet ⟨s,l,b⟩):=by funext r;rw [pFun];rfl
def cKind (t:Str):List Tok→R Dec:=
 match kindOf t with
 | none=>cBad
 | some k=>cName fun s=>if k=0 then cSkip [61] (cWord 2 fun _ n=>cWant [59] (cRet ⟨k,s,n⟩)) (cWant [59] (cRet ⟨k,s,0⟩)) else cWant [59] (cRet ⟨k,s,0⟩)
theorem pDecl_eq:pDecl=cWord 1 fun t _=>cKind t:=by
 funext r
 rw [pDecl]
 show R.bind _ _=R.bind _ _
 congr 1
 funext t r
 show _=cKind t.text r
 unfold cKind
 cases kindOf t.text with
 | none=>rfl
 | some k=>
  show R.bind _ _=R.bind _ _
  congr 1
  funext s r
  by_cases hk:k=0
  ·rw [if_pos hk]
   by_cases h:hd r=[61]
   ·rw [if_pos ⟨hk,h⟩]
    show _=if hd r=[61] then R.bind _ _ else _
    rw [if_pos h]
    cases pWord 2 r.tail<;>rfl
   ·rw [if_neg (fun x=>h x.2)]
    show _=if hd r=[61] then R.bind _ _ else _
    rw [if_neg h];rfl
  ·rw [if_neg hk,if_neg (fun x=>hk x.1)]
   rfl
def Eats {α:Type} (p:List Tok→R α):Prop:=∀r a r',p r = .ok a r'→r'.length<r.length
def delta (s:Str):Int:=if s=[40]∨s=[123] then 1 else if s=[41]∨s=[125] then -1 else 0
inductive IsP:{α:Type}→Int→(List Tok→R α)→(List Tok→R α)→Prop
 | out {α:Type} {d:Int} {q:List Tok→R α}:IsP d (fun _=>.out) q
 | bad {α:Type} {d:Int}:IsP d (cBad (α:=α)) cBad
 | ret {α:Type} (a:α):IsP 0 (cRet a) (cRet a)
 | bind {α β:Type} {d e g:Int} {p p' : List Tok→R β} {f f' : β→List Tok→R α}:IsP d p p'→(∀b,IsP e (f b) (f' b))→g=d+e→IsP g (cBind p f) (cBind p' f')
 | want {α:Type} {d g:Int} {s:Str} {p p' : List Tok→R α}:s≠[]→IsP d p p'→g=delta s+d→IsP g (cWant s p) (cWant s p')
 | skip {α:Type} {d g:Int} {s:Str} {p p' q q' : List Tok→R α}:s≠[]→(s≠[41]∨Eats q)→IsP d p p'→IsP g q q'→g=delta s+d→IsP g (cSkip s p q) (cSkip s p' q')
 | peek {α:Type} {d:Int} {s:Str} {p p' q q' : List Tok→R α}:s≠[41]→Eats p→IsP d p p'→IsP d q q'→IsP d (cPeek s p q) (cPeek s p' q')
 | name {α:Type} {d:Int} {f f' : Str→List Tok→R α}:(∀b,IsP d (f b) (f' b))→IsP d (cName f) (cName f')
 | word {α:Type} {d:Int} {k:Int} {f f' : Str→Int→List Tok→R α}:k≠3→(∀b n,IsP d (f b n) (f' b n))→IsP d (cWord k f) (cWord k f')
 | num {α:Type} {d:Int} {f f' : Int→List Tok→R α} {q q' : List Tok→R α}:Eats q→(∀b,IsP d (f b) (f' b))→IsP d q q'→IsP d (cNum f q) (cNum f' q')
theorem le_bind {α β:Type} {x y:R β} {f g:β→List Tok→R α} (h:x = .out∨x=y) (hf:∀b r,f b r = .out∨f b r=g b r):x.bind f = .out∨x.bind f=y.bind g:=by
 rcases h with rfl|rfl
 ·exact .inl rfl
 ·cases x with
  | ok a r=>exact hf a r
  | bad=>exact .inr rfl
  | out=>exact .inl rfl
theorem IsP.le {α:Type} {d:Int} {p q:List Tok→R α} (h:IsP d p q):∀r,p r = .out∨p r=q r:=by
 induction h with
 | out=>exact fun r=>.inl rfl
 | bad=>exact fun r=>.inr rfl
 | ret=>exact fun r=>.inr rfl
 | bind _ _ _ ih1 ih2=>exact fun r=>le_bind (ih1 r) ih2
 | want _ _ _ ih=>exact fun r=>le_bind (.inr rfl) fun _ r=>ih r
 | skip _ _ _ _ _ ih1 ih2=>
  intro r
  unfold cSkip
  split
  ·exact ih1 _
  ·exact ih2 _
 | peek _ _ _ _ ih1 ih2=>
  intro r
  unfold cPeek
  split
  ·exact ih1 _
  ·exact ih2 _
 | name _ ih=>exact fun r=>le_bind (.inr rfl) ih
 | word _ _ ih=>exact fun r=>le_bind (.inr rfl) fun t r=>ih t.text t.n r
 | num _ _ _ ih1 ih2=>
  intro r
  unfold cNum
  split
  ·exact ih1 _ _
  ·exact ih2 _
theorem tail_of {r:List Tok} {s:Str} (h:hd r=s) (hs:s≠[]):∃t,r=t::r.tail∧t.text=s:=by
 cases r with
 | nil=>exact absurd h.symm hs
 | cons a l=>exact ⟨a,rfl,h⟩
theorem IsP.pre {α:Type} {d:Int} {p q:List Tok→R α} (h:IsP d p q):∀r a r',p r = .ok a r'→∃c,r=c++r':=by
 induction h with
 | out=>intro r a r' h;cases h
 | bad=>intro r a r' h;cases h
 | ret=>intro r a r' h;injection h with _ h;exact ⟨[],by rw [h];rfl⟩
 | bind _ _ _ ih1 ih2=>
  intro r a r' h
  obtain ⟨b,r1,h1,h2⟩:=bind_ok.1 h
  obtain ⟨c1,rfl⟩:=ih1 _ _ _ h1
  obtain ⟨c2,rfl⟩:=ih2 _ _ _ _ h2
  exact ⟨c1++c2,by simp⟩
 | want hs _ _ ih=>
  intro r a r' h
  obtain ⟨b,r1,h1,h2⟩:=bind_ok.1 h
  obtain ⟨hh,rfl⟩:=want_ok h1
  obtain ⟨t,ht,_⟩:=tail_of hh hs
  obtain ⟨c2,h3⟩:=ih _ _ _ h2
  exact ⟨t::c2,by rw [ht,h3];rfl⟩
 | skip hs _ _ _ _ ih1 ih2=>
  intro r a r' h
  unfold cSkip at h
  split at h
  ·rename_i hh
   obtain ⟨t,ht,_⟩:=tail_of hh hs
   obtain ⟨c2,h3⟩:=ih1 _ _ _ h
   exact ⟨t::c2,by rw [ht,h3];rfl⟩
  ·exact ih2 _ _ _ h
 | peek _ _ _ _ ih1 ih2=>
  intro r a r' h
  unfold cPeek at h
  split at h
  ·exact ih1 _ _ _ h
  ·exact ih2 _ _ _ h
 | name _ ih=>
  intro r a r' h
  obtain ⟨b,r1,h1,h2⟩:=bind_ok.1 h
  obtain ⟨t,rfl,_⟩:=name_ok h1
  obtain ⟨c,rfl⟩:=ih _ _ _ _ h2
  exact ⟨t::c,rfl⟩
 | word _ _ ih=>
  intro r a r' h
  obtain ⟨b,r1,h1,h2⟩:=bind_ok.1 h
  obtain ⟨q,rfl,rfl,_⟩:=word_ok h1
  obtain ⟨c,rfl⟩:=ih _ _ _ _ _ h2
  exact ⟨b::c,rfl⟩
 | num _ _ _ ih1 ih2=>
  intro r a r' h
  unfold cNum at h
  split at h
  ·rename_i hn
   obtain ⟨c,h3⟩:=ih1 _ _ _ _ h
   cases r with
   | nil=>cases hn
   | cons t l=>exact ⟨t::c,by rw [List.tail_cons] at h3;rw [h3];rfl⟩
  ·exact ih2 _ _ _ h
def Wf (t:Tok):Prop:=t.kind≠3→delta t.text=0
end Uw.Tryz
namespace Uw.Tryz
open Go Uw
theorem Suf.len {a b:List Tok} {s:Nat} (h:Suf a b s):b.length+s≤a.length:=by
 obtain ⟨i,i1,rfl,i3⟩:=h
 simp;omega
theorem IsP.len {α:Type} {d:Int} {p q:List Tok→R α} (h:IsP d p q) {r r' : List Tok} {a:α} (e:p r = .ok a r'):r'.length≤r.length:=by
 obtain ⟨c,rfl⟩:=h.pre _ _ _ e
 simp
theorem eats_of {α:Type} {p:List Tok→R α} (h:∀r e r',p r = .ok e r'→∃s,1≤s∧Suf r r' s):Eats p:=by
 intro r e r' he
 obtain ⟨s,h1,h2⟩:=h r e r' he
 have:=h2.len
 omega
theorem eats_bind {α β:Type} {d:Int} {p:List Tok→R β} {f f' : β→List Tok→R α} (h:Eats p) (hf:∀b,IsP d (f b) (f' b)):Eats (cBind p f):=by
 intro r a r' he
 obtain ⟨b,r1,h1,h2⟩:=bind_ok.1 he
 have:=h _ _ _ h1
 have:=(hf b).len h2
 omega
theorem eats_name {α:Type} {d:Int} {f f' : Str→List Tok→R α} (hf:∀b,IsP d (f b) (f' b)):Eats (cName f):=by
 intro r a r' he
 obtain ⟨b,r1,h1,h2⟩:=bind_ok.1 he
 have:=(Suf.name h1).len
 have:=(hf b).len h2
 omega
theorem eats_expr (n:Nat):Eats (pExpr n):=eats_of fun r e r' h=>⟨_,e.sz_pos,(suf_e n).expr _ _ _ h⟩
theorem eats_call (n:Nat) (s:Str):Eats (pCall n s):=eats_of fun r e r' h=>⟨_,by omega,(suf_e n).call _ _ _ _ h⟩
theorem eats_child (n:Nat) (s:Str):Eats (pChild n s):=eats_of fun r e r' h=>⟨_,e.sz_pos,suf_child h⟩
structure PE (n:Nat):Prop where
 prim:IsP 0 (pPrim n) (pPrim (n+1))
 call:∀s,IsP 0 (pCall n s) (pCall (n+1) s)
 args:IsP 0 (pArgs n) (pArgs (n+1))
 argsT:IsP (-1) (pArgsT n) (pArgsT (n+1))
 prod:IsP 0 (pProd n) (pProd (n+1))
 prodT:∀l,IsP 0 (pProdT n l) (pProdT (n+1) l)
 sum:IsP 0 (pSum n) (pSum (n+1))
 sumT:∀l,IsP 0 (pSumT n l) (pSumT (n+1) l)
 expr:IsP 0 (pExpr n) (pExpr (n+1))
theorem isp_out {α:Type} {d:Int} {p q:List Tok→R α} (h:∀r,p r = .out):IsP d p q:=by
 have:p=fun _=>.out:=funext h
 rw [this];exact .out
theorem pe:∀n,PE n
 | 0=>⟨isp_out fun r=>by rw [pPrim],fun s=>isp_out fun r=>by rw [pCall],isp_out fun r=>by rw [pArgs],isp_out fun r=>by rw [pArgsT],isp_out fun r=>by rw [pProd],fun l=>isp_out fun r=>by rw [pProdT],isp_out fun r=>by rw [pSum],fun l=>isp_out fun r=>by rw [pSumT],isp_out fun r=>by rw [pExpr]⟩
 | n+1=>by
  have ih:=pe n
  have arT:∀e,IsP (-1) (cBind (pArgsT n) fun es=>cRet (Exs.cons e es)) (cBind (pArgsT (n+1)) fun es=>cRet (Exs.cons e es)):=fun e=>.bind ih.argsT (fun es=>.ret _) (by decide)
  refine ⟨?_,?_,?_,?_,?_,?_,?_,?_,?_⟩
  ·rw [pPrim_eq n,pPrim_eq (n+1)]
   have hq:∀s,IsP 0 (cPeek [46] (cBind (pCall n s) fun x=>cRet (Ex.call s x.1 x.2)) (cRet (.name s))) (cPeek [46] (cBind (pCall (n+1) s) fun x=>cRet (Ex.call s x.1 x.2)) (cRet (.name s))):=fun s=>
    .peek (by decide) (eats_bind (eats_call n s) fun x=>.ret _) (.bind (ih.call s) (fun x=>.ret _) (by decide)) (.ret _)
   exact .skip (d:=-1) (by decide) (.inl (by decide)) (.bind ih.expr (fun e=>.want (by decide) (.ret _) rfl) (by decide)) (.num (eats_name hq) (fun v=>.ret _) (.name hq)) (by decide)
  ·intro s
   rw [pCall_eq n,pCall_eq (n+1)]
   exact .want (by decide) (.name fun v=>.bind ih.args (fun ar=>.ret _) rfl) (by decide)
  ·rw [pArgs_eq n,pArgs_eq (n+1)]
   exact .want (d:=-1) (by decide) (.skip (by decide) (.inr (eats_bind (eats_expr n) arT)) (.ret _) (.bind ih.expr arT (by decide)) (by decide)) (by decide)
  ·rw [pArgsT_eq n,pArgsT_eq (n+1)]
   exact .skip (d:=-1) (by decide) (.inl (by decide)) (.bind ih.expr arT (by decide)) (.want (by decide) (.ret _) (by decide)) (by decide)
  ·rw [pProd_eq n,pProd_eq (n+1)]
   exact .bind ih.prim ih.prodT (by decide)
  ·intro l
   rw [pProdT_eq n,pProdT_eq (n+1)]
   exact .skip (d:=0) (by decide) (.inl (by decide)) (.bind ih.prim (fun e=>ih.prodT _) (by decide)) (.ret _) (by decide)
  ·rw [pSum_eq n,pSum_eq (n+1)]
   exact .bind ih.prod ih.sumT (by decide)
  ·intro l
   rw [pSumT_eq n,pSumT_eq (n+1)]
   exact .skip (d:=0) (by decide) (.inl (by decide)) (.bind ih.prod (fun e=>ih.sumT _) (by decide)) (.skip (d:=0) (by decide) (.inl (by decide)) (.bind ih.prod (fun e=>ih.sumT _) (by decide)) (.ret _) (by decide)) (by decide)
  ·rw [pExpr_eq n,pExpr_eq (n+1)]
   exact .bind ih.sum (fun l=>.skip (d:=0) (by decide) (.inl (by decide)) (.bind ih.sum (fun e=>.ret _) (by decide)) (.skip (d:=0) (by decide) (.inl (by decide)) (.bind ih.sum (fun e=>.ret _) (by decide)) (.ret _) (by decide)) (by decide)) (by decide)
theorem isp_child (n:Nat) (to:Str):IsP 0 (pChild n to) (pChild (n+1) to):=by
 rw [pChild_eq n,pChild_eq (n+1)]
 exact .bind (d:=0) (e:=0) (.skip (d:=0) (by decide) (.inl (by decide)) (.ret _) (.want (by decide) (.ret _) (by decide)) (by decide)) (fun par=>.name fun f=>.bind (e:=0) (pe n).args (fun ar=>by split<;>first|exact .bad|exact .ret _) (by decide)) (by decide)
theorem isp_simple (n:Nat):IsP 0 (pSimple n) (pSimple (n+1)):=by
 rw [pSimple_eq n,pSimple_eq (n+1)]
 exact .peek (by decide) (eats_child n []) (isp_child n []) (.peek (by decide) (eats_child n []) (isp_child n []) (.skip (d:=0) (by decide) (.inl (by decide)) (.ret _) (.skip (d:=0) (by decide) (.inl (by decide)) (.bind (pe n).expr (fun e=>.ret _) (by decide))
  (.skip (d:=0) (by decide) (.inl (by decide)) (.bind (pe n).expr (fun e=>.ret _) (by decide)) (.name fun s=>.peek (by decide) (eats_bind (eats_call n s) fun x=>.ret _) (.bind ((pe n).call s) (fun x=>.ret _) (by decide))
   (.want (d:=0) (by decide) (.peek (by decide) (eats_child n s) (isp_child n s) (.peek (by decide) (eats_child n s) (isp_child n s) (.bind (pe n).expr (fun e=>.ret _) (by decide)))) (by decide))) (by decide)) (by decide)) (by decide)))
structure PS (n:Nat):Prop where
 stmt:IsP 0 (pStmt n) (pStmt (n+1))
 block:IsP 0 (pBlock n) (pBlock (n+1))
 stmts:IsP (-1) (pStmts n) (pStmts (n+1))
theorem ps:∀n,PS n
 | 0=>⟨isp_out fun r=>by rw [pStmt],isp_out fun r=>by rw [pBlock],isp_out fun r=>by rw [pStmts]⟩
 | n+1=>by
  have ih:=ps n
  refine ⟨?_,?_,?_⟩
  ·rw [pStmt_eq n,pStmt_eq (n+1)]
   exact .skip (d:=0) (by decide) (.inl (by decide)) (.bind (pe n).expr (fun e=>.bind (d:=0) (e:=0) ih.block (fun a=>.skip (d:=0) (by decide) (.inl (by decide)) (.bind ih.block (fun b=>.ret _) (by decide)) (.ret _) (by decide)) rfl) (by decide))
    (.skip (d:=0) (by decide) (.inl (by decide)) (.bind (pe n).expr (fun e=>.bind ih.block (fun a=>.ret _) rfl) (by decide)) (.bind (isp_simple n) (fun s=>.want (by decide) (.ret _) rfl) (by decide)) (by decide)) (by decide)
  ·rw [pBlock_eq n,pBlock_eq (n+1)]
   exact .want (by decide) ih.stmts (by decide)
  ·rw [pStmts_eq n,pStmts_eq (n+1)]
   exact .skip (d:=0) (by decide) (.inl (by decide)) (.ret _) (.bind ih.stmt (fun s=>.bind ih.stmts (fun ss=>.ret _) rfl) (by decide)) (by decide)
theorem isp_namesT:∀n,IsP (-1) (pNamesT n) (pNamesT (n+1))
 | 0=>isp_out fun r=>by rw [pNamesT]
 | n+1=>by
  rw [pNamesT_eq n,pNamesT_eq (n+1)]
  exact .skip (d:=-1) (by decide) (.inl (by decide)) (.name fun s=>.bind (isp_namesT n) (fun l=>.ret _) (by decide)) (.want (by decide) (.ret _) (by decide)) (by decide)
theorem isp_names (n:Nat):IsP 0 (pNames n) (pNames (n+1)):=by
 rw [pNames_eq n,pNames_eq (n+1)]
 have hq:∀s,IsP (-1) (cBind (pNamesT n) fun l=>cRet (s::l)) (cBind (pNamesT (n+1)) fun l=>cRet (s::l)):=fun s=>.bind (isp_namesT n) (fun l=>.ret _) (by decide)
 exact .want (d:=-1) (by decide) (.skip (d:=0) (by decide) (.inr (eats_name hq)) (.ret _) (.name hq) (by decide)) (by decide)
theorem isp_fun (n:Nat):IsP 0 (pFun n) (pFun (n+1)):=by
 rw [pFun_eq n,pFun_eq (n+1)]
 exact .want (d:=0) (by decide) (.name fun s=>.bind (e:=0) (isp_names n) (fun l=>.bind (ps n).block (fun b=>.ret _) (by decide)) (by decide)) (by decide)
theorem isp_decl:IsP 0 pDecl pDecl:=by
 rw [pDecl_eq]
 refine .word (by decide) fun t _=>?_
 rw [cKind]
 split
 ·exact .bad
 ·refine .name fun s=>?_
  split
  ·exact .skip (d:=0) (by decide) (.inl (by decide)) (.word (by decide) fun _ n=>.want (by decide) (.ret _) (by decide)) (.want (by decide) (.ret _) (by decide)) (by decide)
  ·exact .want (by decide) (.ret _) (by decide)
theorem no_bind {α β:Type} {x:R β} {f:β→List Tok→R α} (h:x≠.out) (hf:∀b r,x = .ok b r→f b r≠.out):x.bind f≠.out:=by
 cases x with
 | ok a r=>exact hf a r rfl
 | bad=>exact fun h=>nomatch h
 | out=>exact absurd rfl h
theorem ok_no {α:Type} {a:α} {r:List Tok}:R.ok a r≠.out:=fun h=>nomatch h
theorem want_no {s:Str} {r:List Tok}:want s r≠.out:=by rw [want];split<;>exact fun h=>nomatch h
theorem name_no {r:List Tok}:pName r≠.out:=by
 rw [pName]
 refine no_bind ?_ fun t r _=>?_
 ·rw [pWord.eq_def];split
  ·exact fun h=>nomatch h
  ·split<;>exact fun h=>nomatch h
 ·split<;>exact fun h=>nomatch h
structure NE (n:Nat):Prop where
 prim:∀r,6 * r.length+1≤n→pPrim n r≠.out
 call:∀s r,6 * r.length+1≤n→pCall n s r≠.out
 args:∀r,6 * r.length+1≤n→pArgs n r≠.out
 argsT:∀r,6 * r.length+1≤n→pArgsT n r≠.out
 prod:∀r,6 * r.length+2≤n→pProd n r≠.out
 prodT:∀l r,6 * r.length+1≤n→pProdT n l r≠.out
 sum:∀r,6 * r.length+3≤n→pSum n r≠.out
 sumT:∀l r,6 * r.length+1≤n→pSumT n l r≠.out
 expr:∀r,6 * r.length+4≤n→pExpr n r≠.out
theorem ne:∀n,NE n
 | 0=>⟨fun _ h=>by omega,fun _ _ h=>by omega,fun _ h=>by omega,fun _ h=>by omega,fun _ h=>by omega,fun _ _ h=>by omega,fun _ h=>by omega,fun _ _ h=>by omega,fun _ h=>by omega⟩
 | n+1=>by
  have ih:=ne n
  have se:=suf_e n
  refine ⟨?_,?_,?_,?_,?_,?_,?_,?_,?_⟩
  ·intro r hr
   rw [pPrim]
   split
   ·rename_i hh
    have:=(Suf.hd hh (by simp)).len
    exact no_bind (ih.expr _ (by omega)) fun e r1 h1=>no_bind want_no fun _ _ _=>ok_no
   ·split
    ·exact ok_no
    ·refine no_bind name_no fun s r1 h1=>?_
     have:=(Suf.name h1).len
     split
     ·exact no_bind (ih.call _ _ (by omega)) fun _ _ _=>ok_no
     ·exact ok_no
  ·intro s r hr
   rw [pCall]
   refine no_bind want_no fun _ r1 h1=>no_bind name_no fun v r2 h2=>no_bind (ih.args _ ?_) fun _ _ _=>ok_no
   have:=(Suf.want (by simp) h1).len
   have:=(Suf.name h2).len
   omega
  ·intro r hr
   rw [pArgs]
   refine no_bind want_no fun _ r1 h1=>?_
   have:=(Suf.want (by simp) h1).len
   split
   ·exact ok_no
   ·refine no_bind (ih.expr _ (by omega)) fun e r2 h2=>no_bind (ih.argsT _ ?_) fun _ _ _=>ok_no
    have:=(se.expr _ _ _ h2).len
    omega
  ·intro r hr
   rw [pArgsT]
   split
   ·rename_i hh
    have:=(Suf.hd hh (by simp)).len
    refine no_bind (ih.expr _ (by omega)) fun e r2 h2=>no_bind (ih.argsT _ ?_) fun _ _ _=>ok_no
    have:=(se.expr _ _ _ h2).len
    omega
   ·exact no_bind want_no fun _ _ _=>ok_no
  ·intro r hr
   rw [pProd]
   refine no_bind (ih.prim _ (by omega)) fun e r2 h2=>ih.prodT _ _ ?_
   have:=(se.prim _ _ _ h2).len
   omega
  ·intro l r hr
   rw [pProdT]
   split
   ·rename_i hh
    have:=(Suf.hd hh (by simp)).len
    refine no_bind (ih.prim _ (by omega)) fun e r2 h2=>ih.prodT _ _ ?_
    have:=(se.prim _ _ _ h2).len
    omega
   ·exact ok_no
  ·intro r hr
   rw [pSum]
   refine no_bind (ih.prod _ (by omega)) fun e r2 h2=>ih.sumT _ _ ?_
   have:=(se.prod _ _ _ h2).len
   omega
  ·intro l r hr
   rw [pSumT]
   split
   ·rename_i hh
    have:=(Suf.hd hh (by simp)).len
    refine no_bind (ih.prod _ (by omega)) fun e r2 h2=>ih.sumT _ _ ?_
    have:=(se.prod _ _ _ h2).len
    omega
   ·split
    ·rename_i hh
     have:=(Suf.hd hh (by simp)).len
     refine no_bind (ih.prod _ (by omega)) fun e r2 h2=>ih.sumT _ _ ?_
     have:=(se.prod _ _ _ h2).len
     omega
    ·exact ok_no
  ·intro r hr
   rw [pExpr]
   refine no_bind (ih.sum _ (by omega)) fun e r2 h2=>?_
   have:=(se.sum _ _ _ h2).len
   split
   ·rename_i hh
    have:=(Suf.hd hh (by simp)).len
    exact no_bind (ih.sum _ (by omega)) fun _ _ _=>ok_no
   ·split
    ·rename_i hh
     have:=(Suf.hd hh (by simp)).len
     exact no_bind (ih.sum _ (by omega)) fun _ _ _=>ok_no
    ·exact ok_no
theorem no_child (n:Nat) (to:Str) (r:List Tok) (hr:6 * r.length+1≤n):pChild n to r≠.out:=by
 rw [pChild]
 have key:∀(x:R Bool),x≠.out→(∀b r1,x = .ok b r1→r1.length≤r.length)→x.bind (fun par r=>(pName r).bind fun f r=>(pArgs n r).bind fun ar r=>if par=true∧ar.length≠2 then R.bad else R.ok (Stm.task par to f ar) r)≠.out:=by
  intro x hx hl
  refine no_bind hx fun b r1 h1=>no_bind name_no fun f r2 h2=>no_bind ((ne n).args _ ?_) fun ar r3 _=>?_
  ·have:=hl _ _ h1
   have:=(Suf.name h2).len
   omega
  ·split<;>exact fun h=>nomatch h
 refine key _ ?_ ?_
 ·split
  ·exact ok_no
  ·exact no_bind want_no fun _ _ _=>ok_no
 ·intro b r1 h
  split at h
  ·injection h with _ h
   rw [← h];simp
  ·obtain ⟨_,r2,h2,h3⟩:=bind_ok.1 h
   injection h3 with _ h3
   subst h3
   have:=(Suf.want (by decide) h2).len
   omega
theorem no_simple (n:Nat) (r:List Tok) (hr:6 * r.length+4≤n):pSimple n r≠.out:=by
 rw [pSimple]
 have ih:=ne n
 split
 ·exact no_child n _ _ (by omega)
 ·split
  ·exact ok_no
  ·split
   ·exact no_bind (ih.expr _ (by simp;omega)) fun _ _ _=>ok_no
   ·split
    ·exact no_bind (ih.expr _ (by simp;omega)) fun _ _ _=>ok_no
    ·refine no_bind name_no fun s r1 h1=>?_
     have:=(Suf.name h1).len
     split
     ·exact no_bind (ih.call _ _ (by omega)) fun _ _ _=>ok_no
     ·refine no_bind want_no fun _ r2 h2=>?_
      have:=(Suf.want (by decide) h2).len
      split
      ·exact no_child n _ _ (by omega)
      ·exact no_bind (ih.expr _ (by omega)) fun _ _ _=>ok_no
structure NS (n:Nat):Prop where
 stmt:∀r,6 * r.length+5≤n→pStmt n r≠.out
 block:∀r,6 * r.length+5≤n→pBlock n r≠.out
 stmts:∀r,6 * r.length+6≤n→pStmts n r≠.out
theorem ns_:∀n,NS n
 | 0=>⟨fun _ h=>by omega,fun _ h=>by omega,fun _ h=>by omega⟩
 | n+1=>by
  have ih:=ns_ n
  have se:=suf_e n
  have ss:=suf_s n
  refine ⟨?_,?_,?_⟩
  ·intro r hr
   rw [pStmt]
   split
   ·rename_i hh
    have:=(Suf.hd hh (by decide)).len
    refine no_bind ((ne n).expr _ (by omega)) fun e r1 h1=>?_
    have:=(se.expr _ _ _ h1).len
    refine no_bind (ih.block _ (by omega)) fun a r2 h2=>?_
    have:=(ss.block _ _ _ h2).len
    split
    ·exact no_bind (ih.block _ (by simp;omega)) fun _ _ _=>ok_no
    ·exact ok_no
   ·split
    ·rename_i hh
     have:=(Suf.hd hh (by decide)).len
     refine no_bind ((ne n).expr _ (by omega)) fun e r1 h1=>?_
     have:=(se.expr _ _ _ h1).len
     exact no_bind (ih.block _ (by omega)) fun a r2 h2=>ok_no
    ·exact no_bind (no_simple n _ (by omega)) fun _ _ _=>no_bind want_no fun _ _ _=>ok_no
  ·intro r hr
   rw [pBlock]
   refine no_bind want_no fun _ r1 h1=>ih.stmts _ ?_
   have:=(Suf.want (by decide) h1).len
   omega
  ·intro r hr
   rw [pStmts]
   split
   ·exact ok_no
   ·refine no_bind (ih.stmt _ (by omega)) fun s r1 h1=>?_
    have:=(ss.stmt _ _ _ h1).len
    have:=s.sz_pos
    exact no_bind (ih.stmts _ (by omega)) fun _ _ _=>ok_no
theorem no_namesT:∀n r,r.length+1≤n→pNamesT n r≠.out
 | 0,_,h=>by omega
 | n+1,r,hr=>by
  rw [pNamesT]
  split
  ·rename_i hh
   have:=(Suf.hd hh (by simp)).len
   refine no_bind name_no fun s r1 h1=>no_bind (no_namesT n _ ?_) fun _ _ _=>ok_no
   have:=(Suf.name h1).len
   omega
  ·exact no_bind want_no fun _ _ _=>ok_no
theorem no_names (n:Nat) (r:List Tok) (hr:r.length+1≤n):pNames n r≠.out:=by
 rw [pNames]
 refine no_bind want_no fun _ r1 h1=>?_
 have:=(Suf.want (by decide) h1).len
 split
 ·exact ok_no
 ·refine no_bind name_no fun s r2 h2=>no_bind (no_namesT n _ ?_) fun _ _ _=>ok_no
  have:=(Suf.name h2).len
  omega
theorem no_fun (n:Nat) (r:List Tok) (hr:6 * r.length+5≤n):pFun n r≠.out:=by
 rw [pFun]
 refine no_bind want_no fun _ r1 h1=>no_bind name_no fun s r2 h2=>?_
 have:=(Suf.want (by decide) h1).len
 have:=(Suf.name h2).len
 refine no_bind (no_names n _ (by omega)) fun l r3 h3=>no_bind ((ns_ n).block _ ?_) fun _ _ _=>ok_no
 have:=(isp_names n).len h3
 omega
theorem no_decl (r:List Tok):pDecl r≠.out:=by
 rw [pDecl_eq]
 have hw:∀k r,pWord k r≠.out:=by
  intro k r
  rw [pWord.eq_def];split
  ·exact fun h=>nomatch h
  ·split<;>exact fun h=>nomatch h
 refine no_bind (hw _ _) fun t r _=>?_
 show cKind t.text r≠_
 unfold cKind
 cases kindOf t.text with
 | none=>exact fun h=>nomatch h
 | some k=>
  refine no_bind name_no fun s r _=>?_
  have hz:∀(d:Dec) r,cWant [59] (cRet d) r≠.out:=fun d r=>no_bind want_no fun _ _ _=>ok_no
  by_cases hk:k=0
  ·rw [if_pos hk]
   show (if hd r=[61] then _ else _)≠R.out
   split
   ·exact no_bind (hw _ _) fun t r _=>hz _ _
   ·exact hz _ _
  ·rw [if_neg hk]
   exact hz _ _
end Uw.Tryz
namespace Uw.Tryz
open Go Uw
theorem up {α:Type} {d:Int} {p:Nat→List Tok→R α} (h:∀n,IsP d (p n) (p (n+1))) {n:Nat} {r:List Tok} (hn:p n r≠.out) (k:Nat):p (n+k) r=p n r:=by
 induction k with
 | zero=>rfl
 | succ k ih=>
  rcases (h (n+k)).le r with e|e
  ·rw [ih] at e;exact absurd e hn
  ·rw [← Nat.add_assoc,← e,ih]
theorem up' {α:Type} {d:Int} {p:Nat→List Tok→R α} (h:∀n,IsP d (p n) (p (n+1))) {n m:Nat} {r:List Tok} {a:α} {r' : List Tok} (hn:p n r = .ok a r') (hm:n≤m):p m r = .ok a r':=by
 obtain ⟨k,rfl⟩:=Nat.le.dest hm
 rw [up h (by rw [hn];exact ok_no),hn]
def Reads {α:Type} (p:Nat→List Tok→R α) (r:List Tok) (a:α) (r' : List Tok):Prop:=∃n,p n r = .ok a r'
theorem Reads.at {α:Type} {d:Int} {p:Nat→List Tok→R α} (h:∀n,IsP d (p n) (p (n+1))) {r:List Tok} {a:α} {r1:List Tok} (h1:Reads p r a r1) {n:Nat} (hn:p n r≠.out):p n r = .ok a r1:=by
 obtain ⟨m,h1⟩:=h1
 have e1:=up' h h1 (Nat.le_max_right n m)
 obtain ⟨k,hk⟩:=Nat.le.dest (Nat.le_max_left n m)
 rw [← hk,up h hn] at e1
 exact e1
theorem ok_bind {α β:Type} (a:β) (r:List Tok) (f:β→List Tok→R α):(R.ok a r).bind f=f a r:=rfl
inductive Decs:List Tok→List Dec→List Tok→Prop
 | stop {r:List Tok}:r=[]∨hd r=sFunc→Decs r [] r
 | cons {r r' r'' : List Tok} {d:Dec} {ds:List Dec}:¬(r=[]∨hd r=sFunc)→pDecl r = .ok d r'→Decs r' ds r''→Decs r (d::ds) r''
inductive Funs:List Tok→List Fn→Prop
 | nil:Funs [] []
 | cons {r r' : List Tok} {f:Fn} {fs:List Fn}:Reads pFun r f r'→Funs r' fs→Funs r (f::fs)
def Prg (l:List Tok) (ds:List Dec) (fs:List Fn):Prop:=∃r,Decs l ds r∧Funs r fs
def fuelP (l:List Tok):Nat:=6 * l.length+6
def progF (l:List Tok):Option (List Dec×List Fn):=match pProg (fuelP l) l with | .ok x _=>some x | .bad=>none | .out=>none
theorem eats_decl:Eats pDecl:=by
 intro r e r' h
 rw [pDecl_eq] at h
 obtain ⟨t,r1,h1,h2⟩:=bind_ok.1 h
 obtain ⟨q,rfl,rfl,_⟩:=word_ok h1
 have:IsP 0 (cKind t.text) (cKind t.text):=by
  rw [cKind]
  split
  ·exact .bad
  ·refine .name fun s=>?_
   split
   ·exact .skip (d:=0) (by decide) (.inl (by decide)) (.word (by decide) fun _ n=>.want (by decide) (.ret _) (by decide)) (.want (by decide) (.ret _) (by decide)) (by decide)
   ·exact .want (by decide) (.ret _) (by decide)
 have:=this.len h2
 simp;omega
theorem eats_fun (n:Nat):Eats (pFun n):=by
 intro r e r' h
 rw [pFun] at h
 obtain ⟨_,r1,h1,h⟩:=bind_ok.1 h
 obtain ⟨s,r2,h2,h⟩:=bind_ok.1 h
 obtain ⟨l,r3,h3,h⟩:=bind_ok.1 h
 obtain ⟨b,r4,h4,h⟩:=bind_ok.1 h
 injection h with _ h
 have:=(Suf.want (by decide) h1).len
 have:=(Suf.name h2).len
 have:=(isp_names n).len h3
 have:=(ps n).block.len h4
 rw [← h];omega
theorem Decs.len {r r' : List Tok} {ds:List Dec} (h:Decs r ds r'):r'.length+ds.length≤r.length:=by
 induction h with
 | stop _=>simp
 | cons _ h1 _ ih=>
  have:=eats_decl _ _ _ h1
  simp;omega
theorem Decs.at {r r' : List Tok} {ds:List Dec} (h:Decs r ds r'):∀n,r.length+1≤n→pDecls n r = .ok ds r':=by
 induction h with
 | stop h=>
  intro n hn
  cases n with
  | zero=>omega
  | succ n=>rw [pDecls,if_pos h]
 | cons h h1 h2 ih=>
  intro n hn
  cases n with
  | zero=>omega
  | succ n=>
   have:=eats_decl _ _ _ h1
   rw [pDecls,if_neg h,h1,ok_bind,ih n (by omega)];rfl
theorem Funs.at {r:List Tok} {fs:List Fn} (h:Funs r fs):∀n,6 * r.length+6≤n→pFuns n r = .ok fs []:=by
 induction h with
 | nil=>
  intro n hn
  cases n with
  | zero=>omega
  | succ n=>rw [pFuns,if_pos rfl]
 | cons h h2 ih=>
  rename_i r r' f fs
  intro n hn
  cases n with
  | zero=>omega
  | succ n=>
   have h1:=h.at isp_fun (no_fun n r (by omega))
   have:=eats_fun _ _ _ _ h1
   rw [pFuns,if_neg (by rintro rfl;simp at this),h1,ok_bind,ih n (by omega)];rfl
theorem Prg.at {l:List Tok} {ds:List Dec} {fs:List Fn} (h:Prg l ds fs):progF l=some (ds,fs):=by
 obtain ⟨r,h1,h2⟩:=h
 have:=h1.len
 rw [progF,pProg,h1.at _ (by rw [fuelP];omega),ok_bind,h2.at _ (by rw [fuelP];omega)];rfl
theorem decls_of:∀(n:Nat) {r r' : List Tok} {ds:List Dec},pDecls n r = .ok ds r'→Decs r ds r'
 | 0,_,_,_,h=>by rw [pDecls] at h;cases h
 | n+1,r,r',ds,h=>by
  rw [pDecls] at h
  split at h
  ·rename_i hh
   injection h with h1 h2
   subst h1 h2
   exact .stop hh
  ·rename_i hh
   obtain ⟨d,r1,h1,h⟩:=bind_ok.1 h
   obtain ⟨l,r2,h2,h⟩:=bind_ok.1 h
   injection h with h3 h4
   subst h3 h4
   exact .cons hh h1 (decls_of n h2)
theorem funs_of:∀(n:Nat) {r r' : List Tok} {fs:List Fn},pFuns n r = .ok fs r'→Funs r fs∧r' = []
 | 0,_,_,_,h=>by rw [pFuns] at h;cases h
 | n+1,r,r',fs,h=>by
  rw [pFuns] at h
  split at h
  ·rename_i hh
   injection h with h1 h2
   subst h1 h2 hh
   exact ⟨.nil,rfl⟩
  ·rename_i hh
   obtain ⟨d,r1,h1,h⟩:=bind_ok.1 h
   obtain ⟨l,r2,h2,h⟩:=bind_ok.1 h
   injection h with h3 h4
   subst h3 h4
   obtain ⟨h5,h6⟩:=funs_of n h2
   exact ⟨.cons ⟨n,h1⟩ h5,h6⟩
theorem prog_of {n:Nat} {l r' : List Tok} {ds:List Dec} {fs:List Fn} (h:pProg n l = .ok (ds,fs) r'):Prg l ds fs:=by
 rw [pProg] at h
 obtain ⟨d,r1,h1,h⟩:=bind_ok.1 h
 obtain ⟨f,r2,h2,h⟩:=bind_ok.1 h
 injection h with h3 h4
 injection h3 with h3 h5
 subst h3 h5
 exact ⟨r1,decls_of _ h1,(funs_of _ h2).1⟩
theorem progF_iff {l:List Tok} {ds:List Dec} {fs:List Fn}:progF l=some (ds,fs)↔Prg l ds fs:=by
 refine ⟨fun h=>?_,Prg.at⟩
 rw [progF] at h
 split at h
 ·rename_i x r e
  injection h with h
  subst h
  exact prog_of e
 ·cases h
 ·cases h
theorem no_decls:∀n r,r.length+1≤n→pDecls n r≠.out
 | 0,_,h=>by omega
 | n+1,r,hn=>by
  rw [pDecls]
  split
  ·exact ok_no
  ·refine no_bind (no_decl r) fun d r1 h1=>no_bind (no_decls n _ ?_) fun _ _ _=>ok_no
   have:=eats_decl _ _ _ h1
   omega
theorem no_funs:∀n r,6 * r.length+6≤n→pFuns n r≠.out
 | 0,_,h=>by omega
 | n+1,r,hn=>by
  rw [pFuns]
  split
  ·exact ok_no
  ·refine no_bind (no_fun n r (by omega)) fun d r1 h1=>no_bind (no_funs n _ ?_) fun _ _ _=>ok_no
   have:=eats_fun _ _ _ _ h1
   omega
theorem no_prog (l:List Tok):pProg (fuelP l) l≠.out:=by
 rw [pProg]
 refine no_bind (no_decls _ _ (by rw [fuelP];omega)) fun d r h1=>no_bind (no_funs _ _ ?_) fun _ _ _=>ok_no
 have:=(decls_of _ h1).len
 rw [fuelP];omega
end Uw.Tryz
namespace Uw.Tryz
open Go Uw
structure Nd where
 kind:Int
 n:Int
 name:Str
 name2:Str
 of:List Int
 deriving DecidableEq,Inhabited
structure Fu where
 name:Str
 args:List Str
 body:Int
 deriving DecidableEq,Inhabited
structure Pg where
 decls:List Dec
 funs:List Fu
 nodes:List Nd
 deriving DecidableEq,Inhabited
def intsD (l:List Int):Dat:=.slice 1 (l.map fun i=>[I i]) false
def strsC (l:List Str):Dat:=.slice 1 (l.map fun s=>[.str s]) false
def decL (d:Dec):List Dat:=[I d.kind,.str d.name,I d.n]
def fuL (f:Fu):List Dat:=[.str f.name,strsC f.args,I f.body]
def ndL (x:Nd):List Dat:=[I x.kind,I x.n,.str x.name,.str x.name2,intsD x.of]
def pgD (p:Pg):Dat:=.agg [.slice 3 (p.decls.map decL) false,.slice 3 (p.funs.map fuL) false,.slice 5 (p.nodes.map ndL) false]
def Nod.nd (x:Nod):Nd:=⟨x.kind,x.n,x.name,x.name2,x.of.map fun (i:Nat)=>(i:Int)⟩
def Fn.sz (f:Fn):Nat:=f.body.sz+1
def nodesF:List Fn→Nat→List Nod
 | [],_=>[]
 | f::fs,b=>f.body.all b++nodesF fs (b+f.sz)
def funsF:List Fn→Nat→List Fu
 | [],_=>[]
 | f::fs,b=>⟨f.name,f.args,((b+f.body.sz:Nat):Int)⟩::funsF fs (b+f.sz)
def sizeF:List Fn→Nat
 | []=>0
 | f::fs=>f.sz+sizeF fs
theorem nodesF_len:∀(fs:List Fn) (b:Nat),(nodesF fs b).length=sizeF fs
 | [],_=>rfl
 | f::fs,b=>by simp [nodesF,sizeF,Bl.all_len,nodesF_len fs,Fn.sz]
theorem nodesF_app:∀(a c:List Fn) (b:Nat),nodesF (a++c) b=nodesF a b++nodesF c (b+sizeF a)
 | [],c,b=>by simp [nodesF,sizeF]
 | f::fs,c,b=>by simp [nodesF,sizeF,nodesF_app fs,Nat.add_assoc]
theorem sizeF_app:∀(a c:List Fn),sizeF (a++c)=sizeF a+sizeF c
 | [],c=>by simp [sizeF]
 | f::fs,c=>by simp [sizeF,sizeF_app fs,Nat.add_assoc]
def pgOf (x:List Dec×List Fn):Pg:=⟨x.1,funsF x.2 0,(nodesF x.2 0).map Nod.nd⟩
def noPg:Pg:=⟨[],[],[]⟩
def deepT:List Tok→Int→Int→Int
 | [],_,m=>m
 | t::r,d,m=>deepT r (d+delta t.text) (max m (d+delta t.text))
def ofR (s:Str):Pg×Int:=
 if (wordsR s).2≠0 then (noPg,(wordsR s).2)
 else if 40<deepT (wordsR s).1 0 0 then (noPg,2)
 else match progF (wordsR s).1 with
  | none=>(noPg,3)
  | some x=>(pgOf x,0)
theorem range_two (b x y:Nat):List.range' b (x+y)=List.range' b x++List.range' (b+x) y:=by
 rw [List.range'_append_1]
def ofs (l:List Nod):List Nat:=l.flatMap (·.of)
theorem ofs_app (a b:List Nod):ofs (a++b)=ofs a++ofs b:=by simp [ofs]
theorem ofs_one (x:Nod):ofs [x]=x.of:=by simp [ofs]
theorem range_one (b:Nat):List.range' b 1=[b]:=rfl
theorem pc {a b:List Nat} (h:a.Perm b) (i:Nat):a.count i=b.count i:=h.count_eq i
mutual
theorem Ex.perm:∀(e:Ex) (b:Nat),(ofs (e.flat b)++[b+e.sz - 1]).Perm (List.range' b e.sz)
 | .num _,b=>by simp [Ex.flat,Ex.sz,ofs]
 | .name _,b=>by simp [Ex.flat,Ex.sz,ofs]
 | .bin k x y,b=>by
  have h1:=fun i=>pc (x.perm b) i
  have h2:=fun i=>pc (y.perm (b+x.sz)) i
  refine List.perm_iff_count.2 fun i=>?_
  have h1:=h1 i
  have h2:=h2 i
  rw [Ex.flat,Ex.sz,range_two,range_two,ofs_app,ofs_app,ofs_one,range_one,show b+(x.sz+y.sz+1) - 1=b+(x.sz+y.sz) by omega]
  simp only [List.count_append,List.count_cons,List.count_nil] at *
  omega
 | .call o v ar,b=>by
  have h1:=fun i=>pc (ar.perm b) i
  refine List.perm_iff_count.2 fun i=>?_
  have h1:=h1 i
  rw [Ex.flat,Ex.sz,range_two,ofs_app,ofs_one,range_one,show b+(ar.sz+1) - 1=b+ar.sz by omega]
  simp only [List.count_append,List.count_cons,List.count_nil] at *
  omega
theorem Exs.perm:∀(e:Exs) (b:Nat),(ofs (e.flat b)++e.places b).Perm (List.range' b e.sz)
 | .nil,b=>by simp [Exs.flat,Exs.sz,ofs,Exs.places]
 | .cons e r,b=>by
  have h1:=fun i=>pc (e.perm b) i
  have h2:=fun i=>pc (r.perm (b+e.sz)) i
  refine List.perm_iff_count.2 fun i=>?_
  have h1:=h1 i
  have h2:=h2 i
  rw [Exs.flat,Exs.sz,Exs.places,range_two,ofs_app]
  simp only [List.count_append,List.count_cons,List.count_nil] at *
  omega
end
theorem Bl.all_perm (x:Bl) (b:Nat) (h:(ofs (x.flat b)++x.places b).Perm (List.range' b x.sz)):(ofs (x.all b)++[b+x.sz]).Perm (List.range' b (x.sz+1)):=by
 rw [Bl.all,ofs_app,ofs_one,range_two,range_one]
 exact h.append_right _
mutual
theorem Stm.perm:∀(e:Stm) (b:Nat),(ofs (e.flat b)++[b+e.sz - 1]).Perm (List.range' b e.sz)
 | .set s e,b=>by
  refine List.perm_iff_count.2 fun i=>?_
  have h1:=pc (e.perm b) i
  rw [Stm.flat,Stm.sz,range_two,ofs_app,ofs_one,range_one,show b+(e.sz+1) - 1=b+e.sz by omega]
  simp only [List.count_append,List.count_cons,List.count_nil] at *
  omega
 | .task par to f ar,b=>by
  refine List.perm_iff_count.2 fun i=>?_
  have h1:=pc (ar.perm b) i
  rw [Stm.flat,Stm.sz,range_two,ofs_app,ofs_one,range_one,show b+(ar.sz+1) - 1=b+ar.sz by omega]
  simp only [List.count_append,List.count_cons,List.count_nil] at *
  omega
 | .sync,b=>by simp [Stm.flat,Stm.sz,ofs]
 | .if1 e x,b=>by
  refine List.perm_iff_count.2 fun i=>?_
  have h1:=pc (e.perm b) i
  have h2:=pc (x.all_perm (b+e.sz) (x.perm _)) i
  rw [show Stm.flat (.if1 e x) b=e.flat b++x.all (b+e.sz)++[⟨13,0,[],[],[b+e.sz - 1,b+e.sz+(x.sz+1) - 1]⟩] from rfl,Stm.sz,range_two,range_two,ofs_app,ofs_app,ofs_one,range_one,show b+(e.sz+(x.sz+1)+1) - 1=b+(e.sz+(x.sz+1)) by omega,show b+e.sz+(x.sz+1) - 1=b+e.sz+x.sz by omega]
  simp only [List.count_append,List.count_cons,List.count_nil] at *
  omega
 | .if2 e x y,b=>by
  refine List.perm_iff_count.2 fun i=>?_
  have h1:=pc (e.perm b) i
  have h2:=pc (x.all_perm (b+e.sz) (x.perm _)) i
  have h3:=pc (y.all_perm (b+e.sz+(x.sz+1)) (y.perm _)) i
  rw [show Stm.flat (.if2 e x y) b=e.flat b++x.all (b+e.sz)++y.all (b+e.sz+(x.sz+1))++[⟨13,0,[],[],[b+e.sz - 1,b+e.sz+(x.sz+1) - 1,b+e.sz+(x.sz+1)+(y.sz+1) - 1]⟩] from rfl,Stm.sz,range_two,range_two,range_two,ofs_app,ofs_app,ofs_app,ofs_one,range_one,show b+(e.sz+(x.sz+1)+(y.sz+1)+1) - 1=b+(e.sz+(x.sz+1)+(y.sz+1)) by omega,show b+e.sz+(x.sz+1) - 1=b+e.sz+x.sz by omega,show b+e.sz+(x.sz+1)+(y.sz+1) - 1=b+e.sz+(x.sz+1)+y.sz by omega,show b+(e.sz+(x.sz+1))=b+e.sz+(x.sz+1) by omega]
  simp only [List.count_append,List.count_cons,List.count_nil] at *
  omega
 | .loop e x,b=>by
  refine List.perm_iff_count.2 fun i=>?_
  have h1:=pc (e.perm b) i
  have h2:=pc (x.all_perm (b+e.sz) (x.perm _)) i
  rw [show Stm.flat (.loop e x) b=e.flat b++x.all (b+e.sz)++[⟨14,0,[],[],[b+e.sz - 1,b+e.sz+(x.sz+1) - 1]⟩] from rfl,Stm.sz,range_two,range_two,ofs_app,ofs_app,ofs_one,range_one,show b+(e.sz+(x.sz+1)+1) - 1=b+(e.sz+(x.sz+1)) by omega,show b+e.sz+(x.sz+1) - 1=b+e.sz+x.sz by omega]
  simp only [List.count_append,List.count_cons,List.count_nil] at *
  omega
 | .one k e,b=>by
  refine List.perm_iff_count.2 fun i=>?_
  have h1:=pc (e.perm b) i
  rw [Stm.flat,Stm.sz,range_two,ofs_app,ofs_one,range_one,show b+(e.sz+1) - 1=b+e.sz by omega]
  simp only [List.count_append,List.count_cons,List.count_nil] at *
  omega
 | .act o v ar,b=>by
  refine List.perm_iff_count.2 fun i=>?_
  have h1:=pc (ar.perm b) i
  rw [Stm.flat,Stm.sz,range_two,range_two,ofs_app,ofs_app,ofs_one,ofs_one,range_one,range_one,show b+ar.sz+1 - 1=b+ar.sz by omega,show b+(ar.sz+1+1) - 1=b+(ar.sz+1) by omega]
  simp only [List.count_append,List.count_cons,List.count_nil] at *
  omega
theorem Bl.perm:∀(e:Bl) (b:Nat),(ofs (e.flat b)++e.places b).Perm (List.range' b e.sz)
 | .nil,b=>by simp [Bl.flat,Bl.sz,ofs,Bl.places]
 | .cons e r,b=>by
  refine List.perm_iff_count.2 fun i=>?_
  have h1:=pc (e.perm b) i
  have h2:=pc (r.perm (b+e.sz)) i
  rw [Bl.flat,Bl.sz,Bl.places,range_two,ofs_app]
  simp only [List.count_append,List.count_cons,List.count_nil] at *
  omega
end
def bodies:List Fn→Nat→List Nat
 | [],_=>[]
 | f::fs,b=>(b+f.body.sz)::bodies fs (b+f.sz)
theorem nodesF_perm:∀(fs:List Fn) (b:Nat),(ofs (nodesF fs b)++bodies fs b).Perm (List.range' b (sizeF fs))
 | [],b=>by simp [nodesF,sizeF,ofs,bodies]
 | f::fs,b=>by
  refine List.perm_iff_count.2 fun i=>?_
  have h1:=pc (f.body.all_perm b (f.body.perm b)) i
  have h2:=pc (nodesF_perm fs (b+f.sz)) i
  rw [nodesF,sizeF,bodies,range_two,ofs_app]
  rw [← Fn.sz] at h1
  simp only [List.count_append,List.count_cons,List.count_nil] at *
  omega
def Low (b:Nat):List Nod→Prop
 | []=>True
 | x::r=>(∀c∈x.of,c<b)∧Low (b+1) r
theorem Low.app:∀{x y:List Nod} {b:Nat},Low b x→Low (b+x.length) y→Low b (x++y)
 | [],y,b,_,h=>h
 | a::x,y,b,⟨h1,h2⟩,h=>⟨h1,h2.app (by rw [List.length_cons] at h;rwa [show b+1+x.length=b+(x.length+1) by omega])⟩
theorem Low.at:∀{x:List Nod} {b:Nat},Low b x→∀(j:Nat) (h:j<x.length),∀c∈x[j].of,c<b+j
 | [],_,_,j,h=>by simp at h
 | a::x,b,⟨h1,h2⟩,0,_=>h1
 | a::x,b,⟨h1,h2⟩,j+1,h=>by
  intro c hc
  have:=h2.at j (by simpa using h) c hc
  omega
theorem Low.one {b:Nat} {x:Nod} (h:∀c∈x.of,c<b):Low b [x]:=⟨h,trivial⟩
theorem Exs.places_lt:∀(e:Exs) (b:Nat),∀c∈e.places b,c<b+e.sz
 | .nil,_,c,h=>by simp [Exs.places] at h
 | .cons e r,b,c,h=>by
  rw [Exs.places] at h
  have:=e.sz_pos
  rcases List.mem_cons.1 h with rfl|h
  ·rw [Exs.sz];omega
  ·have:=r.places_lt _ c h
   rw [Exs.sz];omega
theorem Bl.places_lt:∀(e:Bl) (b:Nat),∀c∈e.places b,c<b+e.sz
 | .nil,_,c,h=>by simp [Bl.places] at h
 | .cons e r,b,c,h=>by
  rw [Bl.places] at h
  have:=e.sz_pos
  rcases List.mem_cons.1 h with rfl|h
  ·rw [Bl.sz];omega
  ·have:=r.places_lt _ c h
   rw [Bl.sz];omega
mutual
theorem Ex.low:∀(e:Ex) (b:Nat),Low b (e.flat b)
 | .num _,b=>⟨by simp,trivial⟩
 | .name _,b=>⟨by simp,trivial⟩
 | .bin k x y,b=>by
  have:=x.sz_pos;have:=y.sz_pos
  exact ((x.low b).app (by rw [Ex.flat_len];exact y.low _)).app (Low.one (by simp [Ex.flat_len];omega))
 | .call o v ar,b=>(ar.low b).app (Low.one (by rw [Exs.flat_len];exact ar.places_lt b))
theorem Exs.low:∀(e:Exs) (b:Nat),Low b (e.flat b)
 | .nil,b=>trivial
 | .cons e r,b=>(e.low b).app (by rw [Ex.flat_len];exact r.low _)
end
theorem Bl.all_low {x:Bl} {b:Nat} (h:Low b (x.flat b)):Low b (x.all b):=h.app (Low.one (by rw [Bl.flat_len];exact x.places_lt b))
mutual
theorem Stm.low:∀(e:Stm) (b:Nat),Low b (e.flat b)
 | .set s e,b=>(e.low b).app (Low.one (by have:=e.sz_pos;simp [Ex.flat_len];omega))
 | .task par to f ar,b=>(ar.low b).app (Low.one (by rw [Exs.flat_len];exact ar.places_lt b))
 | .sync,b=>⟨by simp,trivial⟩
 | .if1 e x,b=>by
  have:=e.sz_pos
  exact ((e.low b).app (by rw [Ex.flat_len];exact Bl.all_low (x.low _))).app (Low.one (by simp [Ex.flat_len,Bl.flat_len];omega))
 | .if2 e x y,b=>by
  have:=e.sz_pos
  exact (((e.low b).app (by rw [Ex.flat_len];exact Bl.all_low (x.low _))).app (by
   rw [List.length_append,Ex.flat_len,show (x.flat (b+e.sz)++[(⟨18,0,[],[],x.places (b+e.sz)⟩:Nod)]).length=x.sz+1 from x.all_len _,← Nat.add_assoc];exact Bl.all_low (y.low _))).app (Low.one (by simp [Ex.flat_len,Bl.flat_len];omega))
 | .loop e x,b=>by
  have:=e.sz_pos
  exact ((e.low b).app (by rw [Ex.flat_len];exact Bl.all_low (x.low _))).app (Low.one (by simp [Ex.flat_len,Bl.flat_len];omega))
 | .one k e,b=>(e.low b).app (Low.one (by have:=e.sz_pos;simp [Ex.flat_len];omega))
 | .act o v ar,b=>((ar.low b).app (Low.one (by rw [Exs.flat_len];exact ar.places_lt b))).app (Low.one (by simp [Exs.flat_len]))
theorem Bl.low:∀(e:Bl) (b:Nat),Low b (e.flat b)
 | .nil,b=>trivial
 | .cons e r,b=>(e.low b).app (by rw [Stm.flat_len];exact r.low _)
end
theorem nodesF_low:∀(fs:List Fn) (b:Nat),Low b (nodesF fs b)
 | [],b=>trivial
 | f::fs,b=>(Bl.all_low (f.body.low b)).app (by rw [Bl.all_len];exact nodesF_low fs _)
end Uw.Tryz
namespace Uw.Tryz
open Go Uw
def sortI (k:Int):Int:=if 1≤k∧k≤8 then 1 else if 9≤k∧k≤17 then 2 else if k=18 then 3 else 0
def kindAt (ns:List Nd) (i:Int):Int:=(ns.getD i.toNat default).kind
def sortsOf (ns:List Nd) (x:Nd):List Int:=x.of.map fun k=>sortI (kindAt ns k)
def shapedS (k n:Int) (so:List Int) (k0:Int):Bool:=
 if k=1 then decide (so=[])&&decide (0≤n)&&decide (n<4294967296)
 else if k=2∨k=12 then decide (so=[])
 else if k=3∨k=4∨k=5∨k=6∨k=7∨k=11 then decide (so=[1,1])
 else if k=8∨k=10 then so.all fun s=>decide (s=1)
 else if k=9∨k=15∨k=16 then decide (so=[1])
 else if k=17 then decide (so=[1])&&decide (k0=8)
 else if k=13 then decide (so=[1,3])||decide (so=[1,3,3])
 else if k=14 then decide (so=[1,3])
 else if k=18 then so.all fun s=>decide (s=2)
 else false
def shapedF (ns:List Nd) (x:Nd):Bool:=shapedS x.kind x.n (sortsOf ns x) (kindAt ns (x.of.headD 0))
def nodeOK (ns:List Nd) (i:Nat) (x:Nd):Bool:=(x.of.all fun k=>decide (0≤k)&&decide (k<i))&&shapedF ns x
def nodesOK (ns:List Nd):Nat→List Nd→Bool
 | _,[]=>true
 | i,x::r=>nodeOK ns i x&&nodesOK ns (i+1) r
def bodyOK (ns:List Nd) (f:Fu):Bool:=decide (0≤f.body)&&decide (f.body<ns.length)&&decide (kindAt ns f.body=18)
def usesL (p:Pg):List Int:=(p.nodes.flatMap (·.of))++p.funs.map (·.body)
def formedP (p:Pg):Bool:=nodesOK p.nodes 0 p.nodes&&p.funs.all (bodyOK p.nodes)&&(List.range p.nodes.length).all fun k=>decide ((usesL p).count (k:Int)=1)
def thingP (p:Pg) (s:Str):Option Int:=(p.decls.find? fun d=>decide (d.name=s)).map (·.kind)
def funP (p:Pg) (s:Str):Option Nat:=p.funs.findIdx? fun f=>decide (f.name=s)
def own0:List Fu→Nat→List Int→List Int
 | [],_,o=>o
 | f::fs,i,o=>own0 fs (i+1) (o.set f.body.toNat i)
def ownKids (o:List Int) (i:Nat) (x:Nd):List Int:=x.of.foldl (fun o k=>o.set k.toNat (o.getD i 0)) o
def ownDown:List (Nat×Nd)→List Int→List Int
 | [],o=>o
 | (i,x)::r,o=>ownDown r (ownKids o i x)
def idx {α:Type}:Nat→List α→List (Nat×α)
 | _,[]=>[]
 | i,x::r=>(i,x)::idx (i+1) r
def ownersP (p:Pg):List Int:=ownDown (idx 0 p.nodes).reverse (own0 p.funs 0 (List.replicate p.nodes.length 0))
def localN (p:Pg) (x:Nd):Bool:=(decide (x.kind=9)||decide (x.kind=10)||decide (x.kind=11))&&!decide (x.name=[])&&(thingP p x.name).isNone
def addLocal (ls:List (List Str)) (f:Nat) (s:Str):List (List Str):=if s∈ls.getD f [] then ls else ls.set f (ls.getD f []++[s])
def localsGo (p:Pg):List (Nd×Int)→List (List Str)→List (List Str)
 | [],ls=>ls
 | (x,o)::r,ls=>localsGo p r (if localN p x then addLocal ls o.toNat x.name else ls)
def localsP (p:Pg):List (List Str):=localsGo p (p.nodes.zip (ownersP p)) (p.funs.map (·.args))
def localsOf (p:Pg) (f:Int):List Str:=if f<0∨(p.funs.length:Int)≤f∨formedP p=false then [] else (localsP p).getD f.toNat []
def sGet:Str:=[103,101,116]
def sDel:Str:=[100,101,108]
def sPut:Str:=[112,117,116]
def sPush:Str:=[112,117,115,104]
def sPop:Str:=[112,111,112]
def sSend:Str:=[115,101,110,100]
def sRecv:Str:=[114,101,99,118]
def sMain:Str:=[109,97,105,110]
def needsP (k:Int) (s:Str):Option Int:=
 if k=1 then (if s=sGet∨s=sDel then some 1 else if s=sPut then some 2 else none)
 else if k=2 then (if s=sPush then some 1 else if s=sPop then some 0 else none)
 else if k=3 then (if s=sSend then some 1 else if s=sRecv then some 0 else none)
 else none
def boundP (p:Pg):Bool:=
 decide (16<p.funs.length)||decide (16<(p.decls.countP fun d=>decide (d.kind=0)))||decide (8<(p.decls.countP fun d=>decide (d.kind=1)))||decide (8<(p.decls.countP fun d=>decide (d.kind=2)))||decide (8<(p.decls.countP fun d=>decide (d.kind=3)))
 ||((localsP p).any fun l=>decide (16<l.length))||(p.nodes.any fun x=>decide (x.kind=10)&&decide (16<x.of.length))
def dupA (p:Pg):List Str→List Str→Bool
 | _,[]=>false
 | seen,a::r=>(thingP p a).isSome||decide (a∈seen)||dupA p (a::seen) r
def twiceP (p:Pg):Bool:=!decide ((p.decls.map (·.name)).Nodup)||!decide ((p.funs.map (·.name)).Nodup)||(p.funs.any fun f=>dupA p [] f.args)
def nameN (p:Pg) (x:Nd) (o:Int):Bool:=
 if x.kind=10∨x.kind=11 then (funP p x.name2).isNone
 else if x.kind=8 then (thingP p x.name).isNone
 else if x.kind=2 then (thingP p x.name).isNone&&!decide (x.name∈(localsP p).getD o.toNat [])
 else false
def nameP (p:Pg):Bool:=(funP p sMain).isNone||((p.nodes.zip (ownersP p)).any fun y=>nameN p y.1 y.2)||(p.decls.any fun d=>decide (d.kind<0)||decide (3<d.kind))
def sortN (p:Pg) (x:Nd):Bool:=
 if x.kind=2∨x.kind=9 then (match thingP p x.name with|some k=>!decide (k=0)|none=>false)
 else if x.kind=10∨x.kind=11 then (thingP p x.name).isSome
 else if x.kind=8 then (needsP ((thingP p x.name).getD 0) x.name2).isNone
 else false
def sortP (p:Pg):Bool:=p.nodes.any (sortN p)
def argsAt (p:Pg) (s:Str):Nat:=(p.funs.getD ((funP p s).getD 0) default).args.length
def manyN (p:Pg) (x:Nd):Bool:=
 if x.kind=10 then !decide (x.of.length=argsAt p x.name2)
 else if x.kind=11 then !decide (argsAt p x.name2=1)
 else if x.kind=8 then !decide ((x.of.length:Int)=(needsP ((thingP p x.name).getD 0) x.name2).getD 0)
 else false
def manyP (p:Pg):Bool:=decide (0<argsAt p sMain)||p.nodes.any (manyN p)
def whyP (p:Pg):Int:=if formedP p=false then 1 else if boundP p then 2 else if twiceP p then 5 else if nameP p then 4 else if sortP p then 6 else if manyP p then 7 else 0
end Uw.Tryz
