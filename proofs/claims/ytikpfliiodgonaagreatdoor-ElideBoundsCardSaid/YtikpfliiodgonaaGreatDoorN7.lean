/- N7: Oq2 Oq3 Or Os Ot Ou Ow Ox Ab Ac Ad Ae Af Ah Oy Oz Ai Aj Ak Al Am An Ao (merged by merge2.py from the working texts). -/
import Derived.Test.YtikpfliiodgonaaGreatDoorN6
import Derived.Test.YtikpfliiodgonaaGreatDoorN3
set_option maxRecDepth 100000
set_option maxHeartbeats 2000000
set_option linter.unusedSimpArgs false
set_option linter.unnecessarySimpa false
set_option linter.unusedVariables false
set_option linter.unusedSectionVars false
namespace Uw.Tryz.Vm
open Go Uw Uw.Tryz
theorem kp {c:Cd} {b:Bd} {f:Frame} {i:In4} (P:Option (Frame×Ask)->Prop) (h1:i.op=1->P (jX f i)) (h2:i.op=2->P (fO f i)) (h3:i.op=3->P (sb f i)) (h4:i.op=4->P (o8 c f i)) (h5:i.op=5->P (g8 c f i))
  (h6:i.op=6->P (aX (fun x y=>cm (x+y)) f)) (h7:i.op=7->P (aX (fun x y=>cm (x - y)) f)) (h8:i.op=8->P (aX (fun x y=>cm (x * y)) f)) (h9:i.op=9->P (aX (fun x y=>truth (decide (x<y))) f)) (h10:i.op=10->P (aX (fun x y=>truth (decide (x=y))) f))
  (h11:i.op=11->P (fQ c f i)) (h12:i.op=12->P (o9 f)) (h13:i.op=13->P (cQ c f i)) (h14:i.op=14->P (jv f)) (h15:i.op=15->P (pa b f i)) (h16:i.op=16->P (kb b f i)) (h17:i.op=17->P (uG f)) (h18:i.op=18->P (dC f)) (h19:i.op=19->P (aX (fun x y=>(x+y) / 2) f)) (h0:(i.op<1\/19<i.op)->P none):P (stepS c b f i):=by
 unfold stepS;by_cases e:i.op=1
 ·rw [if_pos e];exact h1 e
 rw [if_neg e];by_cases e:i.op=2
 ·rw [if_pos e];exact h2 e
 rw [if_neg e];by_cases e:i.op=3
 ·rw [if_pos e];exact h3 e
 rw [if_neg e];by_cases e:i.op=4
 ·rw [if_pos e];exact h4 e
 rw [if_neg e];by_cases e:i.op=5
 ·rw [if_pos e];exact h5 e
 rw [if_neg e];by_cases e:i.op=6
 ·rw [if_pos e];exact h6 e
 rw [if_neg e];by_cases e:i.op=7
 ·rw [if_pos e];exact h7 e
 rw [if_neg e];by_cases e:i.op=8
 ·rw [if_pos e];exact h8 e
 rw [if_neg e];by_cases e:i.op=9
 ·rw [if_pos e];exact h9 e
 rw [if_neg e];by_cases e:i.op=10
 ·rw [if_pos e];exact h10 e
 rw [if_neg e];by_cases e:i.op=11
 ·rw [if_pos e];exact h11 e
 rw [if_neg e];by_cases e:i.op=12
 ·rw [if_pos e];exact h12 e
 rw [if_neg e];by_cases e:i.op=13
 ·rw [if_pos e];exact h13 e
 rw [if_neg e];by_cases e:i.op=14
 ·rw [if_pos e];exact h14 e
 rw [if_neg e];by_cases e:i.op=15
 ·rw [if_pos e];exact h15 e
 rw [if_neg e];by_cases e:i.op=16
 ·rw [if_pos e];exact h16 e
 rw [if_neg e];by_cases e:i.op=17
 ·rw [if_pos e];exact h17 e
 rw [if_neg e];by_cases e:i.op=18
 ·rw [if_pos e];exact h18 e
 rw [if_neg e];by_cases e:i.op=19
 ·rw [if_pos e];exact h19 e
 rw [if_neg e];exact h0 (by omega)
structure Sm (b:Bd) (f g:Frame) (a:Ask):Prop where
 task:g.task=f.task
 path:g.path=f.path
 fn:g.fn=f.fn
 kids:g.kids=f.kids
 many:g.many=f.many
 loc:g.loc.length=f.loc.length
 stack:g.stack.length<=100
 pc0:0<=g.pc
 pc1:g.pc<=b.ins.length
 spent:(a.kind=5/\g=f/\f.kids≠[])\/(a.kind≠5/\g.spent=f.spent+1)
 Y9:a.kind=4->dest a.b f.loc.length=true
 args:a.kind≠4->a.args=[]
 kind:0<=a.kind/\a.kind<=6
 Za:a.kind=0->a=aJ
theorem yl {f:Frame} {l:Int} (h:awaited f l=true):f.kids≠[]:=by
 intro e;simp [awaited,e] at h
theorem rl {c:Cd} {b:Bd} {f g:Frame} {i:In4} {a:Ask} (h0:0<=f.pc) (h1:f.pc<b.ins.length) (hd:f.stack.length<=100) (hs:stepS c b f i=some (g,a)):Sm b f g a:=by
 have dl:f.stack.dropLast.length<=f.stack.length:=by simp
 have fin:∀{op},aX op f=some (g,a)->Sm b f g a:=by
  intro op hs;simp only [aX] at hs
  split at hs
  ·simp at hs;obtain ⟨rfl,rfl⟩:=hs
   refine ⟨rfl,rfl,rfl,rfl,rfl,rfl,?_,?_,?_,.inr ⟨by simp [aJ],rfl⟩,by simp [aJ],by simp [aJ],by simp [aJ],by simp⟩
   ·simp [next,pass,nU,ei];omega
   ·simp [next,pass,nU,ei];omega
   ·simp [next,pass,nU,ei];omega
  ·simp at hs
 revert hs
 refine kp (fun o=>o=some (g,a)->Sm b f g a) ?_ ?_ ?_ ?_ ?_ (fun _=>fin) (fun _=>fin) (fun _=>fin) (fun _=>fin) (fun _=>fin) ?_ ?_ ?_ ?_ ?_ ?_ ?_ ?_ (fun _=>fin) ?_
 all_goals intro ho hs
 ·simp only [jX] at hs;split at hs
  ·simp at hs;obtain ⟨rfl,rfl⟩:=hs
   refine ⟨rfl,rfl,rfl,rfl,rfl,rfl,?_,?_,?_,.inr ⟨by simp [aJ],rfl⟩,by simp [aJ],by simp [aJ],by simp [aJ],by simp⟩<;>simp [next,pass,nU]<;>omega
  ·simp at hs
 ·simp only [fO] at hs;split at hs
  ·split at hs
   ·rename_i hw;simp at hs;obtain ⟨rfl,rfl⟩:=hs
    exact ⟨rfl,rfl,rfl,rfl,rfl,rfl,hd,h0,by omega,.inl ⟨by simp,rfl,yl hw⟩,by simp,by simp [aJ],by simp,by simp⟩
   ·split at hs
    ·simp at hs;obtain ⟨rfl,rfl⟩:=hs
     refine ⟨rfl,rfl,rfl,rfl,rfl,rfl,?_,?_,?_,.inr ⟨by simp [aJ],rfl⟩,by simp [aJ],by simp [aJ],by simp [aJ],by simp⟩<;>simp [next,pass,nU]<;>omega
    ·simp at hs
  ·simp at hs
 ·simp only [sb] at hs;split at hs
  ·split at hs
   ·rename_i hw;simp at hs;obtain ⟨rfl,rfl⟩:=hs
    exact ⟨rfl,rfl,rfl,rfl,rfl,rfl,hd,h0,by omega,.inl ⟨by simp,rfl,yl hw⟩,by simp,by simp [aJ],by simp,by simp⟩
   ·split at hs
    ·simp at hs
    ·simp at hs;obtain ⟨rfl,rfl⟩:=hs
     refine ⟨rfl,rfl,rfl,rfl,rfl,by simp [next,pass,Jx,ei],?_,?_,?_,.inr ⟨by simp [aJ],rfl⟩,by simp [aJ],by simp [aJ],by simp [aJ],by simp⟩<;>simp [next,pass,Jx,ei]<;>omega
  ·simp at hs
 ·simp only [o8] at hs;split at hs
  ·simp at hs;obtain ⟨rfl,rfl⟩:=hs
   refine ⟨rfl,rfl,rfl,rfl,rfl,rfl,?_,?_,?_,.inr ⟨by simp,rfl⟩,by simp,by simp [aJ],by simp,by simp⟩<;>simp [next,pass]<;>omega
  ·simp at hs
 ·simp only [g8] at hs;split at hs
  ·simp at hs;obtain ⟨rfl,rfl⟩:=hs
   refine ⟨rfl,rfl,rfl,rfl,rfl,rfl,?_,?_,?_,.inr ⟨by simp,rfl⟩,by simp,by simp [aJ],by simp,by simp⟩<;>simp [next,pass,ei]<;>omega
  ·simp at hs
 ·simp only [fQ] at hs;split at hs
  ·simp at hs;obtain ⟨rfl,rfl⟩:=hs
   refine ⟨rfl,rfl,rfl,rfl,rfl,rfl,?_,?_,?_,.inr ⟨by simp,rfl⟩,by simp,by simp [aJ],by simp,by simp⟩<;>simp [next,pass,jO]<;>omega
  ·simp at hs
 ·simp only [o9] at hs;split at hs
  ·simp at hs;obtain ⟨rfl,rfl⟩:=hs
   refine ⟨rfl,rfl,rfl,rfl,rfl,rfl,?_,?_,?_,.inr ⟨by simp [aJ],rfl⟩,by simp [aJ],by simp [aJ],by simp [aJ],by simp⟩<;>simp [next,pass,ei]<;>omega
  ·simp at hs
 ·simp only [cQ] at hs;split at hs
  ·rename_i hw;simp at hs;obtain ⟨rfl,rfl⟩:=hs
   refine ⟨rfl,rfl,rfl,rfl,rfl,rfl,?_,?_,?_,.inr ⟨by simp,rfl⟩,fun _=>hw.2.1,by simp,by simp,by simp⟩<;>simp [next,pass,jO]<;>omega
  ·simp at hs
 ·simp only [jv] at hs;split at hs
  ·simp at hs;obtain ⟨rfl,rfl⟩:=hs
   refine ⟨rfl,rfl,rfl,rfl,rfl,rfl,?_,?_,?_,.inr ⟨by simp [aJ],rfl⟩,by simp [aJ],by simp [aJ],by simp [aJ],by simp⟩<;>simp [next,pass]<;>omega
  ·rename_i hw;simp at hs;obtain ⟨rfl,rfl⟩:=hs
   exact ⟨rfl,rfl,rfl,rfl,rfl,rfl,hd,h0,by omega,.inl ⟨by simp,rfl,hw⟩,by simp,by simp [aJ],by simp,by simp⟩
 ·simp only [pa] at hs;split at hs
  ·rename_i hw;simp [below] at hw;simp at hs;obtain ⟨rfl,rfl⟩:=hs
   refine ⟨rfl,rfl,rfl,rfl,rfl,rfl,?_,?_,?_,.inr ⟨by simp [aJ],rfl⟩,by simp [aJ],by simp [aJ],by simp [aJ],by simp⟩<;>simp [pass]<;>omega
  ·simp at hs
 ·simp only [kb] at hs;split at hs
  ·rename_i hw;simp [below] at hw;split at hs
   ·simp at hs;obtain ⟨rfl,rfl⟩:=hs
    refine ⟨rfl,rfl,rfl,rfl,rfl,rfl,?_,?_,?_,.inr ⟨by simp [aJ],rfl⟩,by simp [aJ],by simp [aJ],by simp [aJ],by simp⟩<;>simp [pass,ei]<;>omega
   ·simp at hs;obtain ⟨rfl,rfl⟩:=hs
    refine ⟨rfl,rfl,rfl,rfl,rfl,rfl,?_,?_,?_,.inr ⟨by simp [aJ],rfl⟩,by simp [aJ],by simp [aJ],by simp [aJ],by simp⟩<;>simp [next,pass,ei]<;>omega
  ·simp at hs
 ·simp only [uG] at hs;split at hs
  ·split at hs
   ·simp at hs
   ·simp at hs;obtain ⟨rfl,rfl⟩:=hs
    refine ⟨rfl,rfl,rfl,rfl,rfl,rfl,?_,?_,?_,.inr ⟨by simp,rfl⟩,by simp,by simp [aJ],by simp,by simp⟩<;>simp [next,pass,ei]<;>omega
  ·rename_i hw;simp at hs;obtain ⟨rfl,rfl⟩:=hs
   exact ⟨rfl,rfl,rfl,rfl,rfl,rfl,hd,h0,by omega,.inl ⟨by simp,rfl,hw⟩,by simp,by simp [aJ],by simp,by simp⟩
 ·simp only [dC] at hs;split at hs
  ·simp at hs;obtain ⟨rfl,rfl⟩:=hs
   refine ⟨rfl,rfl,rfl,rfl,rfl,rfl,?_,?_,?_,.inr ⟨by simp [aJ],rfl⟩,by simp [aJ],by simp [aJ],by simp [aJ],by simp⟩<;>simp [next,pass,ei]<;>omega
  ·simp at hs
 ·simp at hs
inductive Out where
 | err (e:Int)
 | ok (f:Frame) (a:Ask)
def cw (b:Bd) (f:Frame):In4:=b.ins.getD f.pc.toNat ⟨0,0,0,0⟩
def runN (c:Cd) (b:Bd):Nat->Frame->Out
 | 0,_=>.err 11
 | n+1,f=>
  if f.spent=2000 then .err 11
  else if below f.pc b.ins.length=false then .err 1
  else match stepS c b f (cw b f) with
   | none=>.err 1
   | some (g,a)=>if a.kind=0 then runN c b n g else .ok g a
def cy (f:Frame):Nat:=(2001 - f.spent).toNat
def cz (c:Cd) (f:Frame):Out:=if right c f then runN c (dp c f) (cy f) f else .err 1
def Np (a:Ask):Dat:=if a.kind=4 then ae a.args else .nil
def Sr (a:Ask):Dat:=.agg [I a.kind,I a.a,I a.b,I a.op.1,I a.op.2.1,I a.op.2.2.1,I a.op.2.2.2,Np a]
def Z9 (f0:Frame):Out->Dat
 | .err e=>.tuple [bW f0,Sr aJ,I e]
 | .ok f a=>.tuple [bW f,Sr a,I 0]
end Uw.Tryz.Vm
namespace Uw
open Go Go.RowKit
variable [Glob]
theorem bO.same {P:Program} {f:FuncId} {vs:List V} {h h' : Heap} {nx:Nat} {Q:Res->Heap->Nat->Prop} (hl:∀i,look h' i=look h i) (hs:bO P f vs h nx Q):bO P f vs h' nx Q:=by
 refine ⟨hs.1,fun c w0 F gvs e1 e2 e3 e4 e5=>?_⟩;have hk:∀i,look h i=look c.heap i:=by rw [e1];exact fun i=>(hl i).symm
 have hI:∀b o,Imm c b o->Imm { c with heap:=h } b o:=by
  rintro b o (hi|⟨i1,i2,i3⟩)
  ·exact .inl hi
  ·exact .inr ⟨i1,i2,fun id blk hb=>i3 id blk (by rw [<- hk];exact hb)⟩
 have evo:Evo c { c with heap:=h }:=⟨fun b o hi=>⟨hI b o hi,rfl⟩,fun id b hb=>⟨b,by rw [hk];exact hb,cI.refl _ _⟩⟩
 have hh:cF { c with heap:=h } w0 nx:=by
  refine ⟨e2.below,e2.other,e2.jU,?_,?_,?_,?_⟩
  ·intro id b hb
   exact cv.evo evo rfl (fun _=>rfl) (e2.blk id b (by rw [<- hk];exact hb))
  ·intro id b hb;exact e2.lt id b (by rw [<- hk];exact hb)
  ·intro id b hb;exact e2.ge id b (by rw [<- hk];exact hb)
  ·intro id id' b b' hb hb';exact e2.inj id id' b b' (by rw [<- hk];exact hb) (by rw [<- hk];exact hb')
 exact hs.2 { c with heap:=h } w0 F gvs rfl hh e3 (F.ok c _ (evo.toK _) e4) (aC.evo evo _ _ e5)
theorem bO.dup {P:Program} {f:FuncId} {vs:List V} {k:Nat} {a z:Blk} {h:Heap} {nx:Nat} {Q:Res->Heap->Nat->Prop} (hs:bO P f vs ((k,a)::h) nx Q):bO P f vs ((k,a)::(k,z)::h) nx Q:=
 bO.same (fun i=>by simp only [look];cases Nat.beq k i<;>rfl) hs
end Uw
namespace Uw.Tryz.Vm
open Go Uw Uw.Tryz
theorem cq {c:Cd} {b:Bd} {f g:Frame} {i:In4} {a:Ask} (hs:stepS c b f i=some (g,a)) (h:i.op≠13):a.kind≠4:=by
 have fin:∀{op},aX op f=some (g,a)->a.kind≠4:=by
  intro op hs;simp only [aX] at hs
  split at hs
  ·simp at hs;obtain ⟨rfl,rfl⟩:=hs;simp [aJ]
  ·simp at hs
 revert hs
 refine kp (fun o=>o=some (g,a)->a.kind≠4) ?_ ?_ ?_ ?_ ?_ (fun _=>fin) (fun _=>fin) (fun _=>fin) (fun _=>fin) (fun _=>fin) ?_ ?_ (fun e=>absurd e h) ?_ ?_ ?_ ?_ ?_ (fun _=>fin) ?_
 all_goals intro ho hs
 ·simp only [jX] at hs;split at hs
  ·simp at hs;obtain ⟨rfl,rfl⟩:=hs;simp [aJ]
  ·simp at hs
 ·simp only [fO] at hs;repeat' split at hs
  ·simp at hs;obtain ⟨rfl,rfl⟩:=hs;simp
  ·simp at hs;obtain ⟨rfl,rfl⟩:=hs;simp [aJ]
  ·simp at hs
  ·simp at hs
 ·simp only [sb] at hs;repeat' split at hs
  ·simp at hs;obtain ⟨rfl,rfl⟩:=hs;simp
  ·simp at hs
  ·simp at hs;obtain ⟨rfl,rfl⟩:=hs;simp [aJ]
  ·simp at hs
 ·simp only [o8] at hs;split at hs
  ·simp at hs;obtain ⟨rfl,rfl⟩:=hs;simp
  ·simp at hs
 ·simp only [g8] at hs;split at hs
  ·simp at hs;obtain ⟨rfl,rfl⟩:=hs;simp
  ·simp at hs
 ·simp only [fQ] at hs;split at hs
  ·simp at hs;obtain ⟨rfl,rfl⟩:=hs;simp
  ·simp at hs
 ·simp only [o9] at hs;split at hs
  ·simp at hs;obtain ⟨rfl,rfl⟩:=hs;simp [aJ]
  ·simp at hs
 ·simp only [jv] at hs;split at hs
  ·simp at hs;obtain ⟨rfl,rfl⟩:=hs;simp [aJ]
  ·simp at hs;obtain ⟨rfl,rfl⟩:=hs;simp
 ·simp only [pa] at hs;split at hs
  ·simp at hs;obtain ⟨rfl,rfl⟩:=hs;simp [aJ]
  ·simp at hs
 ·simp only [kb] at hs;repeat' split at hs
  ·simp at hs;obtain ⟨rfl,rfl⟩:=hs;simp [aJ]
  ·simp at hs;obtain ⟨rfl,rfl⟩:=hs;simp [aJ]
  ·simp at hs
 ·simp only [uG] at hs;repeat' split at hs
  ·simp at hs
  ·simp at hs;obtain ⟨rfl,rfl⟩:=hs;simp
  ·simp at hs;obtain ⟨rfl,rfl⟩:=hs;simp
 ·simp only [dC] at hs;split at hs
  ·simp at hs;obtain ⟨rfl,rfl⟩:=hs;simp [aJ]
  ·simp at hs
 ·simp at hs
theorem Jz {c:Cd} {b:Bd} {f g:Frame} {i:In4} {a:Ask} (hs:cQ c f i=some (g,a)):a.kind=4:=by
 simp only [cQ] at hs;split at hs
 ·simp at hs;obtain ⟨rfl,rfl⟩:=hs;rfl
 ·simp at hs
end Uw.Tryz.Vm
namespace Uw.Tryz.Vm
open Go Uw Uw.Tryz
inductive LS where
 | at (x:LX) (a:Ask)
 | spawned (x:LX) (a:Ask)
def JA:jd:=[(2,.ptr 0 0),(3,.ptr 1 0),(4,.ptr 2 0),(5,.ptr 3 0),(6,.ptr 4 0),(7,.ptr 5 0),(8,.ptr 17 0)]
def kq:List V:=[.func 52 [] [.ptr 1 0,.ptr 2 0,.ptr 3 0,.ptr 4 0]]
def bH (c:Cd) (b:Bd) (f0:Frame):LS->St
 | .at x a=>⟨JA,bU c b f0 x (AV a),18,kq,0⟩
 | .spawned x a=>⟨JA,(18,.mt 1 0 (rows a.args))::bU c b f0 x (Po a (.ref 18 0 0 a.args.length)),19,kq,0⟩
def cM (c:Cd) (b:Bd) (f0:Frame) (o:Out):LS->Prop
 | .at x a=>Mid c b x/\dW x.f/\((a=aJ/\runN c b (cy x.f) x.f=o)\/(a.kind≠0/\a.kind≠4/\o = .ok x.f a))
 | .spawned x a=>Mid c b x/\dW x.f/\a.kind=4/\o = .ok x.f a
def dq:LS->Nat
 | .at x a=>if a.kind=0 then cy x.f+1 else 0
 | .spawned _ _=>0
theorem calm (h:Heap) (nx:Nat):uh P0 iW [.ptr 1 0,.ptr 2 0,.ptr 3 0,.ptr 4 0] h nx none (fun h' nx'=>h' = h/\nx' = nx):=by
 refine jq mS rfl ?_;refine aS rfl ?_;exact aj ⟨.inl rfl,rfl,rfl,rfl⟩
theorem Ss (c:Cd) (b:Bd) (f0:Frame) (x:LX) (ask:List V) (i:In4) (z:List V) (nx:Nat) (e:Int):uh P0 iW [.ptr 1 0,.ptr 2 0,.ptr 3 0,.ptr 4 0] (bU c b f0 x ask) nx (some (.iface 28 (I e)))
  (fun h' nx'=>h' = (4,.var [.d (I e)])::(4,.var [.d (I 1)])::(3,.var aM)::(2,.var (V.b9 (bW f0)).cells)::bU c b f0 x ask/\nx' = nx):=by
 refine jq mS rfl ?_;refine ah rfl ?_;refine ah rfl ?_;exact aj ⟨.inl rfl,rfl,rfl,rfl⟩
theorem fC (c:Cd) (b:Bd) (f0:Frame) (x:LX) (ask:List V) (i:In4) (z:List V) (nx:Nat) (e:Int):uh P0 iW [.ptr 1 0,.ptr 2 0,.ptr 3 0,.ptr 4 0] (LH c b f0 x ask i) nx (some (.iface 28 (I e)))
  (fun h' nx'=>h' = (4,.var [.d (I e)])::(4,.var [.d (I 1)])::(3,.var aM)::(2,.var (V.b9 (bW f0)).cells)::LH c b f0 x ask i/\nx' = nx):=by
 refine jq mS rfl ?_;refine ah rfl ?_;refine ah rfl ?_;exact aj ⟨.inl rfl,rfl,rfl,rfl⟩
theorem Sv (c:Cd) (b:Bd) (f0:Frame) (x:LX) (ask:List V) (i:In4) (z:List V) (nx:Nat) (e:Int):uh P0 iW [.ptr 1 0,.ptr 2 0,.ptr 3 0,.ptr 4 0] ((18,.var (eR i))::(18,.var z)::bU c b f0 x ask) nx (some (.iface 28 (I e)))
  (fun h' nx'=>h' = (4,.var [.d (I e)])::(4,.var [.d (I 1)])::(3,.var aM)::(2,.var (V.b9 (bW f0)).cells)::(18,.var (eR i))::(18,.var z)::bU c b f0 x ask/\nx' = nx):=by
 refine jq mS rfl ?_;refine ah rfl ?_;refine ah rfl ?_;exact aj ⟨.inl rfl,rfl,rfl,rfl⟩
theorem Sz {n:Int} (h0:1<=n) (h1:n<20):n=1\/n=2\/n=3\/n=4\/n=5\/n=6\/n=7\/n=8\/n=9\/n=10\/n=11\/n=12\/n=13\/n=14\/n=15\/n=16\/n=17\/n=18\/n=19:=by omega
theorem cG {c:Cd} {b:Bd} {f:Frame} {o:Out} (hr:runN c b (cy f) f=o) (h0:f.spent<2000) (hp:below f.pc b.ins.length=true):o=match stepS c b f (cw b f) with
   | none=>.err 1
   | some (g,a)=>if a.kind=0 then runN c b (cy f - 1) g else .ok g a:=by
 obtain ⟨n,hn⟩:∃n,cy f=n+1:=⟨cy f - 1,by simp only [cy];omega⟩
 rw [hn] at hr ⊢;rw [<- hr,runN,if_neg (by omega),if_neg (by rw [hp];simp)];rfl
theorem Mid.inv {c:Cd} {b:Bd} {x:LX} (h:Mid c b x) (hp:x.f.pc<1000) (hs:x.f.spent<2000) (h1:b.ins.length<1000) (h2:c.az.length<1000) (h3:c.cells.length<1000):Inv c b x:=
 ⟨h.pre,h.len,h.le,h.loc,h.deep,h.pc0,hp,h.sp0,hs,h.pA,h.kids,h1,h2,h3⟩
theorem cO {c:Cd} {b:Bd} {f0:Frame} {o:Out} {x y:LX} {a:Ask} (hx:Inv c b x) (hv:dW x.f) (hpc:x.f.pc<b.ins.length) (hr:runN c b (cy x.f) x.f=o) (hs:stepS c b x.f (cw b x.f)=some (y.f,a)) (hm:Mid c b y) (h4:a.kind≠4) :
  cM c b f0 o (.at y a)/\dq (.at y a)<dq (.at x aJ):=by
 have st:=rl hx.pc0 hpc hx.deep hs;have hvy:=za hv hs;have hrun:=cG hr hx.sp1 (by have:=hx.pc0;simp [below];omega);rw [hs] at hrun;have h1:=hx.sp1;by_cases hk:a.kind=0
 ·simp only [hk,if_true] at hrun
  have hsp:y.f.spent=x.f.spent+1:=by
   rcases st.spent with ⟨h,_⟩|⟨_,h⟩
   ·omega
   ·exact h
  have hfu:cy x.f - 1=cy y.f:=by simp only [cy];omega
  refine ⟨⟨hm,hvy,.inl ⟨st.Za hk,?_⟩⟩,?_⟩
  ·rw [<- hfu,hrun]
  ·simp only [dq,hk,if_true,show aJ.kind=0 from rfl,cy];omega
 ·simp only [hk,if_false] at hrun
  exact ⟨⟨hm,hvy,.inr ⟨hk,h4,hrun⟩⟩,by simp [dq,hk,show aJ.kind=0 from rfl]⟩
theorem Px {l:List (List Dat)} {n:Nat} {s:List Int} (h:l.take n=rows s):(l.drop 0).take n=rows s:=by rw [abk];exact h
theorem FR {c:Cd} {b:Bd} {x:LX} (h:Mid c b x):(Dat.agg [I x.f.task,.slice 1 (((rows x.f.path).drop 0).take x.f.path.length) false,I x.f.fn,I x.f.pc,.slice 1 ((x.ls.drop 0).take x.f.loc.length) false,.slice 1 ((x.xs.drop 0).take x.n) false,.slice 2 (((ep x.f.kids).drop 0).take x.f.kids.length) false,I x.f.many,I x.f.spent,.bool x.f.fail])=bW x.f:=by
 rw [Px h.pre,h.loc,abk,abk,abk];rw [aa7 (by simp [rows]),aa7 (by simp [rows]),aa7 (by simp [ep])];rfl
def loopBody:bP:=(.seq (.seq (.ops [⟨none,(some 28),(.fld 19 (.t 7))⟩,⟨none,(some 29),(.fld 0 (.t 28))⟩,⟨none,(some 30),(.load false 1 (.t 29))⟩,⟨none,(some 31),(.bin .eql (.t 30) (.c (.int .i64 0)))⟩]) (.cond (.t 31) .skip (.exit 0))) (.block 1 (.seq (.seq (.ops [⟨none,(some 32),(.fld 9 (.t 7))⟩,⟨none,(some 33),(.fld 8 (.t 32))⟩,⟨none,(some 34),(.load false 1 (.t 33))⟩,⟨none,(some 35),(.bin .eql (.t 34) (.c (.int .i64 2000)))⟩]) (.cond (.t 35) (.ops [⟨none,(some 36),(.yy 28 (.c (.int .i64 11)))⟩,⟨none,none,(.panic (.t 36))⟩]) .skip)) (.seq (.ops [⟨none,(some 37),(.fld 9 (.t 7))⟩,⟨none,(some 38),(.fld 3 (.t 37))⟩,⟨none,(some 39),(.load false 1 (.t 38))⟩,⟨none,(some 40),(.fld 6 (.t 7))⟩,⟨none,(some 41),(.fld 2 (.t 40))⟩,⟨none,(some 42),(.load false 1 (.t 41))⟩,⟨none,(some 43),(.len false (.t 42))⟩,⟨none,(some 44),(.call 56 [(.t 39),(.t 43)])⟩,⟨none,(some 45),(.sub 55 [(.t 7),(.t 44)])⟩]) (.seq (.ops [⟨none,(some 46),(.fld 6 (.t 7))⟩,⟨none,(some 47),(.fld 2 (.t 46))⟩,⟨none,(some 48),(.load false 1 (.t 47))⟩,⟨none,(some 49),(.fld 9 (.t 7))⟩,⟨none,(some 50),(.fld 3 (.t 49))⟩,⟨none,(some 51),(.load false 1 (.t 50))⟩,⟨none,(some 52),(.idx 4 (.t 48) (.t 51))⟩,⟨none,(some 53),(.load true 4 (.t 52))⟩,⟨none,(some 9),(.alloc [(.int .i64 0),(.int .i64 0),(.int .i64 0),(.int .i64 0)])⟩,⟨none,none,(.store 4 (.t 9) (.t 53))⟩]) (.seq (.ops [⟨none,(some 54),(.fld 0 (.t 9))⟩,⟨none,(some 55),(.load false 1 (.t 54))⟩,⟨none,(some 56),(.bin .geq (.t 55) (.c (.int .i64 1)))⟩,⟨none,(some 57),(.mov (.t 56))⟩,⟨(some (57,true)),(some 58),(.fld 0 (.t 9))⟩,⟨(some (57,true)),(some 59),(.load false 1 (.t 58))⟩,⟨(some (57,true)),(some 60),(.bin .lss (.t 59) (.c (.int .i64 20)))⟩,⟨none,(some 61),(.pick (.t 57) (.t 60) (.c (.bool false)))⟩,⟨none,(some 62),(.sub 55 [(.t 7),(.t 61)])⟩]) (.ops [⟨none,(some 63),(.fld 0 (.t 9))⟩,⟨none,(some 64),(.load false 1 (.t 63))⟩,⟨none,(some 65),(.sd 20 1 (.t 8) (.t 64))⟩,⟨none,(some 66),(.fld 0 (.t 65))⟩,⟨none,(some 67),(.load false 1 (.t 66))⟩,⟨none,(some 68),(.load true 4 (.t 9))⟩,⟨none,(some 69),(.gV (.t 67) [(.t 7),(.t 68)])⟩])))))))
def Zb (f0:Frame) (h:Heap) (nx:Nat) (e:Int):Prop:=uh P0 iW [.ptr 1 0,.ptr 2 0,.ptr 3 0,.ptr 4 0] h nx (some (.iface 28 (I e)))
  (fun h' nx'=>h' = (4,.var [.d (I e)])::(4,.var [.d (I 1)])::(3,.var aM)::(2,.var (V.b9 (bW f0)).cells)::h/\nx' = nx)
def nV (f0:Frame) (o:Out) (Q:ay->St->Prop):Prop:=∀(regs:jd) (h:Heap) (nx:Nat) (e:Int),look regs 4=some (.ptr 2 0)->look regs 5=some (.ptr 3 0)->look regs 6=some (.ptr 4 0)->Zb f0 h nx e->o = .err e->
  Q (.panic (.iface 28 (I e))) ⟨regs,h,nx,kq,0⟩
theorem Py (c:Cd) (b:Bd) (f:Frame) (o:Out) (x:LX) (hm:Mid c b x) (hv:dW x.f) (hrun:runN c b (cy x.f) x.f=o) (Q:ay->St->Prop) (cK:nV f o Q) (h:x.f.spent=2000):WT P0 (cP (bH c b f) (cM c b f o) dq (.at x aJ) Q) (exec loopBody (bH c b f (.at x aJ)) Tree.done):=by
 refine ah rfl ?_;refine ah (by simp [h]) ?_;exact cC (cK _ _ _ 11 rfl rfl rfl (Ss c b f x aM ⟨0,0,0,0⟩ [] 18 11) (by rw [<- hrun,show cy x.f=0+1 by simp only [cy];omega,runN,if_pos h]))
theorem Zc (c:Cd) (b:Bd) (f:Frame) (o:Out) (x:LX) (hm:Mid c b x) (hv:dW x.f) (hrun:runN c b (cy x.f) x.f=o) (Q:ay->St->Prop) (cK:nV f o Q) (h:x.f.spent<2000) (hpc:below x.f.pc b.ins.length=false):WT P0 (cP (bH c b f) (cM c b f o) dq (.at x aJ) Q) (exec loopBody (bH c b f (.at x aJ)) Tree.done):=by
 refine ah rfl ?_;refine aS (by simp;omega) ?_;refine aL _ (s25 _ _) ?_;refine au (aU _ _ _ _) ?_;rintro _ _ _ ⟨rfl,rfl,⟨dD,rfl⟩|⟨dD,rfl⟩⟩
 ·exfalso;simp [below] at hpc;simp at dD;omega
 refine cC (cK _ _ _ 1 rfl rfl rfl (Ss c b f x aM ⟨0,0,0,0⟩ [] 18 1) ?_);obtain ⟨n,hn⟩:∃n,cy x.f=n+1:=⟨cy x.f - 1,by simp only [cy];omega⟩
 rw [<- hrun,hn,runN,if_neg (by omega),if_pos hpc]
theorem aac (c:Cd) (b:Bd) (f:Frame) (o:Out) (x:LX) (hm:Mid c b x) (hv:dW x.f) (hrun:runN c b (cy x.f) x.f=o) (Q:ay->St->Prop) (cK:nV f o Q) (hx:Inv c b x) (b8:0<=x.f.pc/\x.f.pc<b.ins.length) (ia ib ic:Int) (hi:cw b x.f=⟨1,ia,ib,ic⟩):WT P0 (cP (bH c b f) (cM c b f o) dq (.at x aJ) Q) (exec loopBody (bH c b f (.at x aJ)) Tree.done):=by
 have hs1:stepS c b x.f ⟨1,ia,ib,ic⟩=jX x.f ⟨1,ia,ib,ic⟩:=rfl;have hS:=bO.dup (k:=18) (a:=.var (eR ⟨1,ia,ib,ic⟩)) (z:=.var [.d (I 0),.d (I 0),.d (I 0),.d (I 0)]) (h:=bU c b f x aM) (U4 c b f x ⟨1,ia,ib,ic⟩ hx);rw [<- hs1] at hS;obtain ⟨s,hst⟩:∃s,stepS c b x.f ⟨1,ia,ib,ic⟩=s:=⟨_,rfl⟩
 rw [hst] at hS;have fh:below x.f.pc b.ins.length=true:=by simpa [below] using b8
 have h:=hx.sp1;have hi2:b.ins[x.f.pc.toNat]? = some ⟨1,ia,ib,ic⟩:=by
  have e:x.f.pc.toNat<b.ins.length:=by omega
  rw [<- hi];simp [cw,e]
 refine ah rfl ?_;refine aS (by simp;omega) ?_;refine aL _ (s25 _ _) ?_;refine au (aU _ _ _ _) ?_;rintro _ _ _ ⟨rfl,rfl,⟨-,rfl⟩|⟨dD,rfl⟩⟩;rotate_left
 ·exfalso;simp at dD;omega
 refine ah (by simp;omega) ?_;refine aF (in4 ⟨1,ia,ib,ic⟩) (by simp [hi2]) ?_;refine ah rfl ?_;refine ah rfl ?_;refine au (aU _ _ _ _) ?_;rintro _ _ _ ⟨rfl,rfl,⟨-,rfl⟩|⟨hno,rfl⟩⟩;rotate_left
 ·exfalso;simp at hno
 refine ah rfl ?_;refine au hS ?_;rintro r h' nx' hD
 cases s with
 | none=>
  obtain ⟨rfl,rfl,y,ask,rfl⟩:=hD;exact cC (cK _ _ _ 1 rfl rfl rfl (fC c b f y ask ⟨1,ia,ib,ic⟩ [] 19 1) (by rw [cG hrun hx.sp1 fh,hi,hst]))
 | some p=>
  obtain ⟨g,a⟩:=p;obtain ⟨rfl,rfl,y,rfl,hmy,rfl⟩:=hD;have hnx:=cO (f0:=f) hx hv b8.2 hrun (by rw [hi];exact hst) hmy (cq hst (by show (1:Int)≠13;decide));exact aW (.at y a) hnx.1 hnx.2 (Weak.eqs [] (by kernel_rfl) (by kernel_rfl) (by kernel_rfl) (by kernel_rfl) (by kernel_rfl) (by kernel_rfl) (by kernel_rfl) (by kernel_rfl) (by kernel_rfl) (by kernel_rfl))
theorem aad (c:Cd) (b:Bd) (f:Frame) (o:Out) (x:LX) (hm:Mid c b x) (hv:dW x.f) (hrun:runN c b (cy x.f) x.f=o) (Q:ay->St->Prop) (cK:nV f o Q) (hx:Inv c b x) (b8:0<=x.f.pc/\x.f.pc<b.ins.length) (ia ib ic:Int) (hi:cw b x.f=⟨2,ia,ib,ic⟩):WT P0 (cP (bH c b f) (cM c b f o) dq (.at x aJ) Q) (exec loopBody (bH c b f (.at x aJ)) Tree.done):=by
 have hs1:stepS c b x.f ⟨2,ia,ib,ic⟩=fO x.f ⟨2,ia,ib,ic⟩:=rfl;have hS:=bO.dup (k:=18) (a:=.var (eR ⟨2,ia,ib,ic⟩)) (z:=.var [.d (I 0),.d (I 0),.d (I 0),.d (I 0)]) (h:=bU c b f x aM) (U3 c b f x ⟨2,ia,ib,ic⟩ hx);rw [<- hs1] at hS;obtain ⟨s,hst⟩:∃s,stepS c b x.f ⟨2,ia,ib,ic⟩=s:=⟨_,rfl⟩
 rw [hst] at hS;have fh:below x.f.pc b.ins.length=true:=by simpa [below] using b8
 have h:=hx.sp1;have hi2:b.ins[x.f.pc.toNat]? = some ⟨2,ia,ib,ic⟩:=by
  have e:x.f.pc.toNat<b.ins.length:=by omega
  rw [<- hi];simp [cw,e]
 refine ah rfl ?_;refine aS (by simp;omega) ?_;refine aL _ (s25 _ _) ?_;refine au (aU _ _ _ _) ?_;rintro _ _ _ ⟨rfl,rfl,⟨-,rfl⟩|⟨dD,rfl⟩⟩;rotate_left
 ·exfalso;simp at dD;omega
 refine ah (by simp;omega) ?_;refine aF (in4 ⟨2,ia,ib,ic⟩) (by simp [hi2]) ?_;refine ah rfl ?_;refine ah rfl ?_;refine au (aU _ _ _ _) ?_;rintro _ _ _ ⟨rfl,rfl,⟨-,rfl⟩|⟨hno,rfl⟩⟩;rotate_left
 ·exfalso;simp at hno
 refine ah rfl ?_;refine au hS ?_;rintro r h' nx' hD
 cases s with
 | none=>
  obtain ⟨rfl,rfl,y,ask,rfl⟩:=hD;exact cC (cK _ _ _ 1 rfl rfl rfl (fC c b f y ask ⟨2,ia,ib,ic⟩ [] 19 1) (by rw [cG hrun hx.sp1 fh,hi,hst]))
 | some p=>
  obtain ⟨g,a⟩:=p;obtain ⟨rfl,rfl,y,rfl,hmy,rfl⟩:=hD;have hnx:=cO (f0:=f) hx hv b8.2 hrun (by rw [hi];exact hst) hmy (cq hst (by show (2:Int)≠13;decide));exact aW (.at y a) hnx.1 hnx.2 (Weak.eqs [] (by kernel_rfl) (by kernel_rfl) (by kernel_rfl) (by kernel_rfl) (by kernel_rfl) (by kernel_rfl) (by kernel_rfl) (by kernel_rfl) (by kernel_rfl) (by kernel_rfl))
theorem aae (c:Cd) (b:Bd) (f:Frame) (o:Out) (x:LX) (hm:Mid c b x) (hv:dW x.f) (hrun:runN c b (cy x.f) x.f=o) (Q:ay->St->Prop) (cK:nV f o Q) (hx:Inv c b x) (b8:0<=x.f.pc/\x.f.pc<b.ins.length) (ia ib ic:Int) (hi:cw b x.f=⟨3,ia,ib,ic⟩):WT P0 (cP (bH c b f) (cM c b f o) dq (.at x aJ) Q) (exec loopBody (bH c b f (.at x aJ)) Tree.done):=by
 have hs1:stepS c b x.f ⟨3,ia,ib,ic⟩=sb x.f ⟨3,ia,ib,ic⟩:=rfl;have hS:=bO.dup (k:=18) (a:=.var (eR ⟨3,ia,ib,ic⟩)) (z:=.var [.d (I 0),.d (I 0),.d (I 0),.d (I 0)]) (h:=bU c b f x aM) (Y7 c b f x ⟨3,ia,ib,ic⟩ hx);rw [<- hs1] at hS;obtain ⟨s,hst⟩:∃s,stepS c b x.f ⟨3,ia,ib,ic⟩=s:=⟨_,rfl⟩
 rw [hst] at hS;have fh:below x.f.pc b.ins.length=true:=by simpa [below] using b8
 have h:=hx.sp1;have hi2:b.ins[x.f.pc.toNat]? = some ⟨3,ia,ib,ic⟩:=by
  have e:x.f.pc.toNat<b.ins.length:=by omega
  rw [<- hi];simp [cw,e]
 refine ah rfl ?_;refine aS (by simp;omega) ?_;refine aL _ (s25 _ _) ?_;refine au (aU _ _ _ _) ?_;rintro _ _ _ ⟨rfl,rfl,⟨-,rfl⟩|⟨dD,rfl⟩⟩;rotate_left
 ·exfalso;simp at dD;omega
 refine ah (by simp;omega) ?_;refine aF (in4 ⟨3,ia,ib,ic⟩) (by simp [hi2]) ?_;refine ah rfl ?_;refine ah rfl ?_;refine au (aU _ _ _ _) ?_;rintro _ _ _ ⟨rfl,rfl,⟨-,rfl⟩|⟨hno,rfl⟩⟩;rotate_left
 ·exfalso;simp at hno
 refine ah rfl ?_;refine au hS ?_;rintro r h' nx' hD
 cases s with
 | none=>
  obtain ⟨rfl,rfl,y,ask,rfl⟩:=hD;exact cC (cK _ _ _ 1 rfl rfl rfl (fC c b f y ask ⟨3,ia,ib,ic⟩ [] 19 1) (by rw [cG hrun hx.sp1 fh,hi,hst]))
 | some p=>
  obtain ⟨g,a⟩:=p;obtain ⟨rfl,rfl,y,rfl,hmy,rfl⟩:=hD;have hnx:=cO (f0:=f) hx hv b8.2 hrun (by rw [hi];exact hst) hmy (cq hst (by show (3:Int)≠13;decide));exact aW (.at y a) hnx.1 hnx.2 (Weak.eqs [] (by kernel_rfl) (by kernel_rfl) (by kernel_rfl) (by kernel_rfl) (by kernel_rfl) (by kernel_rfl) (by kernel_rfl) (by kernel_rfl) (by kernel_rfl) (by kernel_rfl))
theorem aaf (c:Cd) (b:Bd) (f:Frame) (o:Out) (x:LX) (hm:Mid c b x) (hv:dW x.f) (hrun:runN c b (cy x.f) x.f=o) (Q:ay->St->Prop) (cK:nV f o Q) (hx:Inv c b x) (b8:0<=x.f.pc/\x.f.pc<b.ins.length) (ia ib ic:Int) (hi:cw b x.f=⟨4,ia,ib,ic⟩):WT P0 (cP (bH c b f) (cM c b f o) dq (.at x aJ) Q) (exec loopBody (bH c b f (.at x aJ)) Tree.done):=by
 have hs1:stepS c b x.f ⟨4,ia,ib,ic⟩=o8 c x.f ⟨4,ia,ib,ic⟩:=rfl;have hS:=bO.dup (k:=18) (a:=.var (eR ⟨4,ia,ib,ic⟩)) (z:=.var [.d (I 0),.d (I 0),.d (I 0),.d (I 0)]) (h:=bU c b f x aM) (XS c b f x ⟨4,ia,ib,ic⟩ hx);rw [<- hs1] at hS;obtain ⟨s,hst⟩:∃s,stepS c b x.f ⟨4,ia,ib,ic⟩=s:=⟨_,rfl⟩
 rw [hst] at hS;have fh:below x.f.pc b.ins.length=true:=by simpa [below] using b8
 have h:=hx.sp1;have hi2:b.ins[x.f.pc.toNat]? = some ⟨4,ia,ib,ic⟩:=by
  have e:x.f.pc.toNat<b.ins.length:=by omega
  rw [<- hi];simp [cw,e]
 refine ah rfl ?_;refine aS (by simp;omega) ?_;refine aL _ (s25 _ _) ?_;refine au (aU _ _ _ _) ?_;rintro _ _ _ ⟨rfl,rfl,⟨-,rfl⟩|⟨dD,rfl⟩⟩;rotate_left
 ·exfalso;simp at dD;omega
 refine ah (by simp;omega) ?_;refine aF (in4 ⟨4,ia,ib,ic⟩) (by simp [hi2]) ?_;refine ah rfl ?_;refine ah rfl ?_;refine au (aU _ _ _ _) ?_;rintro _ _ _ ⟨rfl,rfl,⟨-,rfl⟩|⟨hno,rfl⟩⟩;rotate_left
 ·exfalso;simp at hno
 refine ah rfl ?_;refine au hS ?_;rintro r h' nx' hD
 cases s with
 | none=>
  obtain ⟨rfl,rfl,y,ask,rfl⟩:=hD;exact cC (cK _ _ _ 1 rfl rfl rfl (fC c b f y ask ⟨4,ia,ib,ic⟩ [] 19 1) (by rw [cG hrun hx.sp1 fh,hi,hst]))
 | some p=>
  obtain ⟨g,a⟩:=p;obtain ⟨rfl,rfl,y,rfl,hmy,rfl⟩:=hD;have hnx:=cO (f0:=f) hx hv b8.2 hrun (by rw [hi];exact hst) hmy (cq hst (by show (4:Int)≠13;decide));exact aW (.at y a) hnx.1 hnx.2 (Weak.eqs [] (by kernel_rfl) (by kernel_rfl) (by kernel_rfl) (by kernel_rfl) (by kernel_rfl) (by kernel_rfl) (by kernel_rfl) (by kernel_rfl) (by kernel_rfl) (by kernel_rfl))
theorem aag (c:Cd) (b:Bd) (f:Frame) (o:Out) (x:LX) (hm:Mid c b x) (hv:dW x.f) (hrun:runN c b (cy x.f) x.f=o) (Q:ay->St->Prop) (cK:nV f o Q) (hx:Inv c b x) (b8:0<=x.f.pc/\x.f.pc<b.ins.length) (ia ib ic:Int) (hi:cw b x.f=⟨5,ia,ib,ic⟩):WT P0 (cP (bH c b f) (cM c b f o) dq (.at x aJ) Q) (exec loopBody (bH c b f (.at x aJ)) Tree.done):=by
 have hs1:stepS c b x.f ⟨5,ia,ib,ic⟩=g8 c x.f ⟨5,ia,ib,ic⟩:=rfl;have hS:=bO.dup (k:=18) (a:=.var (eR ⟨5,ia,ib,ic⟩)) (z:=.var [.d (I 0),.d (I 0),.d (I 0),.d (I 0)]) (h:=bU c b f x aM) (U5 c b f x ⟨5,ia,ib,ic⟩ hx);rw [<- hs1] at hS;obtain ⟨s,hst⟩:∃s,stepS c b x.f ⟨5,ia,ib,ic⟩=s:=⟨_,rfl⟩
 rw [hst] at hS;have fh:below x.f.pc b.ins.length=true:=by simpa [below] using b8
 have h:=hx.sp1;have hi2:b.ins[x.f.pc.toNat]? = some ⟨5,ia,ib,ic⟩:=by
  have e:x.f.pc.toNat<b.ins.length:=by omega
  rw [<- hi];simp [cw,e]
 refine ah rfl ?_;refine aS (by simp;omega) ?_;refine aL _ (s25 _ _) ?_;refine au (aU _ _ _ _) ?_;rintro _ _ _ ⟨rfl,rfl,⟨-,rfl⟩|⟨dD,rfl⟩⟩;rotate_left
 ·exfalso;simp at dD;omega
 refine ah (by simp;omega) ?_;refine aF (in4 ⟨5,ia,ib,ic⟩) (by simp [hi2]) ?_;refine ah rfl ?_;refine ah rfl ?_;refine au (aU _ _ _ _) ?_;rintro _ _ _ ⟨rfl,rfl,⟨-,rfl⟩|⟨hno,rfl⟩⟩;rotate_left
 ·exfalso;simp at hno
 refine ah rfl ?_;refine au hS ?_;rintro r h' nx' hD
 cases s with
 | none=>
  obtain ⟨rfl,rfl,y,ask,rfl⟩:=hD;exact cC (cK _ _ _ 1 rfl rfl rfl (fC c b f y ask ⟨5,ia,ib,ic⟩ [] 19 1) (by rw [cG hrun hx.sp1 fh,hi,hst]))
 | some p=>
  obtain ⟨g,a⟩:=p;obtain ⟨rfl,rfl,y,rfl,hmy,rfl⟩:=hD;have hnx:=cO (f0:=f) hx hv b8.2 hrun (by rw [hi];exact hst) hmy (cq hst (by show (5:Int)≠13;decide));exact aW (.at y a) hnx.1 hnx.2 (Weak.eqs [] (by kernel_rfl) (by kernel_rfl) (by kernel_rfl) (by kernel_rfl) (by kernel_rfl) (by kernel_rfl) (by kernel_rfl) (by kernel_rfl) (by kernel_rfl) (by kernel_rfl))
theorem aah (c:Cd) (b:Bd) (f:Frame) (o:Out) (x:LX) (hm:Mid c b x) (hv:dW x.f) (hrun:runN c b (cy x.f) x.f=o) (Q:ay->St->Prop) (cK:nV f o Q) (hx:Inv c b x) (b8:0<=x.f.pc/\x.f.pc<b.ins.length) (ia ib ic:Int) (hi:cw b x.f=⟨6,ia,ib,ic⟩):WT P0 (cP (bH c b f) (cM c b f o) dq (.at x aJ) Q) (exec loopBody (bH c b f (.at x aJ)) Tree.done):=by
 have hs1:stepS c b x.f ⟨6,ia,ib,ic⟩=aX (fun x y=>cm (x+y)) x.f:=rfl;have hS:=bO.dup (k:=18) (a:=.var (eR ⟨6,ia,ib,ic⟩)) (z:=.var [.d (I 0),.d (I 0),.d (I 0),.d (I 0)]) (h:=bU c b f x aM) (Y4 c b f x ⟨6,ia,ib,ic⟩ hx);rw [<- hs1] at hS;obtain ⟨s,hst⟩:∃s,stepS c b x.f ⟨6,ia,ib,ic⟩=s:=⟨_,rfl⟩
 rw [hst] at hS;have fh:below x.f.pc b.ins.length=true:=by simpa [below] using b8
 have h:=hx.sp1;have hi2:b.ins[x.f.pc.toNat]? = some ⟨6,ia,ib,ic⟩:=by
  have e:x.f.pc.toNat<b.ins.length:=by omega
  rw [<- hi];simp [cw,e]
 refine ah rfl ?_;refine aS (by simp;omega) ?_;refine aL _ (s25 _ _) ?_;refine au (aU _ _ _ _) ?_;rintro _ _ _ ⟨rfl,rfl,⟨-,rfl⟩|⟨dD,rfl⟩⟩;rotate_left
 ·exfalso;simp at dD;omega
 refine ah (by simp;omega) ?_;refine aF (in4 ⟨6,ia,ib,ic⟩) (by simp [hi2]) ?_;refine ah rfl ?_;refine ah rfl ?_;refine au (aU _ _ _ _) ?_;rintro _ _ _ ⟨rfl,rfl,⟨-,rfl⟩|⟨hno,rfl⟩⟩;rotate_left
 ·exfalso;simp at hno
 refine ah rfl ?_;refine au hS ?_;rintro r h' nx' hD
 cases s with
 | none=>
  obtain ⟨rfl,rfl,y,ask,rfl⟩:=hD;exact cC (cK _ _ _ 1 rfl rfl rfl (fC c b f y ask ⟨6,ia,ib,ic⟩ [] 19 1) (by rw [cG hrun hx.sp1 fh,hi,hst]))
 | some p=>
  obtain ⟨g,a⟩:=p;obtain ⟨rfl,rfl,y,rfl,hmy,rfl⟩:=hD;have hnx:=cO (f0:=f) hx hv b8.2 hrun (by rw [hi];exact hst) hmy (cq hst (by show (6:Int)≠13;decide));exact aW (.at y a) hnx.1 hnx.2 (Weak.eqs [] (by kernel_rfl) (by kernel_rfl) (by kernel_rfl) (by kernel_rfl) (by kernel_rfl) (by kernel_rfl) (by kernel_rfl) (by kernel_rfl) (by kernel_rfl) (by kernel_rfl))
theorem aai (c:Cd) (b:Bd) (f:Frame) (o:Out) (x:LX) (hm:Mid c b x) (hv:dW x.f) (hrun:runN c b (cy x.f) x.f=o) (Q:ay->St->Prop) (cK:nV f o Q) (hx:Inv c b x) (b8:0<=x.f.pc/\x.f.pc<b.ins.length) (ia ib ic:Int) (hi:cw b x.f=⟨7,ia,ib,ic⟩):WT P0 (cP (bH c b f) (cM c b f o) dq (.at x aJ) Q) (exec loopBody (bH c b f (.at x aJ)) Tree.done):=by
 have hs1:stepS c b x.f ⟨7,ia,ib,ic⟩=aX (fun x y=>cm (x - y)) x.f:=rfl;have hS:=bO.dup (k:=18) (a:=.var (eR ⟨7,ia,ib,ic⟩)) (z:=.var [.d (I 0),.d (I 0),.d (I 0),.d (I 0)]) (h:=bU c b f x aM) (Y5 c b f x ⟨7,ia,ib,ic⟩ hx);rw [<- hs1] at hS;obtain ⟨s,hst⟩:∃s,stepS c b x.f ⟨7,ia,ib,ic⟩=s:=⟨_,rfl⟩
 rw [hst] at hS;have fh:below x.f.pc b.ins.length=true:=by simpa [below] using b8
 have h:=hx.sp1;have hi2:b.ins[x.f.pc.toNat]? = some ⟨7,ia,ib,ic⟩:=by
  have e:x.f.pc.toNat<b.ins.length:=by omega
  rw [<- hi];simp [cw,e]
 refine ah rfl ?_;refine aS (by simp;omega) ?_;refine aL _ (s25 _ _) ?_;refine au (aU _ _ _ _) ?_;rintro _ _ _ ⟨rfl,rfl,⟨-,rfl⟩|⟨dD,rfl⟩⟩;rotate_left
 ·exfalso;simp at dD;omega
 refine ah (by simp;omega) ?_;refine aF (in4 ⟨7,ia,ib,ic⟩) (by simp [hi2]) ?_;refine ah rfl ?_;refine ah rfl ?_;refine au (aU _ _ _ _) ?_;rintro _ _ _ ⟨rfl,rfl,⟨-,rfl⟩|⟨hno,rfl⟩⟩;rotate_left
 ·exfalso;simp at hno
 refine ah rfl ?_;refine au hS ?_;rintro r h' nx' hD
 cases s with
 | none=>
  obtain ⟨rfl,rfl,y,ask,rfl⟩:=hD;exact cC (cK _ _ _ 1 rfl rfl rfl (fC c b f y ask ⟨7,ia,ib,ic⟩ [] 19 1) (by rw [cG hrun hx.sp1 fh,hi,hst]))
 | some p=>
  obtain ⟨g,a⟩:=p;obtain ⟨rfl,rfl,y,rfl,hmy,rfl⟩:=hD;have hnx:=cO (f0:=f) hx hv b8.2 hrun (by rw [hi];exact hst) hmy (cq hst (by show (7:Int)≠13;decide));exact aW (.at y a) hnx.1 hnx.2 (Weak.eqs [] (by kernel_rfl) (by kernel_rfl) (by kernel_rfl) (by kernel_rfl) (by kernel_rfl) (by kernel_rfl) (by kernel_rfl) (by kernel_rfl) (by kernel_rfl) (by kernel_rfl))
theorem aaj (c:Cd) (b:Bd) (f:Frame) (o:Out) (x:LX) (hm:Mid c b x) (hv:dW x.f) (hrun:runN c b (cy x.f) x.f=o) (Q:ay->St->Prop) (cK:nV f o Q) (hx:Inv c b x) (b8:0<=x.f.pc/\x.f.pc<b.ins.length) (ia ib ic:Int) (hi:cw b x.f=⟨8,ia,ib,ic⟩):WT P0 (cP (bH c b f) (cM c b f o) dq (.at x aJ) Q) (exec loopBody (bH c b f (.at x aJ)) Tree.done):=by
 have hs1:stepS c b x.f ⟨8,ia,ib,ic⟩=aX (fun x y=>cm (x * y)) x.f:=rfl;have hS:=bO.dup (k:=18) (a:=.var (eR ⟨8,ia,ib,ic⟩)) (z:=.var [.d (I 0),.d (I 0),.d (I 0),.d (I 0)]) (h:=bU c b f x aM) (Y6 c b f x ⟨8,ia,ib,ic⟩ hx);rw [<- hs1] at hS;obtain ⟨s,hst⟩:∃s,stepS c b x.f ⟨8,ia,ib,ic⟩=s:=⟨_,rfl⟩
 rw [hst] at hS;have fh:below x.f.pc b.ins.length=true:=by simpa [below] using b8
 have h:=hx.sp1;have hi2:b.ins[x.f.pc.toNat]? = some ⟨8,ia,ib,ic⟩:=by
  have e:x.f.pc.toNat<b.ins.length:=by omega
  rw [<- hi];simp [cw,e]
 refine ah rfl ?_;refine aS (by simp;omega) ?_;refine aL _ (s25 _ _) ?_;refine au (aU _ _ _ _) ?_;rintro _ _ _ ⟨rfl,rfl,⟨-,rfl⟩|⟨dD,rfl⟩⟩;rotate_left
 ·exfalso;simp at dD;omega
 refine ah (by simp;omega) ?_;refine aF (in4 ⟨8,ia,ib,ic⟩) (by simp [hi2]) ?_;refine ah rfl ?_;refine ah rfl ?_;refine au (aU _ _ _ _) ?_;rintro _ _ _ ⟨rfl,rfl,⟨-,rfl⟩|⟨hno,rfl⟩⟩;rotate_left
 ·exfalso;simp at hno
 refine ah rfl ?_;refine au hS ?_;rintro r h' nx' hD
 cases s with
 | none=>
  obtain ⟨rfl,rfl,y,ask,rfl⟩:=hD;exact cC (cK _ _ _ 1 rfl rfl rfl (fC c b f y ask ⟨8,ia,ib,ic⟩ [] 19 1) (by rw [cG hrun hx.sp1 fh,hi,hst]))
 | some p=>
  obtain ⟨g,a⟩:=p;obtain ⟨rfl,rfl,y,rfl,hmy,rfl⟩:=hD;have hnx:=cO (f0:=f) hx hv b8.2 hrun (by rw [hi];exact hst) hmy (cq hst (by show (8:Int)≠13;decide));exact aW (.at y a) hnx.1 hnx.2 (Weak.eqs [] (by kernel_rfl) (by kernel_rfl) (by kernel_rfl) (by kernel_rfl) (by kernel_rfl) (by kernel_rfl) (by kernel_rfl) (by kernel_rfl) (by kernel_rfl) (by kernel_rfl))
theorem aak (c:Cd) (b:Bd) (f:Frame) (o:Out) (x:LX) (hm:Mid c b x) (hv:dW x.f) (hrun:runN c b (cy x.f) x.f=o) (Q:ay->St->Prop) (cK:nV f o Q) (hx:Inv c b x) (b8:0<=x.f.pc/\x.f.pc<b.ins.length) (ia ib ic:Int) (hi:cw b x.f=⟨9,ia,ib,ic⟩):WT P0 (cP (bH c b f) (cM c b f o) dq (.at x aJ) Q) (exec loopBody (bH c b f (.at x aJ)) Tree.done):=by
 have hs1:stepS c b x.f ⟨9,ia,ib,ic⟩=aX (fun x y=>truth (decide (x<y))) x.f:=rfl;have hS:=bO.dup (k:=18) (a:=.var (eR ⟨9,ia,ib,ic⟩)) (z:=.var [.d (I 0),.d (I 0),.d (I 0),.d (I 0)]) (h:=bU c b f x aM) (XX c b f x ⟨9,ia,ib,ic⟩ hx);rw [<- hs1] at hS;obtain ⟨s,hst⟩:∃s,stepS c b x.f ⟨9,ia,ib,ic⟩=s:=⟨_,rfl⟩
 rw [hst] at hS;have fh:below x.f.pc b.ins.length=true:=by simpa [below] using b8
 have h:=hx.sp1;have hi2:b.ins[x.f.pc.toNat]? = some ⟨9,ia,ib,ic⟩:=by
  have e:x.f.pc.toNat<b.ins.length:=by omega
  rw [<- hi];simp [cw,e]
 refine ah rfl ?_;refine aS (by simp;omega) ?_;refine aL _ (s25 _ _) ?_;refine au (aU _ _ _ _) ?_;rintro _ _ _ ⟨rfl,rfl,⟨-,rfl⟩|⟨dD,rfl⟩⟩;rotate_left
 ·exfalso;simp at dD;omega
 refine ah (by simp;omega) ?_;refine aF (in4 ⟨9,ia,ib,ic⟩) (by simp [hi2]) ?_;refine ah rfl ?_;refine ah rfl ?_;refine au (aU _ _ _ _) ?_;rintro _ _ _ ⟨rfl,rfl,⟨-,rfl⟩|⟨hno,rfl⟩⟩;rotate_left
 ·exfalso;simp at hno
 refine ah rfl ?_;refine au hS ?_;rintro r h' nx' hD
 cases s with
 | none=>
  obtain ⟨rfl,rfl,y,ask,rfl⟩:=hD;exact cC (cK _ _ _ 1 rfl rfl rfl (fC c b f y ask ⟨9,ia,ib,ic⟩ [] 19 1) (by rw [cG hrun hx.sp1 fh,hi,hst]))
 | some p=>
  obtain ⟨g,a⟩:=p;obtain ⟨rfl,rfl,y,rfl,hmy,rfl⟩:=hD;have hnx:=cO (f0:=f) hx hv b8.2 hrun (by rw [hi];exact hst) hmy (cq hst (by show (9:Int)≠13;decide));exact aW (.at y a) hnx.1 hnx.2 (Weak.eqs [] (by kernel_rfl) (by kernel_rfl) (by kernel_rfl) (by kernel_rfl) (by kernel_rfl) (by kernel_rfl) (by kernel_rfl) (by kernel_rfl) (by kernel_rfl) (by kernel_rfl))
theorem Zd (c:Cd) (b:Bd) (f:Frame) (o:Out) (x:LX) (hm:Mid c b x) (hv:dW x.f) (hrun:runN c b (cy x.f) x.f=o) (Q:ay->St->Prop) (cK:nV f o Q) (hx:Inv c b x) (b8:0<=x.f.pc/\x.f.pc<b.ins.length) (ia ib ic:Int) (hi:cw b x.f=⟨10,ia,ib,ic⟩):WT P0 (cP (bH c b f) (cM c b f o) dq (.at x aJ) Q) (exec loopBody (bH c b f (.at x aJ)) Tree.done):=by
 have hs1:stepS c b x.f ⟨10,ia,ib,ic⟩=aX (fun x y=>truth (decide (x=y))) x.f:=rfl;have hS:=bO.dup (k:=18) (a:=.var (eR ⟨10,ia,ib,ic⟩)) (z:=.var [.d (I 0),.d (I 0),.d (I 0),.d (I 0)]) (h:=bU c b f x aM) (i_eq c b f x ⟨10,ia,ib,ic⟩ hx);rw [<- hs1] at hS;obtain ⟨s,hst⟩:∃s,stepS c b x.f ⟨10,ia,ib,ic⟩=s:=⟨_,rfl⟩
 rw [hst] at hS;have fh:below x.f.pc b.ins.length=true:=by simpa [below] using b8
 have h:=hx.sp1;have hi2:b.ins[x.f.pc.toNat]? = some ⟨10,ia,ib,ic⟩:=by
  have e:x.f.pc.toNat<b.ins.length:=by omega
  rw [<- hi];simp [cw,e]
 refine ah rfl ?_;refine aS (by simp;omega) ?_;refine aL _ (s25 _ _) ?_;refine au (aU _ _ _ _) ?_;rintro _ _ _ ⟨rfl,rfl,⟨-,rfl⟩|⟨dD,rfl⟩⟩;rotate_left
 ·exfalso;simp at dD;omega
 refine ah (by simp;omega) ?_;refine aF (in4 ⟨10,ia,ib,ic⟩) (by simp [hi2]) ?_;refine ah rfl ?_;refine ah rfl ?_;refine au (aU _ _ _ _) ?_;rintro _ _ _ ⟨rfl,rfl,⟨-,rfl⟩|⟨hno,rfl⟩⟩;rotate_left
 ·exfalso;simp at hno
 refine ah rfl ?_;refine au hS ?_;rintro r h' nx' hD
 cases s with
 | none=>
  obtain ⟨rfl,rfl,y,ask,rfl⟩:=hD;exact cC (cK _ _ _ 1 rfl rfl rfl (fC c b f y ask ⟨10,ia,ib,ic⟩ [] 19 1) (by rw [cG hrun hx.sp1 fh,hi,hst]))
 | some p=>
  obtain ⟨g,a⟩:=p;obtain ⟨rfl,rfl,y,rfl,hmy,rfl⟩:=hD;have hnx:=cO (f0:=f) hx hv b8.2 hrun (by rw [hi];exact hst) hmy (cq hst (by show (10:Int)≠13;decide));exact aW (.at y a) hnx.1 hnx.2 (Weak.eqs [] (by kernel_rfl) (by kernel_rfl) (by kernel_rfl) (by kernel_rfl) (by kernel_rfl) (by kernel_rfl) (by kernel_rfl) (by kernel_rfl) (by kernel_rfl) (by kernel_rfl))
theorem Ze (c:Cd) (b:Bd) (f:Frame) (o:Out) (x:LX) (hm:Mid c b x) (hv:dW x.f) (hrun:runN c b (cy x.f) x.f=o) (Q:ay->St->Prop) (cK:nV f o Q) (hx:Inv c b x) (b8:0<=x.f.pc/\x.f.pc<b.ins.length) (ia ib ic:Int) (hi:cw b x.f=⟨11,ia,ib,ic⟩):WT P0 (cP (bH c b f) (cM c b f o) dq (.at x aJ) Q) (exec loopBody (bH c b f (.at x aJ)) Tree.done):=by
 have hs1:stepS c b x.f ⟨11,ia,ib,ic⟩=fQ c x.f ⟨11,ia,ib,ic⟩:=rfl;have hS:=bO.dup (k:=18) (a:=.var (eR ⟨11,ia,ib,ic⟩)) (z:=.var [.d (I 0),.d (I 0),.d (I 0),.d (I 0)]) (h:=bU c b f x aM) (XZ c b f x ⟨11,ia,ib,ic⟩ hx);rw [<- hs1] at hS;obtain ⟨s,hst⟩:∃s,stepS c b x.f ⟨11,ia,ib,ic⟩=s:=⟨_,rfl⟩
 rw [hst] at hS;have fh:below x.f.pc b.ins.length=true:=by simpa [below] using b8
 have h:=hx.sp1;have hi2:b.ins[x.f.pc.toNat]? = some ⟨11,ia,ib,ic⟩:=by
  have e:x.f.pc.toNat<b.ins.length:=by omega
  rw [<- hi];simp [cw,e]
 refine ah rfl ?_;refine aS (by simp;omega) ?_;refine aL _ (s25 _ _) ?_;refine au (aU _ _ _ _) ?_;rintro _ _ _ ⟨rfl,rfl,⟨-,rfl⟩|⟨dD,rfl⟩⟩;rotate_left
 ·exfalso;simp at dD;omega
 refine ah (by simp;omega) ?_;refine aF (in4 ⟨11,ia,ib,ic⟩) (by simp [hi2]) ?_;refine ah rfl ?_;refine ah rfl ?_;refine au (aU _ _ _ _) ?_;rintro _ _ _ ⟨rfl,rfl,⟨-,rfl⟩|⟨hno,rfl⟩⟩;rotate_left
 ·exfalso;simp at hno
 refine ah rfl ?_;refine au hS ?_;rintro r h' nx' hD
 cases s with
 | none=>
  obtain ⟨rfl,rfl,y,ask,rfl⟩:=hD;exact cC (cK _ _ _ 1 rfl rfl rfl (fC c b f y ask ⟨11,ia,ib,ic⟩ [] 19 1) (by rw [cG hrun hx.sp1 fh,hi,hst]))
 | some p=>
  obtain ⟨g,a⟩:=p;obtain ⟨rfl,rfl,y,rfl,hmy,rfl⟩:=hD;have hnx:=cO (f0:=f) hx hv b8.2 hrun (by rw [hi];exact hst) hmy (cq hst (by show (11:Int)≠13;decide));exact aW (.at y a) hnx.1 hnx.2 (Weak.eqs [] (by kernel_rfl) (by kernel_rfl) (by kernel_rfl) (by kernel_rfl) (by kernel_rfl) (by kernel_rfl) (by kernel_rfl) (by kernel_rfl) (by kernel_rfl) (by kernel_rfl))
theorem Zf (c:Cd) (b:Bd) (f:Frame) (o:Out) (x:LX) (hm:Mid c b x) (hv:dW x.f) (hrun:runN c b (cy x.f) x.f=o) (Q:ay->St->Prop) (cK:nV f o Q) (hx:Inv c b x) (b8:0<=x.f.pc/\x.f.pc<b.ins.length) (ia ib ic:Int) (hi:cw b x.f=⟨12,ia,ib,ic⟩):WT P0 (cP (bH c b f) (cM c b f o) dq (.at x aJ) Q) (exec loopBody (bH c b f (.at x aJ)) Tree.done):=by
 have hs1:stepS c b x.f ⟨12,ia,ib,ic⟩=o9 x.f:=rfl;have hS:=bO.dup (k:=18) (a:=.var (eR ⟨12,ia,ib,ic⟩)) (z:=.var [.d (I 0),.d (I 0),.d (I 0),.d (I 0)]) (h:=bU c b f x aM) (XT c b f x ⟨12,ia,ib,ic⟩ hx);rw [<- hs1] at hS;obtain ⟨s,hst⟩:∃s,stepS c b x.f ⟨12,ia,ib,ic⟩=s:=⟨_,rfl⟩
 rw [hst] at hS;have fh:below x.f.pc b.ins.length=true:=by simpa [below] using b8
 have h:=hx.sp1;have hi2:b.ins[x.f.pc.toNat]? = some ⟨12,ia,ib,ic⟩:=by
  have e:x.f.pc.toNat<b.ins.length:=by omega
  rw [<- hi];simp [cw,e]
 refine ah rfl ?_;refine aS (by simp;omega) ?_;refine aL _ (s25 _ _) ?_;refine au (aU _ _ _ _) ?_;rintro _ _ _ ⟨rfl,rfl,⟨-,rfl⟩|⟨dD,rfl⟩⟩;rotate_left
 ·exfalso;simp at dD;omega
 refine ah (by simp;omega) ?_;refine aF (in4 ⟨12,ia,ib,ic⟩) (by simp [hi2]) ?_;refine ah rfl ?_;refine ah rfl ?_;refine au (aU _ _ _ _) ?_;rintro _ _ _ ⟨rfl,rfl,⟨-,rfl⟩|⟨hno,rfl⟩⟩;rotate_left
 ·exfalso;simp at hno
 refine ah rfl ?_;refine au hS ?_;rintro r h' nx' hD
 cases s with
 | none=>
  obtain ⟨rfl,rfl,y,ask,rfl⟩:=hD;exact cC (cK _ _ _ 1 rfl rfl rfl (fC c b f y ask ⟨12,ia,ib,ic⟩ [] 19 1) (by rw [cG hrun hx.sp1 fh,hi,hst]))
 | some p=>
  obtain ⟨g,a⟩:=p;obtain ⟨rfl,rfl,y,rfl,hmy,rfl⟩:=hD;have hnx:=cO (f0:=f) hx hv b8.2 hrun (by rw [hi];exact hst) hmy (cq hst (by show (12:Int)≠13;decide));exact aW (.at y a) hnx.1 hnx.2 (Weak.eqs [] (by kernel_rfl) (by kernel_rfl) (by kernel_rfl) (by kernel_rfl) (by kernel_rfl) (by kernel_rfl) (by kernel_rfl) (by kernel_rfl) (by kernel_rfl) (by kernel_rfl))
theorem Zg (c:Cd) (b:Bd) (f:Frame) (o:Out) (x:LX) (hm:Mid c b x) (hv:dW x.f) (hrun:runN c b (cy x.f) x.f=o) (Q:ay->St->Prop) (cK:nV f o Q) (hx:Inv c b x) (b8:0<=x.f.pc/\x.f.pc<b.ins.length) (ia ib ic:Int) (hi:cw b x.f=⟨13,ia,ib,ic⟩):WT P0 (cP (bH c b f) (cM c b f o) dq (.at x aJ) Q) (exec loopBody (bH c b f (.at x aJ)) Tree.done):=by
 have hs1:stepS c b x.f ⟨13,ia,ib,ic⟩=cQ c x.f ⟨13,ia,ib,ic⟩:=rfl;have hS:=bO.dup (k:=18) (a:=.var (eR ⟨13,ia,ib,ic⟩)) (z:=.var [.d (I 0),.d (I 0),.d (I 0),.d (I 0)]) (h:=bU c b f x aM) (U6 c b f x ⟨13,ia,ib,ic⟩ hx);rw [<- hs1] at hS;obtain ⟨s,hst⟩:∃s,stepS c b x.f ⟨13,ia,ib,ic⟩=s:=⟨_,rfl⟩
 rw [hst] at hS;have fh:below x.f.pc b.ins.length=true:=by simpa [below] using b8
 have h:=hx.sp1;have hi2:b.ins[x.f.pc.toNat]? = some ⟨13,ia,ib,ic⟩:=by
  have e:x.f.pc.toNat<b.ins.length:=by omega
  rw [<- hi];simp [cw,e]
 refine ah rfl ?_;refine aS (by simp;omega) ?_;refine aL _ (s25 _ _) ?_;refine au (aU _ _ _ _) ?_;rintro _ _ _ ⟨rfl,rfl,⟨-,rfl⟩|⟨dD,rfl⟩⟩;rotate_left
 ·exfalso;simp at dD;omega
 refine ah (by simp;omega) ?_;refine aF (in4 ⟨13,ia,ib,ic⟩) (by simp [hi2]) ?_;refine ah rfl ?_;refine ah rfl ?_;refine au (aU _ _ _ _) ?_;rintro _ _ _ ⟨rfl,rfl,⟨-,rfl⟩|⟨hno,rfl⟩⟩;rotate_left
 ·exfalso;simp at hno
 refine ah rfl ?_;refine au hS ?_;rintro r h' nx' hD
 cases s with
 | none=>
  obtain ⟨rfl,rfl,y,ask,rfl⟩:=hD;exact cC (cK _ _ _ 1 rfl rfl rfl (fC c b f y ask ⟨13,ia,ib,ic⟩ [] 19 1) (by rw [cG hrun hx.sp1 fh,hi,hst]))
 | some p=>
  obtain ⟨g,a⟩:=p;obtain ⟨rfl,rfl,y,rfl,hmy,rfl⟩:=hD;have hk:=Jz (b:=b) (hs1.symm.trans hst);have ho' : o = .ok y.f a:=by rw [cG hrun hx.sp1 fh,hi,hst];simp [hk]
  exact aW (LS.spawned y a) (show cM c b f o (LS.spawned y a) from ⟨hmy,za hv hst,hk,ho'⟩) (by simp [dq,aJ]) (Weak.eqs [(18,19)] (by kernel_rfl) (by kernel_rfl) (by kernel_rfl) (by kernel_rfl) (by kernel_rfl) (by kernel_rfl) (by kernel_rfl) (by kernel_rfl) (by kernel_rfl) (by kernel_rfl))
theorem Zh (c:Cd) (b:Bd) (f:Frame) (o:Out) (x:LX) (hm:Mid c b x) (hv:dW x.f) (hrun:runN c b (cy x.f) x.f=o) (Q:ay->St->Prop) (cK:nV f o Q) (hx:Inv c b x) (b8:0<=x.f.pc/\x.f.pc<b.ins.length) (ia ib ic:Int) (hi:cw b x.f=⟨14,ia,ib,ic⟩):WT P0 (cP (bH c b f) (cM c b f o) dq (.at x aJ) Q) (exec loopBody (bH c b f (.at x aJ)) Tree.done):=by
 have hs1:stepS c b x.f ⟨14,ia,ib,ic⟩=jv x.f:=rfl;have hS:=bO.dup (k:=18) (a:=.var (eR ⟨14,ia,ib,ic⟩)) (z:=.var [.d (I 0),.d (I 0),.d (I 0),.d (I 0)]) (h:=bU c b f x aM) (XU c b f x ⟨14,ia,ib,ic⟩ hx);rw [<- hs1] at hS;obtain ⟨s,hst⟩:∃s,stepS c b x.f ⟨14,ia,ib,ic⟩=s:=⟨_,rfl⟩
 rw [hst] at hS;have fh:below x.f.pc b.ins.length=true:=by simpa [below] using b8
 have h:=hx.sp1;have hi2:b.ins[x.f.pc.toNat]? = some ⟨14,ia,ib,ic⟩:=by
  have e:x.f.pc.toNat<b.ins.length:=by omega
  rw [<- hi];simp [cw,e]
 refine ah rfl ?_;refine aS (by simp;omega) ?_;refine aL _ (s25 _ _) ?_;refine au (aU _ _ _ _) ?_;rintro _ _ _ ⟨rfl,rfl,⟨-,rfl⟩|⟨dD,rfl⟩⟩;rotate_left
 ·exfalso;simp at dD;omega
 refine ah (by simp;omega) ?_;refine aF (in4 ⟨14,ia,ib,ic⟩) (by simp [hi2]) ?_;refine ah rfl ?_;refine ah rfl ?_;refine au (aU _ _ _ _) ?_;rintro _ _ _ ⟨rfl,rfl,⟨-,rfl⟩|⟨hno,rfl⟩⟩;rotate_left
 ·exfalso;simp at hno
 refine ah rfl ?_;refine au hS ?_;rintro r h' nx' hD
 cases s with
 | none=>
  obtain ⟨rfl,rfl,y,ask,rfl⟩:=hD;exact cC (cK _ _ _ 1 rfl rfl rfl (fC c b f y ask ⟨14,ia,ib,ic⟩ [] 19 1) (by rw [cG hrun hx.sp1 fh,hi,hst]))
 | some p=>
  obtain ⟨g,a⟩:=p;obtain ⟨rfl,rfl,y,rfl,hmy,rfl⟩:=hD;have hnx:=cO (f0:=f) hx hv b8.2 hrun (by rw [hi];exact hst) hmy (cq hst (by show (14:Int)≠13;decide));exact aW (.at y a) hnx.1 hnx.2 (Weak.eqs [] (by kernel_rfl) (by kernel_rfl) (by kernel_rfl) (by kernel_rfl) (by kernel_rfl) (by kernel_rfl) (by kernel_rfl) (by kernel_rfl) (by kernel_rfl) (by kernel_rfl))
theorem Zi (c:Cd) (b:Bd) (f:Frame) (o:Out) (x:LX) (hm:Mid c b x) (hv:dW x.f) (hrun:runN c b (cy x.f) x.f=o) (Q:ay->St->Prop) (cK:nV f o Q) (hx:Inv c b x) (b8:0<=x.f.pc/\x.f.pc<b.ins.length) (ia ib ic:Int) (hi:cw b x.f=⟨15,ia,ib,ic⟩):WT P0 (cP (bH c b f) (cM c b f o) dq (.at x aJ) Q) (exec loopBody (bH c b f (.at x aJ)) Tree.done):=by
 have hs1:stepS c b x.f ⟨15,ia,ib,ic⟩=pa b x.f ⟨15,ia,ib,ic⟩:=rfl;have hS:=bO.dup (k:=18) (a:=.var (eR ⟨15,ia,ib,ic⟩)) (z:=.var [.d (I 0),.d (I 0),.d (I 0),.d (I 0)]) (h:=bU c b f x aM) (XV c b f x ⟨15,ia,ib,ic⟩ hx);rw [<- hs1] at hS;obtain ⟨s,hst⟩:∃s,stepS c b x.f ⟨15,ia,ib,ic⟩=s:=⟨_,rfl⟩
 rw [hst] at hS;have fh:below x.f.pc b.ins.length=true:=by simpa [below] using b8
 have h:=hx.sp1;have hi2:b.ins[x.f.pc.toNat]? = some ⟨15,ia,ib,ic⟩:=by
  have e:x.f.pc.toNat<b.ins.length:=by omega
  rw [<- hi];simp [cw,e]
 refine ah rfl ?_;refine aS (by simp;omega) ?_;refine aL _ (s25 _ _) ?_;refine au (aU _ _ _ _) ?_;rintro _ _ _ ⟨rfl,rfl,⟨-,rfl⟩|⟨dD,rfl⟩⟩;rotate_left
 ·exfalso;simp at dD;omega
 refine ah (by simp;omega) ?_;refine aF (in4 ⟨15,ia,ib,ic⟩) (by simp [hi2]) ?_;refine ah rfl ?_;refine ah rfl ?_;refine au (aU _ _ _ _) ?_;rintro _ _ _ ⟨rfl,rfl,⟨-,rfl⟩|⟨hno,rfl⟩⟩;rotate_left
 ·exfalso;simp at hno
 refine ah rfl ?_;refine au hS ?_;rintro r h' nx' hD
 cases s with
 | none=>
  obtain ⟨rfl,rfl,y,ask,rfl⟩:=hD;exact cC (cK _ _ _ 1 rfl rfl rfl (fC c b f y ask ⟨15,ia,ib,ic⟩ [] 19 1) (by rw [cG hrun hx.sp1 fh,hi,hst]))
 | some p=>
  obtain ⟨g,a⟩:=p;obtain ⟨rfl,rfl,y,rfl,hmy,rfl⟩:=hD;have hnx:=cO (f0:=f) hx hv b8.2 hrun (by rw [hi];exact hst) hmy (cq hst (by show (15:Int)≠13;decide));exact aW (.at y a) hnx.1 hnx.2 (Weak.eqs [] (by kernel_rfl) (by kernel_rfl) (by kernel_rfl) (by kernel_rfl) (by kernel_rfl) (by kernel_rfl) (by kernel_rfl) (by kernel_rfl) (by kernel_rfl) (by kernel_rfl))
theorem Zj (c:Cd) (b:Bd) (f:Frame) (o:Out) (x:LX) (hm:Mid c b x) (hv:dW x.f) (hrun:runN c b (cy x.f) x.f=o) (Q:ay->St->Prop) (cK:nV f o Q) (hx:Inv c b x) (b8:0<=x.f.pc/\x.f.pc<b.ins.length) (ia ib ic:Int) (hi:cw b x.f=⟨16,ia,ib,ic⟩):WT P0 (cP (bH c b f) (cM c b f o) dq (.at x aJ) Q) (exec loopBody (bH c b f (.at x aJ)) Tree.done):=by
 have hs1:stepS c b x.f ⟨16,ia,ib,ic⟩=kb b x.f ⟨16,ia,ib,ic⟩:=rfl;have hS:=bO.dup (k:=18) (a:=.var (eR ⟨16,ia,ib,ic⟩)) (z:=.var [.d (I 0),.d (I 0),.d (I 0),.d (I 0)]) (h:=bU c b f x aM) (XW c b f x ⟨16,ia,ib,ic⟩ hx);rw [<- hs1] at hS;obtain ⟨s,hst⟩:∃s,stepS c b x.f ⟨16,ia,ib,ic⟩=s:=⟨_,rfl⟩
 rw [hst] at hS;have fh:below x.f.pc b.ins.length=true:=by simpa [below] using b8
 have h:=hx.sp1;have hi2:b.ins[x.f.pc.toNat]? = some ⟨16,ia,ib,ic⟩:=by
  have e:x.f.pc.toNat<b.ins.length:=by omega
  rw [<- hi];simp [cw,e]
 refine ah rfl ?_;refine aS (by simp;omega) ?_;refine aL _ (s25 _ _) ?_;refine au (aU _ _ _ _) ?_;rintro _ _ _ ⟨rfl,rfl,⟨-,rfl⟩|⟨dD,rfl⟩⟩;rotate_left
 ·exfalso;simp at dD;omega
 refine ah (by simp;omega) ?_;refine aF (in4 ⟨16,ia,ib,ic⟩) (by simp [hi2]) ?_;refine ah rfl ?_;refine ah rfl ?_;refine au (aU _ _ _ _) ?_;rintro _ _ _ ⟨rfl,rfl,⟨-,rfl⟩|⟨hno,rfl⟩⟩;rotate_left
 ·exfalso;simp at hno
 refine ah rfl ?_;refine au hS ?_;rintro r h' nx' hD
 cases s with
 | none=>
  obtain ⟨rfl,rfl,y,ask,rfl⟩:=hD;exact cC (cK _ _ _ 1 rfl rfl rfl (fC c b f y ask ⟨16,ia,ib,ic⟩ [] 19 1) (by rw [cG hrun hx.sp1 fh,hi,hst]))
 | some p=>
  obtain ⟨g,a⟩:=p;obtain ⟨rfl,rfl,y,rfl,hmy,rfl⟩:=hD;have hnx:=cO (f0:=f) hx hv b8.2 hrun (by rw [hi];exact hst) hmy (cq hst (by show (16:Int)≠13;decide));exact aW (.at y a) hnx.1 hnx.2 (Weak.eqs [] (by kernel_rfl) (by kernel_rfl) (by kernel_rfl) (by kernel_rfl) (by kernel_rfl) (by kernel_rfl) (by kernel_rfl) (by kernel_rfl) (by kernel_rfl) (by kernel_rfl))
theorem Zk (c:Cd) (b:Bd) (f:Frame) (o:Out) (x:LX) (hm:Mid c b x) (hv:dW x.f) (hrun:runN c b (cy x.f) x.f=o) (Q:ay->St->Prop) (cK:nV f o Q) (hx:Inv c b x) (b8:0<=x.f.pc/\x.f.pc<b.ins.length) (ia ib ic:Int) (hi:cw b x.f=⟨17,ia,ib,ic⟩):WT P0 (cP (bH c b f) (cM c b f o) dq (.at x aJ) Q) (exec loopBody (bH c b f (.at x aJ)) Tree.done):=by
 have hs1:stepS c b x.f ⟨17,ia,ib,ic⟩=uG x.f:=rfl;have hS:=bO.dup (k:=18) (a:=.var (eR ⟨17,ia,ib,ic⟩)) (z:=.var [.d (I 0),.d (I 0),.d (I 0),.d (I 0)]) (h:=bU c b f x aM) (Y3 c b f x ⟨17,ia,ib,ic⟩ hx);rw [<- hs1] at hS;obtain ⟨s,hst⟩:∃s,stepS c b x.f ⟨17,ia,ib,ic⟩=s:=⟨_,rfl⟩
 rw [hst] at hS;have fh:below x.f.pc b.ins.length=true:=by simpa [below] using b8
 have h:=hx.sp1;have hi2:b.ins[x.f.pc.toNat]? = some ⟨17,ia,ib,ic⟩:=by
  have e:x.f.pc.toNat<b.ins.length:=by omega
  rw [<- hi];simp [cw,e]
 refine ah rfl ?_;refine aS (by simp;omega) ?_;refine aL _ (s25 _ _) ?_;refine au (aU _ _ _ _) ?_;rintro _ _ _ ⟨rfl,rfl,⟨-,rfl⟩|⟨dD,rfl⟩⟩;rotate_left
 ·exfalso;simp at dD;omega
 refine ah (by simp;omega) ?_;refine aF (in4 ⟨17,ia,ib,ic⟩) (by simp [hi2]) ?_;refine ah rfl ?_;refine ah rfl ?_;refine au (aU _ _ _ _) ?_;rintro _ _ _ ⟨rfl,rfl,⟨-,rfl⟩|⟨hno,rfl⟩⟩;rotate_left
 ·exfalso;simp at hno
 refine ah rfl ?_;refine au hS ?_;rintro r h' nx' hD
 cases s with
 | none=>
  obtain ⟨rfl,rfl,y,ask,rfl⟩:=hD;exact cC (cK _ _ _ 1 rfl rfl rfl (fC c b f y ask ⟨17,ia,ib,ic⟩ [] 19 1) (by rw [cG hrun hx.sp1 fh,hi,hst]))
 | some p=>
  obtain ⟨g,a⟩:=p;obtain ⟨rfl,rfl,y,rfl,hmy,rfl⟩:=hD;have hnx:=cO (f0:=f) hx hv b8.2 hrun (by rw [hi];exact hst) hmy (cq hst (by show (17:Int)≠13;decide));exact aW (.at y a) hnx.1 hnx.2 (Weak.eqs [] (by kernel_rfl) (by kernel_rfl) (by kernel_rfl) (by kernel_rfl) (by kernel_rfl) (by kernel_rfl) (by kernel_rfl) (by kernel_rfl) (by kernel_rfl) (by kernel_rfl))
theorem Zl (c:Cd) (b:Bd) (f:Frame) (o:Out) (x:LX) (hm:Mid c b x) (hv:dW x.f) (hrun:runN c b (cy x.f) x.f=o) (Q:ay->St->Prop) (cK:nV f o Q) (hx:Inv c b x) (b8:0<=x.f.pc/\x.f.pc<b.ins.length) (ia ib ic:Int) (hi:cw b x.f=⟨18,ia,ib,ic⟩):WT P0 (cP (bH c b f) (cM c b f o) dq (.at x aJ) Q) (exec loopBody (bH c b f (.at x aJ)) Tree.done):=by
 have hs1:stepS c b x.f ⟨18,ia,ib,ic⟩=dC x.f:=rfl;have hS:=bO.dup (k:=18) (a:=.var (eR ⟨18,ia,ib,ic⟩)) (z:=.var [.d (I 0),.d (I 0),.d (I 0),.d (I 0)]) (h:=bU c b f x aM) (Si c b f x ⟨18,ia,ib,ic⟩ hx);rw [<- hs1] at hS;obtain ⟨s,hst⟩:∃s,stepS c b x.f ⟨18,ia,ib,ic⟩=s:=⟨_,rfl⟩
 rw [hst] at hS;have fh:below x.f.pc b.ins.length=true:=by simpa [below] using b8
 have h:=hx.sp1;have hi2:b.ins[x.f.pc.toNat]? = some ⟨18,ia,ib,ic⟩:=by
  have e:x.f.pc.toNat<b.ins.length:=by omega
  rw [<- hi];simp [cw,e]
 refine ah rfl ?_;refine aS (by simp;omega) ?_;refine aL _ (s25 _ _) ?_;refine au (aU _ _ _ _) ?_;rintro _ _ _ ⟨rfl,rfl,⟨-,rfl⟩|⟨dD,rfl⟩⟩;rotate_left
 ·exfalso;simp at dD;omega
 refine ah (by simp;omega) ?_;refine aF (in4 ⟨18,ia,ib,ic⟩) (by simp [hi2]) ?_;refine ah rfl ?_;refine ah rfl ?_;refine au (aU _ _ _ _) ?_;rintro _ _ _ ⟨rfl,rfl,⟨-,rfl⟩|⟨hno,rfl⟩⟩;rotate_left
 ·exfalso;simp at hno
 refine ah rfl ?_;refine au hS ?_;rintro r h' nx' hD
 cases s with
 | none=>
  obtain ⟨rfl,rfl,y,ask,rfl⟩:=hD;exact cC (cK _ _ _ 1 rfl rfl rfl (fC c b f y ask ⟨18,ia,ib,ic⟩ [] 19 1) (by rw [cG hrun hx.sp1 fh,hi,hst]))
 | some p=>
  obtain ⟨g,a⟩:=p;obtain ⟨rfl,rfl,y,rfl,hmy,rfl⟩:=hD;have hnx:=cO (f0:=f) hx hv b8.2 hrun (by rw [hi];exact hst) hmy (cq hst (by show (18:Int)≠13;decide));exact aW (.at y a) hnx.1 hnx.2 (Weak.eqs [] (by kernel_rfl) (by kernel_rfl) (by kernel_rfl) (by kernel_rfl) (by kernel_rfl) (by kernel_rfl) (by kernel_rfl) (by kernel_rfl) (by kernel_rfl) (by kernel_rfl))
theorem Zm (c:Cd) (b:Bd) (f:Frame) (o:Out) (x:LX) (hm:Mid c b x) (hv:dW x.f) (hrun:runN c b (cy x.f) x.f=o) (Q:ay->St->Prop) (cK:nV f o Q) (hx:Inv c b x) (b8:0<=x.f.pc/\x.f.pc<b.ins.length) (ia ib ic:Int) (hi:cw b x.f=⟨19,ia,ib,ic⟩):WT P0 (cP (bH c b f) (cM c b f o) dq (.at x aJ) Q) (exec loopBody (bH c b f (.at x aJ)) Tree.done):=by
 have hs1:stepS c b x.f ⟨19,ia,ib,ic⟩=aX (fun x y=>(x+y) / 2) x.f:=rfl;have hS:=bO.dup (k:=18) (a:=.var (eR ⟨19,ia,ib,ic⟩)) (z:=.var [.d (I 0),.d (I 0),.d (I 0),.d (I 0)]) (h:=bU c b f x aM) (XY c b f x ⟨19,ia,ib,ic⟩ hx hv.pop.top hv.top);rw [<- hs1] at hS;obtain ⟨s,hst⟩:∃s,stepS c b x.f ⟨19,ia,ib,ic⟩=s:=⟨_,rfl⟩
 rw [hst] at hS;have fh:below x.f.pc b.ins.length=true:=by simpa [below] using b8
 have h:=hx.sp1;have hi2:b.ins[x.f.pc.toNat]? = some ⟨19,ia,ib,ic⟩:=by
  have e:x.f.pc.toNat<b.ins.length:=by omega
  rw [<- hi];simp [cw,e]
 refine ah rfl ?_;refine aS (by simp;omega) ?_;refine aL _ (s25 _ _) ?_;refine au (aU _ _ _ _) ?_;rintro _ _ _ ⟨rfl,rfl,⟨-,rfl⟩|⟨dD,rfl⟩⟩;rotate_left
 ·exfalso;simp at dD;omega
 refine ah (by simp;omega) ?_;refine aF (in4 ⟨19,ia,ib,ic⟩) (by simp [hi2]) ?_;refine ah rfl ?_;refine ah rfl ?_;refine au (aU _ _ _ _) ?_;rintro _ _ _ ⟨rfl,rfl,⟨-,rfl⟩|⟨hno,rfl⟩⟩;rotate_left
 ·exfalso;simp at hno
 refine ah rfl ?_;refine au hS ?_;rintro r h' nx' hD
 cases s with
 | none=>
  obtain ⟨rfl,rfl,y,ask,rfl⟩:=hD;exact cC (cK _ _ _ 1 rfl rfl rfl (fC c b f y ask ⟨19,ia,ib,ic⟩ [] 19 1) (by rw [cG hrun hx.sp1 fh,hi,hst]))
 | some p=>
  obtain ⟨g,a⟩:=p;obtain ⟨rfl,rfl,y,rfl,hmy,rfl⟩:=hD;have hnx:=cO (f0:=f) hx hv b8.2 hrun (by rw [hi];exact hst) hmy (cq hst (by show (19:Int)≠13;decide));exact aW (.at y a) hnx.1 hnx.2 (Weak.eqs [] (by kernel_rfl) (by kernel_rfl) (by kernel_rfl) (by kernel_rfl) (by kernel_rfl) (by kernel_rfl) (by kernel_rfl) (by kernel_rfl) (by kernel_rfl) (by kernel_rfl))
theorem Zn (c:Cd) (b:Bd) (f:Frame) (o:Out) (x:LX) (hm:Mid c b x) (hv:dW x.f) (hrun:runN c b (cy x.f) x.f=o) (Q:ay->St->Prop) (cK:nV f o Q) (hx:Inv c b x) (b8:0<=x.f.pc/\x.f.pc<b.ins.length) (op ia ib ic:Int) (hi:cw b x.f=⟨op,ia,ib,ic⟩) (hop:op<1\/19<op):WT P0 (cP (bH c b f) (cM c b f o) dq (.at x aJ) Q) (exec loopBody (bH c b f (.at x aJ)) Tree.done):=by
 have hst:stepS c b x.f ⟨op,ia,ib,ic⟩=none:=kp (fun o=>o=none) (fun e=>by simp at e;omega) (fun e=>by simp at e;omega) (fun e=>by simp at e;omega) (fun e=>by simp at e;omega) (fun e=>by simp at e;omega) (fun e=>by simp at e;omega) (fun e=>by simp at e;omega) (fun e=>by simp at e;omega) (fun e=>by simp at e;omega) (fun e=>by simp at e;omega) (fun e=>by simp at e;omega) (fun e=>by simp at e;omega) (fun e=>by simp at e;omega) (fun e=>by simp at e;omega) (fun e=>by simp at e;omega) (fun e=>by simp at e;omega) (fun e=>by simp at e;omega) (fun e=>by simp at e;omega) (fun e=>by simp at e;omega) (fun _=>rfl);have fh:below x.f.pc b.ins.length=true:=by simpa [below] using b8
 have h:=hx.sp1;have hi2:b.ins[x.f.pc.toNat]? = some ⟨op,ia,ib,ic⟩:=by
  have e:x.f.pc.toNat<b.ins.length:=by omega
  rw [<- hi];simp [cw,e]
 refine ah rfl ?_;refine aS (by simp;omega) ?_;refine aL _ (s25 _ _) ?_;refine au (aU _ _ _ _) ?_;rintro _ _ _ ⟨rfl,rfl,⟨-,rfl⟩|⟨dD,rfl⟩⟩;rotate_left
 ·exfalso;simp at dD;omega
 refine ah (by simp;omega) ?_;refine aF (in4 ⟨op,ia,ib,ic⟩) (by simp [hi2]) ?_;have ho' : o = .err 1:=by rw [cG hrun hx.sp1 fh,hi,hst]
 by_cases hop1:1<=op
 ·refine ah (by simp;omega) ?_
  refine ah rfl ?_;refine au (aU _ _ _ _) ?_;rintro _ _ _ ⟨rfl,rfl,⟨hno,rfl⟩|⟨hno,rfl⟩⟩
  ·exfalso;simp at hno;omega
  ·exact cC (cK _ _ _ 1 rfl rfl rfl (Sv c b f x aM ⟨op,ia,ib,ic⟩ [.d (I 0),.d (I 0),.d (I 0),.d (I 0)] 19 1) ho')
 ·refine aS (by simp;omega) ?_
  refine aS rfl ?_;refine au (aU _ _ _ _) ?_;rintro _ _ _ ⟨rfl,rfl,⟨hno,rfl⟩|⟨hno,rfl⟩⟩
  ·exfalso;simp at hno
  ·exact cC (cK _ _ _ 1 rfl rfl rfl (Sv c b f x aM ⟨op,ia,ib,ic⟩ [.d (I 0),.d (I 0),.d (I 0),.d (I 0)] 19 1) ho')
theorem rnd (c:Cd) (b:Bd) (f:Frame) (o:Out) (x:LX) (hm:Mid c b x) (hv:dW x.f) (hrun:runN c b (cy x.f) x.f=o) (Q:ay->St->Prop) (cK:nV f o Q) (h1:b.ins.length<1000) (h2:c.az.length<1000) (h3:c.cells.length<1000):WT P0 (cP (bH c b f) (cM c b f o) dq (.at x aJ) Q) (exec loopBody (bH c b f (.at x aJ)) Tree.done):=by
 have q1:=hm.sp0;have q2:=hm.sp1;have q3:=hm.pc0;by_cases hs:x.f.spent=2000
 ·exact Py c b f o x hm hv hrun Q cK hs
 cases hpc:below x.f.pc b.ins.length with
 | false=>exact Zc c b f o x hm hv hrun Q cK (by omega) hpc
 | true=>
  have b8:0<=x.f.pc/\x.f.pc<b.ins.length:=by simpa [below] using hpc
  have hx:Inv c b x:=hm.inv (by omega) (by omega) h1 h2 h3;obtain ⟨⟨op,ia,ib,ic⟩,hi⟩:∃i,cw b x.f=i:=⟨_,rfl⟩
  by_cases hop:1<=op/\op<20
  ·rcases Sz hop.1 hop.2 with rfl|rfl|rfl|rfl|rfl|rfl|rfl|rfl|rfl|rfl|rfl|rfl|rfl|rfl|rfl|rfl|rfl|rfl|rfl
   ·exact aac c b f o x hm hv hrun Q cK hx b8 ia ib ic hi
   ·exact aad c b f o x hm hv hrun Q cK hx b8 ia ib ic hi
   ·exact aae c b f o x hm hv hrun Q cK hx b8 ia ib ic hi
   ·exact aaf c b f o x hm hv hrun Q cK hx b8 ia ib ic hi
   ·exact aag c b f o x hm hv hrun Q cK hx b8 ia ib ic hi
   ·exact aah c b f o x hm hv hrun Q cK hx b8 ia ib ic hi
   ·exact aai c b f o x hm hv hrun Q cK hx b8 ia ib ic hi
   ·exact aaj c b f o x hm hv hrun Q cK hx b8 ia ib ic hi
   ·exact aak c b f o x hm hv hrun Q cK hx b8 ia ib ic hi
   ·exact Zd c b f o x hm hv hrun Q cK hx b8 ia ib ic hi
   ·exact Ze c b f o x hm hv hrun Q cK hx b8 ia ib ic hi
   ·exact Zf c b f o x hm hv hrun Q cK hx b8 ia ib ic hi
   ·exact Zg c b f o x hm hv hrun Q cK hx b8 ia ib ic hi
   ·exact Zh c b f o x hm hv hrun Q cK hx b8 ia ib ic hi
   ·exact Zi c b f o x hm hv hrun Q cK hx b8 ia ib ic hi
   ·exact Zj c b f o x hm hv hrun Q cK hx b8 ia ib ic hi
   ·exact Zk c b f o x hm hv hrun Q cK hx b8 ia ib ic hi
   ·exact Zl c b f o x hm hv hrun Q cK hx b8 ia ib ic hi
   ·exact Zm c b f o x hm hv hrun Q cK hx b8 ia ib ic hi
  ·exact Zn c b f o x hm hv hrun Q cK hx b8 op ia ib ic hi (by omega)
end Uw.Tryz.Vm
namespace Uw.Tryz.Vm
open Go Uw Uw.Tryz
theorem tL {α:Type} (p:α->Bool) (l:List α) (k:Nat) (h:k<l.length) (hp:p l[k]=false):l.all p=false:=by
 rw [acz];exact ⟨l[k],abg _,by simp [hp]⟩
theorem s22 (c:Cd) (f:Frame) (ht:Tiny c f):Ret P0 C0 [cdD c,bW f] (.bool (right c f)):=by
 have t1:=ht.az;have t2:=ht.loc;have t3:=ht.stack;have t4:=ht.kids;obtain ⟨R,hR⟩:∃R,right c f=R:=⟨_,rfl⟩
 obtain ⟨b,hB⟩:∃b,dp c f=b:=⟨_,rfl⟩
 have hR2:=hR;unfold right at hR2;rw [hB] at hR2;rw [hR];by_cases h1:f.task<1
 ·have e:R=false:=by rw [<- hR2];simp [h1]
  refine ao iV rfl ?_;refine aS (by simp [h1]) ?_;refine ah rfl ?_;refine ah rfl ?_;exact ai rfl rfl rfl rfl (congrArg Dat.bool e.symm)
 cases h2:below f.fn c.az.length with
 | false=>
  have e:R=false:=by rw [<- hR2,h2];simp
  refine ao iV rfl ?_;refine ah (by simp;omega) ?_;refine aL _ (s25 _ _) ?_;refine aS rfl ?_;refine ah (by simp [below] at h2;simp;omega) ?_;exact ai rfl rfl rfl rfl (congrArg Dat.bool e.symm)
 | true=>
 have h2' : 0<=f.fn/\f.fn<c.az.length:=by simpa [below] using h2
 have hlt:f.fn.toNat<c.az.length:=by omega
 have hb:c.az[f.fn.toNat]=b:=by rw [<- hB];simp [dp,hlt]
 have hbi:b.ins.length<1000:=ht.ins _ (by rw [<- hb];exact abg _);have start:∀(Q:ay->St->Prop),True:=fun _=>trivial
 cases h3:below f.pc ((b.ins.length:Int)+1) with
 | false=>
  have e:R=false:=by rw [<- hR2,h3];simp
  refine ao iV rfl ?_;refine ah (by simp;omega) ?_;refine aL _ (s25 _ _) ?_;refine aS rfl ?_;refine aS (by simp;omega) ?_;refine ah (by simp;omega) ?_;refine aF (bdC b) (by simp [hlt,hb]) ?_;refine ah (by simp [inR];omega) ?_;refine aL _ (s25 _ _) ?_;refine aS (by simp [below] at h3;simp;omega) ?_;refine ah rfl ?_;refine aS rfl ?_;refine ah rfl ?_;refine ah rfl ?_;exact ai rfl rfl rfl rfl (congrArg Dat.bool e.symm)
 | true=>
 have h3' : 0<=f.pc/\f.pc<(b.ins.length:Int)+1:=by simpa [below] using h3
 by_cases h4:(f.loc.length:Int)=b.locals
 case neg=>
  have e:R=false:=by rw [<- hR2];simp [h4]
  refine ao iV rfl ?_;refine ah (by simp;omega) ?_;refine aL _ (s25 _ _) ?_;refine aS rfl ?_;refine aS (by simp;omega) ?_;refine ah (by simp;omega) ?_;refine aF (bdC b) (by simp [hlt,hb]) ?_;refine ah (by simp [inR];omega) ?_;refine aL _ (s25 _ _) ?_;refine ah (by simp;omega) ?_;refine aS rfl ?_;refine aS (by simp [h4]) ?_;refine ah rfl ?_;refine ah rfl ?_;exact ai rfl rfl rfl rfl (congrArg Dat.bool e.symm)
 by_cases h5:100<(f.stack.length:Int)
 case pos=>
  have e:R=false:=by rw [<- hR2];simp [h5]
  refine ao iV rfl ?_;refine ah (by simp;omega) ?_;refine aL _ (s25 _ _) ?_;refine aS rfl ?_;refine aS (by simp;omega) ?_;refine ah (by simp;omega) ?_;refine aF (bdC b) (by simp [hlt,hb]) ?_;refine ah (by simp [inR];omega) ?_;refine aL _ (s25 _ _) ?_;refine ah (by simp;omega) ?_;refine aS rfl ?_;refine ah (by simp [h4]) ?_;refine aS rfl ?_;refine ah (by simp;omega) ?_;exact ai rfl rfl rfl rfl (congrArg Dat.bool e.symm)
 have hR3:(f.kids.all (yk b.locals)&&f.loc.all isVal&&f.stack.all isVal&&decide (0<=f.many)&&below f.spent 2001)=R:=by
  rw [<- hR2,h2,h3];have e1:decide (f.task<1)=false:=by simp;omega
  have e4:decide ((f.loc.length:Int)=b.locals)=true:=by simp [h4]
  have e5:decide (100<(f.stack.length:Int))=false:=by simp;omega
  rw [e1,e4,e5];simp
 refine ao iV rfl ?_;refine ah (by simp;omega) ?_;refine aL _ (s25 _ _) ?_;refine aS rfl ?_;refine aS (by simp;omega) ?_;refine ah (by simp;omega) ?_;refine aF (bdC b) (by simp [hlt,hb]) ?_;refine ah (by simp [inR];omega) ?_;refine aL _ (s25 _ _) ?_;refine ah (by simp;omega) ?_;refine aS rfl ?_;refine ah (by simp [h4]) ?_;refine aS rfl ?_;refine aS (by simp;omega) ?_;refine dM (fun k:Int=>⟨[(2,.ptr 0 0),(3,.ptr 1 0),(5,.ptr 2 0),(49,.d (.slice 2 (f.kids.map fN) false)),(50,.d (.int .i64 (f.kids.map fN).length)),(51,.d (.int .i64 k))],[(2,.var (bV b)),(0,.var (V.b9 (cdD c)).cells),(1,.var (V.b9 (bW f)).cells)],3,[],0⟩)
  (fun k=>0<=k/\k<=f.kids.length/\(f.kids.take k.toNat).all (yk b.locals)=true) (fun k=>(f.kids.length - k).toNat) 0 ?_ ⟨by omega,by omega,by simp⟩ ?_
 ·exact Weak.eqs [] (by kernel_rfl) (by kernel_rfl) (by kernel_rfl) (by kernel_rfl) (by kernel_rfl) (by kernel_rfl) (by kernel_rfl) (by kernel_rfl) (by kernel_rfl) (by kernel_rfl)
 ·rintro k ⟨g0,g1,hall⟩
  by_cases hk:k<f.kids.length
  ·refine ah (by simp;omega) ?_
   have hkl:k.toNat<f.kids.length:=by omega
   refine ah (by simp;omega) ?_;refine aF (fN f.kids[k.toNat]) (by simp [hkl]) ?_;by_cases hj:f.kids[k.toNat].1<1
   ·have e:R=false:=by
     rw [<- hR3,tL _ f.kids k.toNat hkl (by simp [yk];omega)];simp
    refine aS (by simp [hj]) ?_;refine ah rfl ?_;refine ah rfl ?_;refine ce ?_;exact ai rfl rfl rfl rfl (congrArg Dat.bool e.symm)
   ·refine ah (by simp;omega) ?_
    refine aL _ (s37 _ _) ?_;refine aS rfl ?_;by_cases hd:dest f.kids[k.toNat].2 b.locals=false
    ·have e:R=false:=by
      rw [<- hR3,tL _ f.kids k.toNat hkl (by simp [yk,hd])];simp
     refine ah (by simp [fN] at hd ⊢;exact hd) ?_;refine ce ?_;exact ai rfl rfl rfl rfl (congrArg Dat.bool e.symm)
    ·have hd:dest f.kids[k.toNat].2 b.locals=true:=by simpa using hd
     refine aS (by simp [fN] at hd ⊢;exact hd) ?_;refine ah (by simp [inR];omega) ?_;refine aW (k+1) ⟨by omega,by omega,?_⟩ (by omega) ?_
     ·rw [show (k+1).toNat=k.toNat+1 by omega,yj _ _ k.toNat hkl,hall]
      simp [yk,hd];omega
     ·exact Weak.eqs [] (by kernel_rfl) (by kernel_rfl) (by kernel_rfl) (by kernel_rfl) (by kernel_rfl) (by kernel_rfl) (by kernel_rfl) (by kernel_rfl) (by kernel_rfl) (by kernel_rfl)
  ·refine aS (by simp;omega) ?_
   refine aZ ?_;rw [aa7 (by omega)] at hall;rw [hall] at hR3;refine aL _ (s26 _ (by omega)) ?_;by_cases hl:f.loc.all isVal=false
   ·have e:R=false:=by rw [<- hR3,hl];simp
    refine aS (by rw [hl];rfl) ?_;refine aS rfl ?_;refine aS rfl ?_;refine aS rfl ?_;refine aS rfl ?_;refine aS rfl ?_;exact ai rfl rfl rfl rfl (congrArg Dat.bool e.symm)
   ·have hl:f.loc.all isVal=true:=by simpa using hl
    refine ah (by rw [hl];rfl) ?_;refine aL _ (s26 _ (by omega)) ?_;refine ah rfl ?_;by_cases hs:f.stack.all isVal=false
    ·have e:R=false:=by rw [<- hR3,hs];simp
     refine aS (by rw [hs];rfl) ?_;refine aS rfl ?_;refine aS rfl ?_;refine aS rfl ?_;exact ai rfl rfl rfl rfl (congrArg Dat.bool e.symm)
    ·have hs:f.stack.all isVal=true:=by simpa using hs
     refine ah (by rw [hs];rfl) ?_;refine ah rfl ?_;by_cases hm:0<=f.many
     ·refine ah (by simpa using hm) ?_
      refine aL _ (s25 _ _) ?_;refine ah rfl ?_;refine ai rfl rfl rfl rfl ?_;rw [<- hR3,hl,hs];simp [fV,hm,below]
     ·have e:R=false:=by rw [<- hR3];simp;omega
      refine aS (by simp;omega) ?_;refine aS rfl ?_;exact ai rfl rfl rfl rfl (congrArg Dat.bool e.symm)
end Uw.Tryz.Vm
namespace Uw.Tryz.Vm
open Go Uw Uw.Tryz
theorem JB {u u' v v' : Dat} (h:u=u') (h2:v=v'):Dat.tuple [u,v,I 0] = .tuple [u',v',I 0]:=by rw [h,h2]
theorem s21 (c:Cd) (f:Frame) (ht:Tiny c f):Ret P0 eE [cdD c,bW f] (Z9 f (cz c f)):=by
 obtain ⟨o,ho⟩:∃o,cz c f=o:=⟨_,rfl⟩
 obtain ⟨b,hB⟩:∃b,dp c f=b:=⟨_,rfl⟩
 rw [ho]
 cases hr:right c f with
 | false=>
  have ho' : o = .err 1:=by rw [<- ho];simp [cz,hr]
  subst ho';refine qP CW rfl ?_;refine aL _ (s22 c f ht) ?_;refine ah (by rw [hr];rfl) ?_;exact aj (.inl ⟨.inr rfl,rfl,_,_,rfl,rfl,rfl,rfl⟩)
 | true=>
 have hr':=hr;simp [right,below] at hr';obtain ⟨⟨⟨⟨⟨⟨hr1,hr2⟩,hr3⟩,hr4⟩,hr5⟩,hr6⟩,hr7⟩:=hr';have hlt:f.fn.toNat<c.az.length:=by omega
 have hb:c.az[f.fn.toNat]=dp c f:=by simp [dp,hlt]
 have hbi:(dp c f).ins.length<1000:=ht.ins _ (by rw [<- hb];exact abg _);have hf1:=ht.az;have hf2:=ht.cells;have hrun0:runN c (dp c f) (cy f) f=cz c f:=by simp [cz,hr]
 rw [ho,hB] at hrun0;rw [hB] at hb hbi hr2 hr3;refine qP CW rfl ?_;refine aL _ (s22 c f ht) ?_;refine aS (by rw [hr];rfl) ?_;refine bq ⟨[(2,.ptr 0 0),(3,.ptr 1 0),(4,.ptr 2 0),(5,.ptr 3 0),(6,.ptr 4 0),(7,.ptr 5 0)],[(5,.var (cV c++bV b++RZ f 6++aM)),(6,.mt 1 1 (rows f.path)),(7,.mt 1 1 (rows f.loc)),(8,.mt 1 1 (rows f.stack)),(9,.mt 2 1 (ep f.kids)),
   (0,.var (V.b9 (cdD c)).cells),(1,.var (V.b9 (bW f)).cells),(2,.var tK),(3,.var aM),(4,.var [.d (I 0)])],10,kq,0⟩ ?_ ?_
 ·refine ah (by simp;omega) ?_
  refine aF (bdC b) (by simp [hlt,hb]) ?_;refine wv ?_ ?_
  ·skip
   refine bM fk rfl ?_;refine au (cA f.path ht.path _ _) ?_;rintro _ _ _ ⟨rfl,rfl,rfl⟩;refine au (cA f.loc ht.loc _ _) ?_;rintro _ _ _ ⟨rfl,rfl,rfl⟩;refine au (cA f.stack ht.stack _ _) ?_;rintro _ _ _ ⟨rfl,rfl,rfl⟩;refine au (mW f.kids ht.kids _ _) ?_;rintro _ _ _ ⟨rfl,rfl,rfl⟩;refine dL rfl rfl ?_
   iterate 5 (refine aP (by kernel_rfl) ?_)
   refine ah (by simp;omega) ?_;refine aF (bdC b) (by simp [hlt,hb]) ?_
   iterate 7 (refine aP (by kernel_rfl) ?_)
   refine ah (by simp;omega) ?_;refine aF (bdC b) (by simp [hlt,hb]) ?_
   iterate 3 (refine aP (by kernel_rfl) ?_)
   refine aj (.inl ⟨rfl,?_⟩);exact Weak.eqs [(5,11),(6,7),(7,8),(8,9),(9,10)] (by kernel_rfl) (by kernel_rfl) (by kernel_rfl) (by kernel_rfl) (by kernel_rfl) (by kernel_rfl) (by kernel_rfl) (by kernel_rfl) (by kernel_rfl) (by kernel_rfl)
  ·skip
   iterate 5 (refine aP (by kernel_rfl) ?_)
   refine ah (by simp;omega) ?_;refine aF (bdC b) (by simp [hlt,hb]) ?_
   iterate 3 (refine aP (by kernel_rfl) ?_)
   refine bM fk rfl ?_;refine au (cA f.path ht.path _ _) ?_;rintro _ _ _ ⟨rfl,rfl,rfl⟩;refine au (cA f.loc ht.loc _ _) ?_;rintro _ _ _ ⟨rfl,rfl,rfl⟩;refine au (cA f.stack ht.stack _ _) ?_;rintro _ _ _ ⟨rfl,rfl,rfl⟩;refine au (mW f.kids ht.kids _ _) ?_;rintro _ _ _ ⟨rfl,rfl,rfl⟩;refine dL rfl rfl ?_
   iterate 5 (refine aP (by kernel_rfl) ?_)
   refine ah (by simp;omega) ?_;refine aF (bdC b) (by simp [hlt,hb]) ?_
   iterate 2 (refine aP (by kernel_rfl) ?_)
   refine aj (.inl ⟨rfl,?_⟩);exact Weak.eqs [(5,5),(6,8),(7,9),(8,10),(9,11)] (by kernel_rfl) (by kernel_rfl) (by kernel_rfl) (by kernel_rfl) (by kernel_rfl) (by kernel_rfl) (by kernel_rfl) (by kernel_rfl) (by kernel_rfl) (by kernel_rfl)
 refine bM I6 rfl ?_
 iterate 6 (refine bM G6 rfl ?_;refine dL rfl rfl ?_)
 refine dL rfl rfl ?_;refine dM (bH c b f) (cM c b f o) dq (.at ⟨f,rows f.stack,f.stack.length,1,rows f.loc⟩ aJ) ?_ ?_ ?_
 ·exact Weak.eqs [] (by kernel_rfl) (by kernel_rfl) (by kernel_rfl) (by kernel_rfl) (by kernel_rfl) (by kernel_rfl) (by kernel_rfl) (by kernel_rfl) (by kernel_rfl) (by kernel_rfl)
 ·have h1:=ht.loc;have h2:=ht.kids
  exact ⟨⟨aa7 (by simp [rows]),rfl,by simp [rows],rfl,by simp only [];omega,by simp only [];omega,by simp only [];omega,by simp only [];omega,by simp only [];omega,h1,h2⟩,⟨abe.2 hr4,abe.2 hr5⟩,.inl ⟨rfl,hrun0⟩⟩
 ·rintro (⟨x,a⟩|⟨x,a⟩)
  ·rintro ⟨hm,hv,⟨rfl,hrun⟩|⟨hk,hk4,hout⟩⟩
   ·refine rnd c b f o x hm hv hrun _ ?_ hbi hf1 hf2
    intro regs h nx e h4 h5 h6 ha ho';subst ho';refine aj (.inr ⟨some (.iface 28 (I e)),52,[],[.ptr 1 0,.ptr 2 0,.ptr 3 0,.ptr 4 0],.inr ⟨_,rfl,rfl⟩,rfl,?_⟩);refine uh.mono ha ?_;rintro _ _ ⟨rfl,rfl⟩;refine ⟨[.agg (V.b9 (bW f)).cells,.agg aM,.d (I e)],_,?_,rfl,rfl,rfl⟩;show resV _ [(.cell 4 true 10),(.cell 5 true 8),(.cell 6 false 1)]=_;simp only [resV,h4,h5,h6];rfl
   ·subst hout
    refine aS (by simpa using hk) ?_;refine aZ ?_;refine bq ⟨[(4,.ptr 2 0),(5,.ptr 3 0),(6,.ptr 4 0)],[(2,.var (frV x)),(3,.var (AV a)),(4,.var [.d (I 0)]),(6,.mt 1 1 (rows x.f.path)),(7,.mt 1 1 x.ls),(8,.mt 1 x.ver x.xs),(9,.mt 2 1 (ep x.f.kids)),(1,.var (V.b9 (bW f)).cells)],18,kq,0⟩ ?_ ?_
    ·iterate 2 (refine aP (by kernel_rfl) ?_)
     refine aj (.inl ⟨rfl,?_⟩);exact Weak.eqs [] (by kernel_rfl) (by kernel_rfl) (by kernel_rfl) (by kernel_rfl) (by kernel_rfl) (by kernel_rfl) (by kernel_rfl) (by kernel_rfl) (by kernel_rfl) (by kernel_rfl)
    ·refine aj (.inr ⟨none,52,[],[.ptr 1 0,.ptr 2 0,.ptr 3 0,.ptr 4 0],.inl ⟨.inr rfl,rfl⟩,rfl,?_⟩)
     refine uh.mono (calm _ _) ?_;rintro _ _ ⟨rfl,rfl⟩;refine ⟨_,_,rfl,rfl,?_,?_⟩
     ·simp [vu,V.cur,V.cur.go,frV,AV,Po,look]
     ·refine JB (FR hm) ?_
      simp [Sr,Np,hk4]
  ·rintro ⟨hm,hv,hk,hout⟩
   subst hout;refine aS (by simp [hk]) ?_;refine aZ ?_;refine bq ⟨[(4,.ptr 2 0),(5,.ptr 3 0),(6,.ptr 4 0)],[(2,.var (frV x)),(3,.var (Po a (.ref 18 0 0 a.args.length))),(4,.var [.d (I 0)]),(6,.mt 1 1 (rows x.f.path)),(7,.mt 1 1 x.ls),(8,.mt 1 x.ver x.xs),(9,.mt 2 1 (ep x.f.kids)),(18,.mt 1 0 (rows a.args)),(1,.var (V.b9 (bW f)).cells)],19,kq,0⟩ ?_ ?_
   ·iterate 2 (refine aP (by kernel_rfl) ?_)
    refine aj (.inl ⟨rfl,?_⟩);exact Weak.eqs [] (by kernel_rfl) (by kernel_rfl) (by kernel_rfl) (by kernel_rfl) (by kernel_rfl) (by kernel_rfl) (by kernel_rfl) (by kernel_rfl) (by kernel_rfl) (by kernel_rfl)
   ·refine aj (.inr ⟨none,52,[],[.ptr 1 0,.ptr 2 0,.ptr 3 0,.ptr 4 0],.inl ⟨.inr rfl,rfl⟩,rfl,?_⟩)
    refine uh.mono (calm _ _) ?_;rintro _ _ ⟨rfl,rfl⟩;refine ⟨_,_,rfl,rfl,?_,?_⟩
    ·simp [vu,V.cur,V.cur.go,frV,AV,Po,look]
    ·refine JB (FR hm) ?_
     rw [abk,aa7 (by simp [rows])];simp [Sr,Np,hk,ae,rows]
end Uw.Tryz.Vm
namespace Uw.Tryz.Vm
open Go Uw Uw.Tryz
def zF:Frame:=⟨0,[],0,0,[],[],[],0,0,false⟩
def Dw (c:Cd) (fn:Int):Bd:=c.az.getD fn.toNat ⟨0,0,[]⟩
def mX (c:Cd) (fn:Int) (args:List Int) (task:Int):Bool:=
 below fn c.az.length&&!decide (task<1)&&args.all isVal&&decide ((Dw c fn).args=args.length)&&!decide ((Dw c fn).locals<(Dw c fn).args)
def gq (c:Cd) (fn:Int) (args:List Int) (task:Int) (path:List Int):Frame:=
 ⟨task,path,fn,0,args++List.replicate ((Dw c fn).locals.toNat - args.length) 0,[],[],0,0,false⟩
def dc (c:Cd) (fn:Int) (args:List Int) (task:Int) (path:List Int):Frame×Int:=
 if mX c fn args task then (gq c fn args task path,0) else (zF,1)
def fJ (p:Frame×Int):Dat:=.tuple [bW p.1,I p.2]
theorem FT {α:Type} (z:α):∀(l:List α) (n:Nat),l.length<=n->place (List.replicate n z) 0 l=l++List.replicate (n - l.length) z
 | [],n,_=>by cases n<;>simp [place]
 | x::l,0,h=>by simp at h
 | x::l,n+1,h=>by
  simp at h;rw [ab9,place,FT z l n h];simp
theorem aal (f:Frame) (k m:Nat) (hk:k=f.path.length) (hm:m=f.loc.length):Dat.agg [I f.task,.slice 1 (((rows f.path).drop 0).take k) false,I f.fn,I f.pc,.slice 1 (((rows f.loc).drop 0).take m) false,.slice 1 (rows f.stack) false,.slice 2 (ep f.kids) false,I f.many,I f.spent,.bool f.fail]=bW f:=by
 subst hk hm;rw [abk,aa7 (by simp [rows]),abk,aa7 (by simp [rows])];rfl
theorem s12 (c:Cd) (fn:Int) (args:List Int) (task:Int) (path:List Int) (h1:c.az.length<1000) (h2:∀b∈c.az,b.locals<1000) (h3:args.length<1000) (h4:path.length<1000) :
  Ret P0 vE [cdD c,I fn,ae args,I task,ae path] (fJ (dc c fn args task path)):=by
 have hz:DLe (.tuple [.agg [I 0,.nil,I 0,I 0,.nil,.nil,.nil,I 0,I 0,.bool false],I 1]) (fJ (zF,1)):=
  .tuple (.cons (.agg (.cons (.refl _) (.cons (.nil _) (.cons (.refl _) (.cons (.refl _) (.cons (.nil _) (.cons (.nil _) (.cons (.nil _) (.refl _))))))))) (.refl _))
 cases b1:below fn c.az.length with
 | false=>
  have e:dc c fn args task path=(zF,1):=by simp [dc,mX,b1]
  rw [e];refine Ret.res ?_ hz;refine ao iU rfl ?_;refine aL _ (s25 _ _) ?_;refine aS (by simp [below] at b1;simp;omega) ?_;refine ah rfl ?_;refine aS rfl ?_;refine ah rfl ?_;refine ah rfl ?_;exact ai rfl rfl rfl rfl rfl
 | true=>
 have b1' : 0<=fn/\fn<c.az.length:=by simpa [below] using b1
 have hlt:fn.toNat<c.az.length:=by omega
 obtain ⟨b,hB⟩:∃b,Dw c fn=b:=⟨_,rfl⟩
 have hb:c.az[fn.toNat]=b:=by rw [<- hB];simp [Dw,hlt]
 have hbl:b.locals<1000:=h2 b (by rw [<- hb];exact abg _);by_cases b2:task<1
 case pos=>
  have e:dc c fn args task path=(zF,1):=by simp [dc,mX,b2]
  rw [e];refine Ret.res ?_ hz;refine ao iU rfl ?_;refine aL _ (s25 _ _) ?_;refine ah (by simp;omega) ?_;refine aS rfl ?_;refine aS (by simp [b2]) ?_;refine ah rfl ?_;refine ah rfl ?_;exact ai rfl rfl rfl rfl rfl
 cases b3:args.all isVal with
 | false=>
  have e:dc c fn args task path=(zF,1):=by simp only [dc,mX,b3];simp
  rw [e];refine Ret.res ?_ hz;refine ao iU rfl ?_;refine aL _ (s25 _ _) ?_;refine ah (by simp;omega) ?_;refine aS rfl ?_;refine ah (by simp [b2]) ?_;refine aL _ (s26 _ (by omega)) ?_;refine aS rfl ?_;refine ah (by rw [b3];rfl) ?_;exact ai rfl rfl rfl rfl rfl
 | true=>
 by_cases b4:b.args=args.length
 case neg=>
  have e:dc c fn args task path=(zF,1):=by simp [dc,mX,hB,b4]
  rw [e];refine Ret.res ?_ hz;refine ao iU rfl ?_;refine aL _ (s25 _ _) ?_;refine ah (by simp;omega) ?_;refine aS rfl ?_;refine ah (by simp [b2]) ?_;refine aL _ (s26 _ (by omega)) ?_;refine aS rfl ?_;refine aS (by rw [b3];rfl) ?_;refine ah (by simp;omega) ?_;refine aF (bdC b) (by simp [hlt,hb]) ?_;refine aS (by simp [b4]) ?_;refine ah rfl ?_;refine ah rfl ?_;exact ai rfl rfl rfl rfl rfl
 by_cases b5:b.locals<b.args
 case pos=>
  have e:dc c fn args task path=(zF,1):=by simp [dc,mX,hB,b5]
  rw [e];refine Ret.res ?_ hz;refine ao iU rfl ?_;refine aL _ (s25 _ _) ?_;refine ah (by simp;omega) ?_;refine aS rfl ?_;refine ah (by simp [b2]) ?_;refine aL _ (s26 _ (by omega)) ?_;refine aS rfl ?_;refine aS (by rw [b3];rfl) ?_;refine ah (by simp;omega) ?_;refine aF (bdC b) (by simp [hlt,hb]) ?_;refine ah (by simp [b4]) ?_;refine aS rfl ?_;refine ah (by simpa using b5) ?_;exact ai rfl rfl rfl rfl rfl
 have e:dc c fn args task path=(gq c fn args task path,0):=by
  have h:mX c fn args task=true:=by
   have e2:decide (task<1)=false:=by simp;omega
   have e4:decide (b.args=(args.length:Int))=true:=by simp [b4]
   have e5:decide (b.locals<b.args)=false:=by simp;omega
   rw [mX,hB,b1,b3,e2,e4,e5];rfl
  rw [dc,if_pos h]
 rw [e];have hrow:(setAt (List.replicate b.locals.toNat [I 0]) 0 ((rows args).take (min b.locals.toNat (rows args).length)))=rows (gq c fn args task path).loc:=by
  have hl:(rows args).length=args.length:=by simp [rows]
  rw [aa7 (by omega),<- av,FT _ _ _ (by omega),hl];simp [gq,hB,rows]
 have hlen:(gq c fn args task path).loc.length=b.locals.toNat:=by
  simp [gq,hB];omega
 have hz2:DLe (.tuple [.agg [I task,.slice 1 (((rows path).drop 0).take path.length) false,I fn,I 0,.slice 1 (((rows (gq c fn args task path).loc).drop 0).take b.locals.toNat) false,.nil,.nil,I 0,I 0,.bool false],I 0]) (fJ (gq c fn args task path,0)):=by
  rw [fJ,<- aal (gq c fn args task path) path.length b.locals.toNat rfl hlen.symm];exact .tuple (.cons (.agg (.cons (.refl _) (.cons (.refl _) (.cons (.refl _) (.cons (.refl _) (.cons (.refl _) (.cons (.nil _) (.cons (.nil _) (.refl _))))))))) (.refl _))
 refine Ret.res ?_ hz2;refine ao iU rfl ?_;refine aL _ (s25 _ _) ?_;refine ah (by simp;omega) ?_;refine aS rfl ?_;refine ah (by simp [b2]) ?_;refine aL _ (s26 _ (by omega)) ?_;refine aS rfl ?_;refine aS (by rw [b3];rfl) ?_;refine ah (by simp;omega) ?_;refine aF (bdC b) (by simp [hlt,hb]) ?_;refine ah (by simp [b4]) ?_;refine aS rfl ?_;refine aS (by simpa using b5) ?_;refine ah (by simp;omega) ?_;refine ah rfl ?_;refine au (cA path h4 _ _) ?_;rintro _ _ _ ⟨rfl,rfl,rfl⟩;refine ai rfl rfl rfl rfl ?_;rw [<- hrow];rfl
theorem s14 (f:Frame) (h1:f.path.length<1000):Ret P0 vH [bW f] (ae (f.path++[f.many])):=by
 refine ao I9 rfl ?_;refine bq ⟨[(2,.ref 1 2 0 (f.path.length+1))],[(1,.mt 1 2 ((rows f.path).take f.path.length++[[I f.many]]))],2,[],0⟩ ?_ ?_
 ·refine au (cA f.path h1 _ _) ?_
  rintro _ _ _ ⟨rfl,rfl,rfl⟩
  iterate 4 (refine aP (by kernel_rfl) ?_)
  refine ah rfl ?_;refine ah (by simp;omega) ?_
  iterate 3 (refine aP (by kernel_rfl) ?_)
  refine aj (.inl ⟨rfl,?_⟩);exact Weak.eqs [] (by kernel_rfl) (by kernel_rfl) (by kernel_rfl) (by kernel_rfl) (by kernel_rfl) (by kernel_rfl) (by kernel_rfl) (by kernel_rfl) (by kernel_rfl) (by kernel_rfl)
 ·refine ai rfl rfl rfl rfl ?_
  show Dat.slice 1 ((((rows f.path).take f.path.length++[[I f.many]]).drop 0).take (f.path.length+1)) false=_;rw [abk,aa7 (by simp [rows]),aa7 (by simp [rows])];simp [rows,ae]
def jP (kind val:Int) (is:Bool):Int:=if is=false then 0 else if kind=1\/kind=5\/kind=7 then cm (val+1) else 1
def opD (k o a b:Int):Dat:=.agg [I k,I o,I a,I b]
theorem s18 (k o a b val:Int) (is:Bool):Ret P0 nC [opD k o a b,I val,.bool is] (I (jP k val is)):=by
 refine ao I8 rfl ?_
 cases is with
 | false=>
  refine ah rfl ?_;exact ai rfl rfl rfl rfl rfl
 | true=>
  refine aS rfl ?_;have fin:∀(h:k=1\/k=5\/k=7),I (cm (val+1))=I (jP k val true):=fun h=>by simp [jP,h]
  refine bE (fun h=>?_) (fun h=>?_)
  ·have h:k=1:=by simpa using h
   refine ah (by simp [h]) ?_;refine bE (fun h2=>?_) (fun h2=>?_)
   ·refine aL _ (s31 _) ?_
    exact ai rfl rfl rfl rfl (fin (.inl h))
   ·refine aL _ (s31 _) ?_
    refine ai rfl rfl rfl rfl ?_;rw [qx];exact fin (.inl h)
  ·have h:¬k=1:=by simpa using h
   refine bE (fun h'=>?_) (fun h'=>?_)
   ·have h' : k=5:=by simpa using h'
    refine ah (by simp [h']) ?_;refine bE (fun h2=>?_) (fun h2=>?_)
    ·refine aL _ (s31 _) ?_
     exact ai rfl rfl rfl rfl (fin (.inr (.inl h')))
    ·refine aL _ (s31 _) ?_
     refine ai rfl rfl rfl rfl ?_;rw [qx];exact fin (.inr (.inl h'))
   ·have h' : ¬k=5:=by simpa using h'
    refine bE (fun h''=>?_) (fun h''=>?_)
    ·have h'' : k=7:=by simpa using h''
     refine bE (fun h2=>?_) (fun h2=>?_)
     ·refine aL _ (s31 _) ?_
      exact ai rfl rfl rfl rfl (fin (.inr (.inr h'')))
     ·refine aL _ (s31 _) ?_
      refine ai rfl rfl rfl rfl ?_;rw [qx];exact fin (.inr (.inr h''))
    ·have h'' : ¬k=7:=by simpa using h''
     refine ai rfl rfl rfl rfl ?_;simp [fV,jP,h,h',h'']
end Uw.Tryz.Vm
namespace Uw.Tryz.Vm
open Go Uw Uw.Tryz
def zb (k a b o1 o2 o3 o4:Int) (d:Dat):Dat:=.agg [I k,I a,I b,I o1,I o2,I o3,I o4,d]
def kc (loc:List Int) (l:List ((Int×Int)×Int)):List Int:=l.foldl (fun l p=>if 0<=p.1.2 then l.set p.1.2.toNat p.2 else l) loc
def iL (f:Frame) (k:Int×Int):Bool:=dest k.2 f.loc.length
def lG (f:Frame) (kind b:Int) (vals:List Int):Bool:=
 if kind=1\/kind=3 then decide (vals.length=1)&&vals.all isVal&&decide (f.stack.length<100)
 else if kind=2 then decide (vals.length=0)
 else if kind=4 then decide (vals.length=1)&&decide (1<=vals.head?.getD 0)&&dest b f.loc.length
 else if kind=5 then decide (vals.length=f.kids.length)&&vals.all isVal&&f.kids.all (iL f)
 else false
def kd (f:Frame) (kind b:Int) (vals:List Int):Frame:=
 if kind=1\/kind=3 then { f with stack:=f.stack++vals }
 else if kind=2 then f
 else if kind=4 then { f with kids:=f.kids++vals.map (fun v=>(v,b)),many:=f.many+1 }
 else { f with loc:=kc f.loc (f.kids.zip vals),kids:=[] }
def aV (f:Frame) (kind b:Int) (vals:List Int):Frame×Int:=if lG f kind b vals then (kd f kind b vals,0) else (f,1)
structure lu (f:Frame):Prop where
 path:f.path.length<1000
 loc:f.loc.length<1000
 stack:f.stack.length<1000
 kids:f.kids.length<1000
 FU : -1000000000<f.many
 many:f.many<1000000000
theorem Bh (f:Frame) (n m:Nat) (xs:List (List Dat)) (ks:List (List Dat)) (p q:Nat) (hp:p=f.path.length) (hq:q=f.loc.length) (hn:(xs.drop 0).take n=rows f.stack) (hm:(ks.drop 0).take m=ep f.kids):Dat.agg [I f.task,.slice 1 (((rows f.path).drop 0).take p) false,I f.fn,I f.pc,.slice 1 (((rows f.loc).drop 0).take q) false,.slice 1 ((xs.drop 0).take n) false,.slice 2 ((ks.drop 0).take m) false,I f.many,I f.spent,.bool f.fail]=bW f:=by
 subst hp hq;rw [hn,hm,abk,aa7 (by simp [rows]),abk,aa7 (by simp [rows])];rfl
theorem ja {l:List Int} {n:Nat} (h:n=l.length):((rows l).drop 0).take n=rows l:=by
 subst h;rw [abk,aa7 (by simp [rows])]
theorem vU {l:List (Int×Int)} {n:Nat} (h:n=l.length):((ep l).drop 0).take n=ep l:=by
 subst h;rw [abk,aa7 (by simp [ep])]
theorem SA (f:Frame) (a b o1 o2 o3 o4:Int) (d:Dat) (vals:List Int) (ht:lu f) (hv:vals.length<1000):Ret P0 dP [bW f,zb 1 a b o1 o2 o3 o4 d,ae vals] (fJ (aV f 1 b vals)):=by
 have t1:=ht.path;have t2:=ht.loc;have t3:=ht.stack;have t4:=ht.kids;have t5:=ht.FU;have t6:=ht.many;obtain ⟨R,hR⟩:∃R,aV f 1 b vals=R:=⟨_,rfl⟩
 rw [hR];unfold aV lG kd at hR;simp at hR;refine ao kl rfl ?_;refine bM fk rfl ?_;refine au (cA f.path ht.path _ _) ?_;rintro _ _ _ ⟨rfl,rfl,rfl⟩;refine au (cA f.loc ht.loc _ _) ?_;rintro _ _ _ ⟨rfl,rfl,rfl⟩;refine au (cA f.stack ht.stack _ _) ?_;rintro _ _ _ ⟨rfl,rfl,rfl⟩;refine au (mW f.kids ht.kids _ _) ?_;rintro _ _ _ ⟨rfl,rfl,rfl⟩;refine dL rfl rfl ?_;refine ah rfl ?_;refine ah rfl ?_;by_cases h1:vals.length=1
 ·refine ah (by simp [h1]) ?_
  refine aL _ (s26 _ (by omega)) ?_;refine ah rfl ?_;by_cases h2:vals.all isVal=true
  ·refine ah (by rw [h2];rfl) ?_
   refine ah rfl ?_;refine ah rfl ?_;refine ah (by simp;omega) ?_;by_cases h3:f.stack.length<100
   ·refine aS (by simp;omega) ?_
    have e:R=({ f with stack:=f.stack++vals },0):=by rw [<- hR,if_pos ⟨⟨h1,by simpa using h2⟩,h3⟩]
    refine ai rfl rfl rfl rfl ?_;rw [e];refine congrArg (fun z=>Dat.tuple [z,I 0]) (Bh { f with stack:=f.stack++vals } _ _ _ _ _ _ rfl rfl ?_ (vU rfl));rw [abk,aa7 (by simp [rows]),aa7 (by simp [rows])];simp [rows]
   ·refine ah (by simp;omega) ?_
    have e:R=(f,1):=by rw [<- hR,if_neg (fun h=>h3 h.2)]
    exact ai rfl rfl rfl rfl (congrArg fJ e.symm)
  ·refine aS (by simp at h2;simp [h2]) ?_
   refine aS rfl ?_;refine ah rfl ?_;refine ah (by simp;omega) ?_;refine ah rfl ?_;have e:R=(f,1):=by rw [<- hR,if_neg (fun h=>h2 (by simpa using h.1.2))]
   exact ai rfl rfl rfl rfl (congrArg fJ e.symm)
 ·refine aS (by simp;omega) ?_
  refine aS rfl ?_;refine aS rfl ?_;refine aS rfl ?_;refine ah rfl ?_;refine ah (by simp;omega) ?_;refine ah rfl ?_;have e:R=(f,1):=by rw [<- hR,if_neg (fun h=>h1 h.1.1)]
  exact ai rfl rfl rfl rfl (congrArg fJ e.symm)
theorem Zo (f:Frame) (a b o1 o2 o3 o4:Int) (d:Dat) (vals:List Int) (ht:lu f) (hv:vals.length<1000):Ret P0 dP [bW f,zb 3 a b o1 o2 o3 o4 d,ae vals] (fJ (aV f 3 b vals)):=by
 have t1:=ht.path;have t2:=ht.loc;have t3:=ht.stack;have t4:=ht.kids;have t5:=ht.FU;have t6:=ht.many;obtain ⟨R,hR⟩:∃R,aV f 3 b vals=R:=⟨_,rfl⟩
 rw [hR];unfold aV lG kd at hR;simp at hR;refine ao kl rfl ?_;refine bM fk rfl ?_;refine au (cA f.path ht.path _ _) ?_;rintro _ _ _ ⟨rfl,rfl,rfl⟩;refine au (cA f.loc ht.loc _ _) ?_;rintro _ _ _ ⟨rfl,rfl,rfl⟩;refine au (cA f.stack ht.stack _ _) ?_;rintro _ _ _ ⟨rfl,rfl,rfl⟩;refine au (mW f.kids ht.kids _ _) ?_;rintro _ _ _ ⟨rfl,rfl,rfl⟩;refine dL rfl rfl ?_;refine aS rfl ?_;refine ah rfl ?_;by_cases h1:vals.length=1
 ·refine ah (by simp [h1]) ?_
  refine aL _ (s26 _ (by omega)) ?_;refine ah rfl ?_;by_cases h2:vals.all isVal=true
  ·refine ah (by rw [h2];rfl) ?_
   refine ah rfl ?_;refine ah rfl ?_;refine ah (by simp;omega) ?_;by_cases h3:f.stack.length<100
   ·refine aS (by simp;omega) ?_
    have e:R=({ f with stack:=f.stack++vals },0):=by rw [<- hR,if_pos ⟨⟨h1,by simpa using h2⟩,h3⟩]
    refine ai rfl rfl rfl rfl ?_;rw [e];refine congrArg (fun z=>Dat.tuple [z,I 0]) (Bh { f with stack:=f.stack++vals } _ _ _ _ _ _ rfl rfl ?_ (vU rfl));rw [abk,aa7 (by simp [rows]),aa7 (by simp [rows])];simp [rows]
   ·refine ah (by simp;omega) ?_
    have e:R=(f,1):=by rw [<- hR,if_neg (fun h=>h3 h.2)]
    exact ai rfl rfl rfl rfl (congrArg fJ e.symm)
  ·refine aS (by simp at h2;simp [h2]) ?_
   refine aS rfl ?_;refine ah rfl ?_;refine ah (by simp;omega) ?_;refine ah rfl ?_;have e:R=(f,1):=by rw [<- hR,if_neg (fun h=>h2 (by simpa using h.1.2))]
   exact ai rfl rfl rfl rfl (congrArg fJ e.symm)
 ·refine aS (by simp;omega) ?_
  refine aS rfl ?_;refine aS rfl ?_;refine aS rfl ?_;refine ah rfl ?_;refine ah (by simp;omega) ?_;refine ah rfl ?_;have e:R=(f,1):=by rw [<- hR,if_neg (fun h=>h1 h.1.1)]
  exact ai rfl rfl rfl rfl (congrArg fJ e.symm)
theorem Zp (f:Frame) (a b o1 o2 o3 o4:Int) (d:Dat) (vals:List Int) (ht:lu f) (hv:vals.length<1000):Ret P0 dP [bW f,zb 2 a b o1 o2 o3 o4 d,ae vals] (fJ (aV f 2 b vals)):=by
 have t1:=ht.path;have t2:=ht.loc;have t3:=ht.stack;have t4:=ht.kids;have t5:=ht.FU;have t6:=ht.many;obtain ⟨R,hR⟩:∃R,aV f 2 b vals=R:=⟨_,rfl⟩
 rw [hR];unfold aV lG kd at hR;simp at hR;refine ao kl rfl ?_;refine bM fk rfl ?_;refine au (cA f.path ht.path _ _) ?_;rintro _ _ _ ⟨rfl,rfl,rfl⟩;refine au (cA f.loc ht.loc _ _) ?_;rintro _ _ _ ⟨rfl,rfl,rfl⟩;refine au (cA f.stack ht.stack _ _) ?_;rintro _ _ _ ⟨rfl,rfl,rfl⟩;refine au (mW f.kids ht.kids _ _) ?_;rintro _ _ _ ⟨rfl,rfl,rfl⟩;refine dL rfl rfl ?_;refine aS rfl ?_;refine aS rfl ?_;refine ah rfl ?_;by_cases h1:vals=[]
 ·refine aS (by simp [h1]) ?_
  have e:R=(f,0):=by rw [<- hR,if_pos h1]
  refine ai rfl rfl rfl rfl ?_;rw [e];exact congrArg (fun z=>Dat.tuple [z,I 0]) (Bh f _ _ _ _ _ _ rfl rfl (ja rfl) (vU rfl))
 ·refine ah (by simp [h1]) ?_
  have e:R=(f,1):=by rw [<- hR,if_neg h1]
  exact ai rfl rfl rfl rfl (congrArg fJ e.symm)
theorem Zq (f:Frame) (k a b o1 o2 o3 o4:Int) (d:Dat) (vals:List Int) (ht:lu f) (hv:vals.length<1000) (hk:k≠1/\k≠2/\k≠3/\k≠4/\k≠5):Ret P0 dP [bW f,zb k a b o1 o2 o3 o4 d,ae vals] (fJ (aV f k b vals)):=by
 have t1:=ht.path;have t2:=ht.loc;have t3:=ht.stack;have t4:=ht.kids;have t5:=ht.FU;have t6:=ht.many;obtain ⟨R,hR⟩:∃R,aV f k b vals=R:=⟨_,rfl⟩
 rw [hR];unfold aV lG kd at hR;obtain ⟨k1,k2,k3,k4,k5⟩:=hk;simp [k1,k2,k3,k4,k5] at hR;refine ao kl rfl ?_;refine bM fk rfl ?_;refine au (cA f.path ht.path _ _) ?_;rintro _ _ _ ⟨rfl,rfl,rfl⟩;refine au (cA f.loc ht.loc _ _) ?_;rintro _ _ _ ⟨rfl,rfl,rfl⟩;refine au (cA f.stack ht.stack _ _) ?_;rintro _ _ _ ⟨rfl,rfl,rfl⟩;refine au (mW f.kids ht.kids _ _) ?_;rintro _ _ _ ⟨rfl,rfl,rfl⟩;refine dL rfl rfl ?_;refine aS (by simp [k1]) ?_;refine aS (by simp [k3]) ?_;refine aS (by simp [k2]) ?_;refine aS (by simp [k4]) ?_;refine aS (by simp [k5]) ?_;refine ah rfl ?_;have e:R=(f,1):=hR.symm;exact ai rfl rfl rfl rfl (congrArg fJ e.symm)
theorem kC (vals:List Int) (b:Int) (k:Nat) (h:k<vals.length):(vals.take (k+1)).map (fun v=>(v,b))=(vals.take k).map (fun v=>(v,b))++[(vals[k],b)]:=by
 rw [abw h,acu];rfl
theorem Zr (f:Frame) (a b o1 o2 o3 o4:Int) (d:Dat) (vals:List Int) (ht:lu f) (hv:vals.length<1000):Ret P0 dP [bW f,zb 4 a b o1 o2 o3 o4 d,ae vals] (fJ (aV f 4 b vals)):=by
 have t1:=ht.path;have t2:=ht.loc;have t3:=ht.stack;have t4:=ht.kids;have t5:=ht.FU;have t6:=ht.many;obtain ⟨R,hR⟩:∃R,aV f 4 b vals=R:=⟨_,rfl⟩
 rw [hR];unfold aV lG kd at hR;simp at hR;refine ao kl rfl ?_;refine bM fk rfl ?_;refine au (cA f.path ht.path _ _) ?_;rintro _ _ _ ⟨rfl,rfl,rfl⟩;refine au (cA f.loc ht.loc _ _) ?_;rintro _ _ _ ⟨rfl,rfl,rfl⟩;refine au (cA f.stack ht.stack _ _) ?_;rintro _ _ _ ⟨rfl,rfl,rfl⟩;refine au (mW f.kids ht.kids _ _) ?_;rintro _ _ _ ⟨rfl,rfl,rfl⟩;refine dL rfl rfl ?_;refine aS rfl ?_;refine aS rfl ?_;refine aS rfl ?_;refine ah rfl ?_;by_cases h1:vals.length=1
 ·have h0:0<vals.length:=by omega
  have hh:vals.head?.getD 0=vals[0]:=by cases vals<;>simp at h0 ⊢
  refine ah (by simp [h1]) ?_;refine ah (by simp [h1]) ?_;refine aF [I vals[0]] (by simp [h0]) ?_;refine ah rfl ?_;by_cases h2:1<=vals.head?.getD 0
  ·refine ah (by rw [hh] at h2;simpa using h2) ?_
   refine aL _ (s37 _ _) ?_;refine ah rfl ?_;by_cases h3:dest b f.loc.length=true
   ·skip
    refine dM (fun x:Int×List (List Dat)×Nat×Nat=>⟨[(2,.d (ae vals)),(3,.ptr 0 0),(4,.ptr 1 0),(6,.ptr 2 0),(8,.ptr 9 0),(9,.d (.bool (dest b (f.loc.map fun n=>[Dat.int .i64 n]).length))),(63,.d (ae vals)),(64,.d (.int .i64 (vals.map fun n=>[Dat.int .i64 n]).length)),(65,.d (I x.1))],
     [(9,.var [.d (I f.task),.ref 5 1 0 f.path.length,.d (I f.fn),.d (I f.pc),.ref 6 1 0 f.loc.length,.ref 7 1 0 f.stack.length,.ref 8 x.2.2.2 0 x.2.2.1,.d (I f.many),.d (I f.spent),.d (.bool f.fail)]),(8,.mt 2 x.2.2.2 x.2.1),(5,.mt 1 1 (rows f.path)),(6,.mt 1 1 (rows f.loc)),(7,.mt 1 1 (rows f.stack)),(0,.var (V.b9 (bW f)).cells),(1,.var (V.b9 (zb 4 a b o1 o2 o3 o4 d)).cells),(2,.var tK)],10,[],0⟩)
     (fun x=>0<=x.1/\x.1<=vals.length/\x.2.2.1=f.kids.length+x.1.toNat/\x.2.1=ep (f.kids++(vals.take x.1.toNat).map (fun v=>(v,b)))) (fun x=>(vals.length - x.1).toNat) (0,ep f.kids,f.kids.length,1) ?_ ⟨by simp,by simp,by simp,by simp⟩ ?_
    ·exact Weak.eqs [] (by kernel_rfl) (by kernel_rfl) (by kernel_rfl) (by kernel_rfl) (by kernel_rfl) (by kernel_rfl) (by kernel_rfl) (by kernel_rfl) (by kernel_rfl) (by kernel_rfl)
    ·rintro ⟨k,xs,n,ver⟩ ⟨g0,g1,hn,hx⟩
     simp only at g0 g1 hn hx;have hxl:xs.length=n:=by rw [hx,hn];simp [ep];omega
     by_cases hk:k<vals.length
     ·have k1:k.toNat<vals.length:=by omega
      refine ah (by simp;omega) ?_;refine ah (by simp;omega) ?_;refine aF [I vals[k.toNat]] (by simp) ?_;refine cB ?_;refine ah (by simp;omega) ?_;refine ah (by simp [inR];omega) ?_;refine aW (k+1,xs.take n++[[I vals[k.toNat],I b]],n+1,ver+1) ⟨by simp only [];omega,by simp only [];omega,by simp only [];omega,?_⟩ (by simp only [];omega) (Weak.eqs [] (by kernel_rfl) (by kernel_rfl) (by kernel_rfl) (by kernel_rfl) (by kernel_rfl) (by kernel_rfl) (by kernel_rfl) (by kernel_rfl) (by kernel_rfl) (by kernel_rfl));simp only [];rw [show (k+1).toNat=k.toNat+1 by omega,kC vals b k.toNat k1,aa7 (by omega),hx];simp [ep,fN]
     ·refine aS (by simp;omega) ?_
      refine aZ ?_;refine ah (by simp [inR];omega) ?_;refine aS (by simp [h3]) ?_;have e:R=({ f with kids:=f.kids++vals.map (fun v=>(v,b)),many:=f.many+1 },0):=by rw [<- hR,if_pos ⟨⟨h1,h2⟩,h3⟩]
      refine ai rfl rfl rfl ?_ ?_
      ·simp [vu,V.cur,V.cur.go,look,put]
      rw [e];refine congrArg (fun z=>Dat.tuple [z,I 0]) (Bh { f with kids:=f.kids++vals.map (fun v=>(v,b)),many:=f.many+1 } _ _ _ _ _ _ rfl rfl (ja rfl) ?_);rw [abk,aa7 (by simp only [];omega),hx,aa7 (by omega)]
   ·skip
    refine dM (fun x:Int×List (List Dat)×Nat×Nat=>⟨[(2,.d (ae vals)),(3,.ptr 0 0),(4,.ptr 1 0),(6,.ptr 2 0),(8,.ptr 9 0),(9,.d (.bool (dest b (f.loc.map fun n=>[Dat.int .i64 n]).length))),(63,.d (ae vals)),(64,.d (.int .i64 (vals.map fun n=>[Dat.int .i64 n]).length)),(65,.d (I x.1))],
     [(9,.var [.d (I f.task),.ref 5 1 0 f.path.length,.d (I f.fn),.d (I f.pc),.ref 6 1 0 f.loc.length,.ref 7 1 0 f.stack.length,.ref 8 x.2.2.2 0 x.2.2.1,.d (I f.many),.d (I f.spent),.d (.bool f.fail)]),(8,.mt 2 x.2.2.2 x.2.1),(5,.mt 1 1 (rows f.path)),(6,.mt 1 1 (rows f.loc)),(7,.mt 1 1 (rows f.stack)),(0,.var (V.b9 (bW f)).cells),(1,.var (V.b9 (zb 4 a b o1 o2 o3 o4 d)).cells),(2,.var tK)],10,[],0⟩)
     (fun x=>0<=x.1/\x.1<=vals.length/\x.2.2.1=f.kids.length+x.1.toNat/\x.2.1=ep (f.kids++(vals.take x.1.toNat).map (fun v=>(v,b)))) (fun x=>(vals.length - x.1).toNat) (0,ep f.kids,f.kids.length,1) ?_ ⟨by simp,by simp,by simp,by simp⟩ ?_
    ·exact Weak.eqs [] (by kernel_rfl) (by kernel_rfl) (by kernel_rfl) (by kernel_rfl) (by kernel_rfl) (by kernel_rfl) (by kernel_rfl) (by kernel_rfl) (by kernel_rfl) (by kernel_rfl)
    ·rintro ⟨k,xs,n,ver⟩ ⟨g0,g1,hn,hx⟩
     simp only at g0 g1 hn hx;have hxl:xs.length=n:=by rw [hx,hn];simp [ep];omega
     by_cases hk:k<vals.length
     ·have k1:k.toNat<vals.length:=by omega
      refine ah (by simp;omega) ?_;refine ah (by simp;omega) ?_;refine aF [I vals[k.toNat]] (by simp) ?_;refine cB ?_;refine ah (by simp;omega) ?_;refine ah (by simp [inR];omega) ?_;refine aW (k+1,xs.take n++[[I vals[k.toNat],I b]],n+1,ver+1) ⟨by simp only [];omega,by simp only [];omega,by simp only [];omega,?_⟩ (by simp only [];omega) (Weak.eqs [] (by kernel_rfl) (by kernel_rfl) (by kernel_rfl) (by kernel_rfl) (by kernel_rfl) (by kernel_rfl) (by kernel_rfl) (by kernel_rfl) (by kernel_rfl) (by kernel_rfl));simp only [];rw [show (k+1).toNat=k.toNat+1 by omega,kC vals b k.toNat k1,aa7 (by omega),hx];simp [ep,fN]
     ·refine aS (by simp;omega) ?_
      refine aZ ?_;refine ah (by simp [inR];omega) ?_;refine ah (by simp [h3]) ?_;have e:R=(f,1):=by rw [<- hR,if_neg (fun h=>h3 h.2)]
      exact ai rfl rfl rfl rfl (congrArg fJ e.symm)
  ·refine aS (by rw [hh] at h2;simp;omega) ?_
   refine aS rfl ?_;refine dM (fun x:Int×List (List Dat)×Nat×Nat=>⟨[(2,.d (ae vals)),(3,.ptr 0 0),(4,.ptr 1 0),(6,.ptr 2 0),(8,.ptr 9 0),(9,.d (.bool (false))),(63,.d (ae vals)),(64,.d (.int .i64 (vals.map fun n=>[Dat.int .i64 n]).length)),(65,.d (I x.1))],
    [(9,.var [.d (I f.task),.ref 5 1 0 f.path.length,.d (I f.fn),.d (I f.pc),.ref 6 1 0 f.loc.length,.ref 7 1 0 f.stack.length,.ref 8 x.2.2.2 0 x.2.2.1,.d (I f.many),.d (I f.spent),.d (.bool f.fail)]),(8,.mt 2 x.2.2.2 x.2.1),(5,.mt 1 1 (rows f.path)),(6,.mt 1 1 (rows f.loc)),(7,.mt 1 1 (rows f.stack)),(0,.var (V.b9 (bW f)).cells),(1,.var (V.b9 (zb 4 a b o1 o2 o3 o4 d)).cells),(2,.var tK)],10,[],0⟩)
    (fun x=>0<=x.1/\x.1<=vals.length/\x.2.2.1=f.kids.length+x.1.toNat/\x.2.1=ep (f.kids++(vals.take x.1.toNat).map (fun v=>(v,b)))) (fun x=>(vals.length - x.1).toNat) (0,ep f.kids,f.kids.length,1) ?_ ⟨by simp,by simp,by simp,by simp⟩ ?_
   ·exact Weak.eqs [] (by kernel_rfl) (by kernel_rfl) (by kernel_rfl) (by kernel_rfl) (by kernel_rfl) (by kernel_rfl) (by kernel_rfl) (by kernel_rfl) (by kernel_rfl) (by kernel_rfl)
   ·rintro ⟨k,xs,n,ver⟩ ⟨g0,g1,hn,hx⟩
    simp only at g0 g1 hn hx;have hxl:xs.length=n:=by rw [hx,hn];simp [ep];omega
    by_cases hk:k<vals.length
    ·have k1:k.toNat<vals.length:=by omega
     refine ah (by simp;omega) ?_;refine ah (by simp;omega) ?_;refine aF [I vals[k.toNat]] (by simp) ?_;refine cB ?_;refine ah (by simp;omega) ?_;refine ah (by simp [inR];omega) ?_;refine aW (k+1,xs.take n++[[I vals[k.toNat],I b]],n+1,ver+1) ⟨by simp only [];omega,by simp only [];omega,by simp only [];omega,?_⟩ (by simp only [];omega) (Weak.eqs [] (by kernel_rfl) (by kernel_rfl) (by kernel_rfl) (by kernel_rfl) (by kernel_rfl) (by kernel_rfl) (by kernel_rfl) (by kernel_rfl) (by kernel_rfl) (by kernel_rfl));simp only [];rw [show (k+1).toNat=k.toNat+1 by omega,kC vals b k.toNat k1,aa7 (by omega),hx];simp [ep,fN]
    ·refine aS (by simp;omega) ?_
     refine aZ ?_;refine ah (by simp [inR];omega) ?_;refine ah (by simp) ?_;have e:R=(f,1):=by rw [<- hR,if_neg (fun h=>h2 h.1.2)]
     exact ai rfl rfl rfl rfl (congrArg fJ e.symm)
 ·refine aS (by simp;omega) ?_
  refine aS rfl ?_;refine aS rfl ?_;refine aS rfl ?_;refine dM (fun x:Int×List (List Dat)×Nat×Nat=>⟨[(2,.d (ae vals)),(3,.ptr 0 0),(4,.ptr 1 0),(6,.ptr 2 0),(8,.ptr 9 0),(9,.d (.bool (false))),(63,.d (ae vals)),(64,.d (.int .i64 (vals.map fun n=>[Dat.int .i64 n]).length)),(65,.d (I x.1))],
   [(9,.var [.d (I f.task),.ref 5 1 0 f.path.length,.d (I f.fn),.d (I f.pc),.ref 6 1 0 f.loc.length,.ref 7 1 0 f.stack.length,.ref 8 x.2.2.2 0 x.2.2.1,.d (I f.many),.d (I f.spent),.d (.bool f.fail)]),(8,.mt 2 x.2.2.2 x.2.1),(5,.mt 1 1 (rows f.path)),(6,.mt 1 1 (rows f.loc)),(7,.mt 1 1 (rows f.stack)),(0,.var (V.b9 (bW f)).cells),(1,.var (V.b9 (zb 4 a b o1 o2 o3 o4 d)).cells),(2,.var tK)],10,[],0⟩)
   (fun x=>0<=x.1/\x.1<=vals.length/\x.2.2.1=f.kids.length+x.1.toNat/\x.2.1=ep (f.kids++(vals.take x.1.toNat).map (fun v=>(v,b)))) (fun x=>(vals.length - x.1).toNat) (0,ep f.kids,f.kids.length,1) ?_ ⟨by simp,by simp,by simp,by simp⟩ ?_
  ·exact Weak.eqs [] (by kernel_rfl) (by kernel_rfl) (by kernel_rfl) (by kernel_rfl) (by kernel_rfl) (by kernel_rfl) (by kernel_rfl) (by kernel_rfl) (by kernel_rfl) (by kernel_rfl)
  ·rintro ⟨k,xs,n,ver⟩ ⟨g0,g1,hn,hx⟩
   simp only at g0 g1 hn hx;have hxl:xs.length=n:=by rw [hx,hn];simp [ep];omega
   by_cases hk:k<vals.length
   ·have k1:k.toNat<vals.length:=by omega
    refine ah (by simp;omega) ?_;refine ah (by simp;omega) ?_;refine aF [I vals[k.toNat]] (by simp) ?_;refine cB ?_;refine ah (by simp;omega) ?_;refine ah (by simp [inR];omega) ?_;refine aW (k+1,xs.take n++[[I vals[k.toNat],I b]],n+1,ver+1) ⟨by simp only [];omega,by simp only [];omega,by simp only [];omega,?_⟩ (by simp only [];omega) (Weak.eqs [] (by kernel_rfl) (by kernel_rfl) (by kernel_rfl) (by kernel_rfl) (by kernel_rfl) (by kernel_rfl) (by kernel_rfl) (by kernel_rfl) (by kernel_rfl) (by kernel_rfl));simp only [];rw [show (k+1).toNat=k.toNat+1 by omega,kC vals b k.toNat k1,aa7 (by omega),hx];simp [ep,fN]
   ·refine aS (by simp;omega) ?_
    refine aZ ?_;refine ah (by simp [inR];omega) ?_;refine ah (by simp) ?_;have e:R=(f,1):=by rw [<- hR,if_neg (fun h=>h1 h.1.1)]
    exact ai rfl rfl rfl rfl (congrArg fJ e.symm)
theorem FV (loc:List Int) (l:List ((Int×Int)×Int)) (k:Nat) (h:k<l.length):kc loc (l.take (k+1))=(if 0<=l[k].1.2 then (kc loc (l.take k)).set l[k].1.2.toNat l[k].2 else kc loc (l.take k)):=by
 rw [abw h,kc,List.foldl_append];rfl
theorem tM (loc:List Int):∀(l:List ((Int×Int)×Int)),(kc loc l).length=loc.length:=by
 intro l
 induction l generalizing loc with
 | nil=>rfl
 | cons p l ih=>
  show (kc (if 0<=p.1.2 then loc.set p.1.2.toNat p.2 else loc) l).length=_;rw [ih];split<;>simp
theorem JC (l:List Int) (k:Nat) (v:Int):(rows l).set k [I v]=rows (l.set k v):=by simp [rows,abI]
theorem told5 (f:Frame) (a b o1 o2 o3 o4:Int) (d:Dat) (vals:List Int) (ht:lu f) (hv:vals.length<1000):Ret P0 dP [bW f,zb 5 a b o1 o2 o3 o4 d,ae vals] (fJ (aV f 5 b vals)):=by
 have t1:=ht.path;have t2:=ht.loc;have t3:=ht.stack;have t4:=ht.kids;have t5:=ht.FU;have t6:=ht.many;obtain ⟨R,hR⟩:∃R,aV f 5 b vals=R:=⟨_,rfl⟩
 rw [hR];unfold aV lG kd at hR;simp at hR;obtain ⟨R0,hR0⟩:∃R0,(decide (vals.length=f.kids.length)&&vals.all isVal)=R0:=⟨_,rfl⟩
 have hbad:∀R1:Bool,R1=(R0&&f.kids.all (iL f))->R1=false->R=(f,1):=by
  intro R1 h1 h2;rw [<- hR,if_neg];intro h;rw [hR0] at h;rw [h2,h] at h1;cases h1
 have hgood:R0=true->f.kids.all (iL f)=true->R=({ f with loc:=kc f.loc (f.kids.zip vals),kids:=[] },0)/\vals.length=f.kids.length:=by
  intro h1 h2;rw [<- hR0] at h1;have h1' : vals.length=f.kids.length/\∀x∈vals,isVal x=true:=by rw [aa5,decide_eq_true_eq,abe] at h1;exact h1
  exact ⟨by rw [<- hR,if_pos (by rw [hR0,<- hR0,h1,h2];rfl)],h1'.1⟩
 have hlen0:R0=true->vals.length=f.kids.length:=by
  intro h1;rw [<- hR0,aa5,decide_eq_true_eq] at h1;exact h1.1
 obtain ⟨D,hD⟩:∃D,D=(if (R0&&f.kids.all (iL f))=true then Dat.tuple [.agg [I f.task,.slice 1 (rows f.path) false,I f.fn,I f.pc,.slice 1 (rows (kc f.loc (f.kids.zip vals))) false,.slice 1 (rows f.stack) false,.nil,I f.many,I f.spent,.bool f.fail],I 0] else fJ (f,1)):=⟨_,rfl⟩
 have hle:DLe D (fJ R):=by
  by_cases hc:(R0&&f.kids.all (iL f))=true
  ·have hc':=hc;rw [aa5] at hc'
   rw [hD,if_pos hc,(hgood hc'.1 hc'.2).1];exact .tuple (.cons (.agg (.cons (.refl _) (.cons (.refl _) (.cons (.refl _) (.cons (.refl _) (.cons (.refl _) (.cons (.refl _) (.cons (.nil _) (.refl _))))))))) (.refl _))
  ·rw [hD,if_neg hc,hbad _ rfl (by simpa using hc)];exact .refl _
 refine Ret.res (r:=D) ?_ hle;refine ao kl rfl ?_;refine bM fk rfl ?_;refine au (cA f.path ht.path _ _) ?_;rintro _ _ _ ⟨rfl,rfl,rfl⟩;refine au (cA f.loc ht.loc _ _) ?_;rintro _ _ _ ⟨rfl,rfl,rfl⟩;refine au (cA f.stack ht.stack _ _) ?_;rintro _ _ _ ⟨rfl,rfl,rfl⟩;refine au (mW f.kids ht.kids _ _) ?_;rintro _ _ _ ⟨rfl,rfl,rfl⟩;refine dL rfl rfl ?_;refine aS rfl ?_;refine aS rfl ?_;refine aS rfl ?_;refine aS rfl ?_;refine ah rfl ?_;by_cases h1:vals.length=f.kids.length
 ·refine ah (by simp [h1]) ?_
  refine aL _ (s26 _ (by omega)) ?_;refine ah rfl ?_;refine dM (fun x:Int×Bool×List (List Dat)=>⟨[(2,.d (ae vals)),(3,.ptr 0 0),(4,.ptr 1 0),(6,.ptr 2 0),(8,.ptr 9 0),(9,.d (.bool x.2.1)),(97,.d (.slice 2 (f.kids.map fN) false)),(98,.d (.int .i64 (f.kids.map fN).length)),(99,.d (I x.1))],
   [(9,.var [.d (I f.task),.ref 5 1 0 f.path.length,.d (I f.fn),.d (I f.pc),.ref 6 1 0 f.loc.length,.ref 7 1 0 f.stack.length,.d .nil,.d (I f.many),.d (I f.spent),.d (.bool f.fail)]),(5,.mt 1 1 (rows f.path)),(6,.mt 1 1 x.2.2),(7,.mt 1 1 (rows f.stack)),(0,.var (V.b9 (bW f)).cells),(1,.var (V.b9 (zb 5 a b o1 o2 o3 o4 d)).cells),(2,.var tK)],10,[],0⟩)
   (fun x=>0<=x.1/\x.1<=f.kids.length/\x.2.2.length=f.loc.length/\x.2.1=(R0&&(f.kids.take x.1.toNat).all (iL f))/\(x.2.1=true->x.2.2=rows (kc f.loc ((f.kids.zip vals).take x.1.toNat)))) (fun x=>(f.kids.length - x.1).toNat) (0,vals.all isVal,rows f.loc) ?_ ⟨by simp,by simp,by simp [rows],by rw [<- hR0,decide_eq_true h1];simp,fun _=>by simp [kc]⟩ ?_
  ·exact Weak.eqs [] (by kernel_rfl) (by kernel_rfl) (by kernel_rfl) (by kernel_rfl) (by kernel_rfl) (by kernel_rfl) (by kernel_rfl) (by kernel_rfl) (by kernel_rfl) (by kernel_rfl)
  ·rintro ⟨k,rt,ls⟩ ⟨g0,g1,g2,g3,g4⟩
   simp only at g0 g1 g2 g3 g4;by_cases hk:k<f.kids.length
   ·have k1:k.toNat<f.kids.length:=by omega
    have hall:∀r:Bool,r=(rt&&iL f f.kids[k.toNat])->r=(R0&&(f.kids.take (k+1).toNat).all (iL f)):=by
     intro r hr;rw [hr,g3,show (k+1).toNat=k.toNat+1 by omega,yj _ _ _ k1,Bool.and_assoc]
    cases rt with
    | false=>
     refine ah (by simp;omega) ?_;refine ah (by simp;omega) ?_;refine aF (fN f.kids[k.toNat]) (by rw [abE,aa9 k1];rfl) ?_;refine aS rfl ?_;refine aS rfl ?_;refine aS rfl ?_;refine aS rfl ?_;refine aS rfl ?_;refine ah (by simp [inR];omega) ?_;exact aW (k+1,false,ls) ⟨by simp only [];omega,by simp only [];omega,g2,hall _ (by simp),by simp⟩ (by simp only [];omega) (Weak.eqs [] (by kernel_rfl) (by kernel_rfl) (by kernel_rfl) (by kernel_rfl) (by kernel_rfl) (by kernel_rfl) (by kernel_rfl) (by kernel_rfl) (by kernel_rfl) (by kernel_rfl))
    | true=>
     have hr0:R0=true:=by have g3':=g3.symm;rw [aa5] at g3';exact g3'.1
     have hvl:=hlen0 hr0;have k2:k.toNat<vals.length:=by omega
     have kz:k.toNat<(f.kids.zip vals).length:=by simp;omega
     have ez:(f.kids.zip vals)[k.toNat]=(f.kids[k.toNat],vals[k.toNat]):=by simp
     have hls:=g4 rfl;have hsucc:=FV f.loc (f.kids.zip vals) k.toNat kz;rw [ez] at hsucc;have ek:(k+1).toNat=k.toNat+1:=by omega
     rw [<- ek] at hsucc;refine ah (by simp;omega) ?_;refine ah (by simp;omega) ?_;refine aF (fN f.kids[k.toNat]) (by rw [abE,aa9 k1];rfl) ?_;refine ah rfl ?_;refine aL _ (s37 _ _) ?_;refine ah rfl ?_;by_cases hd:dest f.kids[k.toNat].2 f.loc.length=true
     ·refine ah (by simpa using hd) ?_
      refine ah rfl ?_;have JD:=hall (dest f.kids[k.toNat].2 (f.loc.map fun n=>[Dat.int .i64 n]).length) (by simp [iL]);by_cases hp:0<=f.kids[k.toNat].2
      ·have hd2:f.kids[k.toNat].2<f.loc.length:=by simp [dest,below] at hd;omega
       have hd3:f.kids[k.toNat].2.toNat<ls.length:=by omega
       refine ah (by simpa using hp) ?_;refine ah (by simp;omega) ?_;refine aF [I vals[k.toNat]] (by simp) ?_;refine ah rfl ?_;refine ah (by simp;omega) ?_;refine ah rfl ?_;refine aF [I ((kc f.loc ((f.kids.zip vals).take k.toNat)).getD f.kids[k.toNat].2.toNat 0)] (by rw [hls];exact y7 (by rw [tM];omega) (by simp)) ?_;refine ah (by simp [inR];omega) ?_;refine aW (k+1,dest f.kids[k.toNat].2 (f.loc.map fun n=>[Dat.int .i64 n]).length,ls.set (0+f.kids[k.toNat].2.toNat) [I vals[k.toNat]]) ⟨by simp only [];omega,by simp only [];omega,by simp [g2],JD,fun _=>?_⟩ (by simp only [];omega) (Weak.eqs [] (by kernel_rfl) (by kernel_rfl) (by kernel_rfl) (by kernel_rfl) (by kernel_rfl) (by kernel_rfl) (by kernel_rfl) (by kernel_rfl) (by kernel_rfl) (by kernel_rfl));simp only [];rw [hsucc,if_pos hp,hls,abt,JC]
      ·refine aS (by simpa using hp) ?_
       refine ah (by simp [inR];omega) ?_;refine aW (k+1,dest f.kids[k.toNat].2 (f.loc.map fun n=>[Dat.int .i64 n]).length,ls) ⟨by simp only [];omega,by simp only [];omega,g2,JD,fun _=>?_⟩ (by simp only [];omega) (Weak.eqs [] (by kernel_rfl) (by kernel_rfl) (by kernel_rfl) (by kernel_rfl) (by kernel_rfl) (by kernel_rfl) (by kernel_rfl) (by kernel_rfl) (by kernel_rfl) (by kernel_rfl));simp only [];rw [hsucc,if_neg hp,hls]
     ·have hd' : dest f.kids[k.toNat].2 f.loc.length=false:=by simpa using hd
      refine aS (by simpa using hd') ?_;refine aS rfl ?_;refine aS rfl ?_;refine ah (by simp [inR];omega) ?_;exact aW (k+1,dest f.kids[k.toNat].2 (f.loc.map fun n=>[Dat.int .i64 n]).length,ls) ⟨by simp only [];omega,by simp only [];omega,g2,hall _ (by simp [iL]),fun h=>by simp [hd'] at h⟩ (by simp only [];omega) (Weak.eqs [] (by kernel_rfl) (by kernel_rfl) (by kernel_rfl) (by kernel_rfl) (by kernel_rfl) (by kernel_rfl) (by kernel_rfl) (by kernel_rfl) (by kernel_rfl) (by kernel_rfl))
   ·have hke:f.kids.take k.toNat=f.kids:=aa7 (by omega)
    rw [hke] at g3
    cases rt with
    | false=>
     refine aS (by simp;omega) ?_;refine aZ ?_;refine ah rfl ?_;exact ai rfl rfl rfl rfl (by rw [hD,if_neg (by rw [<- g3];simp)];rfl)
    | true=>
     have g3':=g3.symm;rw [aa5] at g3';obtain ⟨e,hvl⟩:=hgood g3'.1 g3'.2;have hls:=g4 rfl;rw [aa7 (by simp;omega)] at hls;refine aS (by simp;omega) ?_;refine aZ ?_;refine aS rfl ?_;refine ai rfl rfl rfl rfl ?_;rw [hD,if_pos g3.symm];show Dat.tuple [.agg [_,.slice 1 (((rows f.path).drop 0).take f.path.length) false,_,_,.slice 1 ((ls.drop 0).take f.loc.length) false,.slice 1 (((rows f.stack).drop 0).take f.stack.length) false,_,_,_,_],_]=_;rw [ja rfl,ja rfl,hls,ja (by rw [tM])]
 ·refine aS (by simp;omega) ?_
  refine aS rfl ?_;refine dM (fun x:Int×Bool×List (List Dat)=>⟨[(2,.d (ae vals)),(3,.ptr 0 0),(4,.ptr 1 0),(6,.ptr 2 0),(8,.ptr 9 0),(9,.d (.bool x.2.1)),(97,.d (.slice 2 (f.kids.map fN) false)),(98,.d (.int .i64 (f.kids.map fN).length)),(99,.d (I x.1))],
   [(9,.var [.d (I f.task),.ref 5 1 0 f.path.length,.d (I f.fn),.d (I f.pc),.ref 6 1 0 f.loc.length,.ref 7 1 0 f.stack.length,.d .nil,.d (I f.many),.d (I f.spent),.d (.bool f.fail)]),(5,.mt 1 1 (rows f.path)),(6,.mt 1 1 x.2.2),(7,.mt 1 1 (rows f.stack)),(0,.var (V.b9 (bW f)).cells),(1,.var (V.b9 (zb 5 a b o1 o2 o3 o4 d)).cells),(2,.var tK)],10,[],0⟩)
   (fun x=>0<=x.1/\x.1<=f.kids.length/\x.2.2.length=f.loc.length/\x.2.1=(R0&&(f.kids.take x.1.toNat).all (iL f))/\(x.2.1=true->x.2.2=rows (kc f.loc ((f.kids.zip vals).take x.1.toNat)))) (fun x=>(f.kids.length - x.1).toNat) (0,false,rows f.loc) ?_ ⟨by simp,by simp,by simp [rows],by rw [<- hR0,decide_eq_false h1];simp,fun _=>by simp [kc]⟩ ?_
  ·exact Weak.eqs [] (by kernel_rfl) (by kernel_rfl) (by kernel_rfl) (by kernel_rfl) (by kernel_rfl) (by kernel_rfl) (by kernel_rfl) (by kernel_rfl) (by kernel_rfl) (by kernel_rfl)
  ·rintro ⟨k,rt,ls⟩ ⟨g0,g1,g2,g3,g4⟩
   simp only at g0 g1 g2 g3 g4;by_cases hk:k<f.kids.length
   ·have k1:k.toNat<f.kids.length:=by omega
    have hall:∀r:Bool,r=(rt&&iL f f.kids[k.toNat])->r=(R0&&(f.kids.take (k+1).toNat).all (iL f)):=by
     intro r hr;rw [hr,g3,show (k+1).toNat=k.toNat+1 by omega,yj _ _ _ k1,Bool.and_assoc]
    cases rt with
    | false=>
     refine ah (by simp;omega) ?_;refine ah (by simp;omega) ?_;refine aF (fN f.kids[k.toNat]) (by rw [abE,aa9 k1];rfl) ?_;refine aS rfl ?_;refine aS rfl ?_;refine aS rfl ?_;refine aS rfl ?_;refine aS rfl ?_;refine ah (by simp [inR];omega) ?_;exact aW (k+1,false,ls) ⟨by simp only [];omega,by simp only [];omega,g2,hall _ (by simp),by simp⟩ (by simp only [];omega) (Weak.eqs [] (by kernel_rfl) (by kernel_rfl) (by kernel_rfl) (by kernel_rfl) (by kernel_rfl) (by kernel_rfl) (by kernel_rfl) (by kernel_rfl) (by kernel_rfl) (by kernel_rfl))
    | true=>
     have hr0:R0=true:=by have g3':=g3.symm;rw [aa5] at g3';exact g3'.1
     have hvl:=hlen0 hr0;have k2:k.toNat<vals.length:=by omega
     have kz:k.toNat<(f.kids.zip vals).length:=by simp;omega
     have ez:(f.kids.zip vals)[k.toNat]=(f.kids[k.toNat],vals[k.toNat]):=by simp
     have hls:=g4 rfl;have hsucc:=FV f.loc (f.kids.zip vals) k.toNat kz;rw [ez] at hsucc;have ek:(k+1).toNat=k.toNat+1:=by omega
     rw [<- ek] at hsucc;refine ah (by simp;omega) ?_;refine ah (by simp;omega) ?_;refine aF (fN f.kids[k.toNat]) (by rw [abE,aa9 k1];rfl) ?_;refine ah rfl ?_;refine aL _ (s37 _ _) ?_;refine ah rfl ?_;by_cases hd:dest f.kids[k.toNat].2 f.loc.length=true
     ·refine ah (by simpa using hd) ?_
      refine ah rfl ?_;have JD:=hall (dest f.kids[k.toNat].2 (f.loc.map fun n=>[Dat.int .i64 n]).length) (by simp [iL]);by_cases hp:0<=f.kids[k.toNat].2
      ·have hd2:f.kids[k.toNat].2<f.loc.length:=by simp [dest,below] at hd;omega
       have hd3:f.kids[k.toNat].2.toNat<ls.length:=by omega
       refine ah (by simpa using hp) ?_;refine ah (by simp;omega) ?_;refine aF [I vals[k.toNat]] (by simp) ?_;refine ah rfl ?_;refine ah (by simp;omega) ?_;refine ah rfl ?_;refine aF [I ((kc f.loc ((f.kids.zip vals).take k.toNat)).getD f.kids[k.toNat].2.toNat 0)] (by rw [hls];exact y7 (by rw [tM];omega) (by simp)) ?_;refine ah (by simp [inR];omega) ?_;refine aW (k+1,dest f.kids[k.toNat].2 (f.loc.map fun n=>[Dat.int .i64 n]).length,ls.set (0+f.kids[k.toNat].2.toNat) [I vals[k.toNat]]) ⟨by simp only [];omega,by simp only [];omega,by simp [g2],JD,fun _=>?_⟩ (by simp only [];omega) (Weak.eqs [] (by kernel_rfl) (by kernel_rfl) (by kernel_rfl) (by kernel_rfl) (by kernel_rfl) (by kernel_rfl) (by kernel_rfl) (by kernel_rfl) (by kernel_rfl) (by kernel_rfl));simp only [];rw [hsucc,if_pos hp,hls,abt,JC]
      ·refine aS (by simpa using hp) ?_
       refine ah (by simp [inR];omega) ?_;refine aW (k+1,dest f.kids[k.toNat].2 (f.loc.map fun n=>[Dat.int .i64 n]).length,ls) ⟨by simp only [];omega,by simp only [];omega,g2,JD,fun _=>?_⟩ (by simp only [];omega) (Weak.eqs [] (by kernel_rfl) (by kernel_rfl) (by kernel_rfl) (by kernel_rfl) (by kernel_rfl) (by kernel_rfl) (by kernel_rfl) (by kernel_rfl) (by kernel_rfl) (by kernel_rfl));simp only [];rw [hsucc,if_neg hp,hls]
     ·have hd' : dest f.kids[k.toNat].2 f.loc.length=false:=by simpa using hd
      refine aS (by simpa using hd') ?_;refine aS rfl ?_;refine aS rfl ?_;refine ah (by simp [inR];omega) ?_;exact aW (k+1,dest f.kids[k.toNat].2 (f.loc.map fun n=>[Dat.int .i64 n]).length,ls) ⟨by simp only [];omega,by simp only [];omega,g2,hall _ (by simp [iL]),fun h=>by simp [hd'] at h⟩ (by simp only [];omega) (Weak.eqs [] (by kernel_rfl) (by kernel_rfl) (by kernel_rfl) (by kernel_rfl) (by kernel_rfl) (by kernel_rfl) (by kernel_rfl) (by kernel_rfl) (by kernel_rfl) (by kernel_rfl))
   ·have hke:f.kids.take k.toNat=f.kids:=aa7 (by omega)
    rw [hke] at g3
    cases rt with
    | false=>
     refine aS (by simp;omega) ?_;refine aZ ?_;refine ah rfl ?_;exact ai rfl rfl rfl rfl (by rw [hD,if_neg (by rw [<- g3];simp)];rfl)
    | true=>
     have g3':=g3.symm;rw [aa5] at g3';obtain ⟨e,hvl⟩:=hgood g3'.1 g3'.2;have hls:=g4 rfl;rw [aa7 (by simp;omega)] at hls;refine aS (by simp;omega) ?_;refine aZ ?_;refine aS rfl ?_;refine ai rfl rfl rfl rfl ?_;rw [hD,if_pos g3.symm];show Dat.tuple [.agg [_,.slice 1 (((rows f.path).drop 0).take f.path.length) false,_,_,.slice 1 ((ls.drop 0).take f.loc.length) false,.slice 1 (((rows f.stack).drop 0).take f.stack.length) false,_,_,_,_],_]=_;rw [ja rfl,ja rfl,hls,ja (by rw [tM])]
end Uw.Tryz.Vm
namespace Uw.Tryz.Vm
open Go Uw Uw.Tryz
theorem s23 (f:Frame) (k a b o1 o2 o3 o4:Int) (d:Dat) (vals:List Int) (ht:lu f) (hv:vals.length<1000):Ret P0 dP [bW f,zb k a b o1 o2 o3 o4 d,ae vals] (fJ (aV f k b vals)):=by
 by_cases h1:k=1
 ·subst h1;exact SA f a b o1 o2 o3 o4 d vals ht hv
 by_cases h2:k=2
 ·subst h2;exact Zp f a b o1 o2 o3 o4 d vals ht hv
 by_cases h3:k=3
 ·subst h3;exact Zo f a b o1 o2 o3 o4 d vals ht hv
 by_cases h4:k=4
 ·subst h4;exact Zr f a b o1 o2 o3 o4 d vals ht hv
 by_cases h5:k=5
 ·subst h5;exact told5 f a b o1 o2 o3 o4 d vals ht hv
 exact Zq f k a b o1 o2 o3 o4 d vals ht hv ⟨h1,h2,h3,h4,h5⟩
theorem LM (f:Frame) (a:Ask) (vals:List Int) (ht:lu f) (hv:vals.length<1000):Ret P0 dP [bW f,Sr a,ae vals] (fJ (aV f a.kind a.b vals)):=s23 f a.kind a.a a.b a.op.1 a.op.2.1 a.op.2.2.1 a.op.2.2.2 (Np a) vals ht hv
end Uw.Tryz.Vm
namespace Uw.Tryz.El
open Go Uw Uw.Tryz
structure Zs where
 aK:Int
 task:List Int
 thing:Int
 obj:Int
 op:Op4
 val:Int
 is:Bool
 deriving DecidableEq,Inhabited
structure Spl where
 kind:Int
 a:Int
 b:Int
 c:Int
 d:Int
 deriving DecidableEq,Inhabited
def eS (u:Zs):List Dat:=[I u.aK,ae u.task,I u.thing,I u.obj,I u.op.kind,I u.op.obj,I u.op.a,I u.op.b,I u.val,.bool u.is]
def ix (s:Spl):List Dat:=[I s.kind,I s.a,I s.b,I s.c,I s.d]
structure Wd where
 cells:List Int
 maps:List Cont
 stacks:List Cont
 chans:List Cont
 uses:List Zs
 splits:List Spl
 aB:Int
 values:List Int
 steps:Int
 fails:List (List Int)
structure aaE where
 m:Nat
 s:Nat
 c:Nat
 v:Nat
 f:Nat
abbrev cdV (c:Cd):List V:=[.d (.slice 3 (c.az.map bdC) false),.d (ae c.cells),.d (I c.maps),.d (I c.stacks),.d (I c.chans),.d (I c.main)]
def bu (l:List Int):List (List Dat):=l.map fun i=>[I i]
def cN (l:List (List Int)):List (List Dat):=l.map fun i=>[ae i]
abbrev wG (C:List V) (xc:Nat) (rc:List (List Dat)) (gm xm:Nat) (rm:List (List Dat)) (gs xs:Nat) (rs:List (List Dat)) (gc xh:Nat) (rh:List (List Dat)) (xu:Nat) (ru:List (List Dat)) (xp:Nat) (rp:List (List Dat)) (st:Int) (gv xv:Nat) (rv:List (List Dat)) (sp:Int) (gf xf:Nat) (rf:List (List Dat)):List Blk:=
 [.var (C++[.ref 1 1 0 xc,.d .nil,.ref 2 gm 0 xm,.ref 3 gs 0 xs,.ref 4 gc 0 xh,.ref 5 0 0 xu,.ref 6 0 0 xp,.d (I st),.ref 7 gv 0 xv,.d (I sp),.ref 8 gf 0 xf]),.mt 1 1 rc,.mt 3 gm rm,.mt 3 gs rs,.mt 3 gc rh,.arr 10 ru,.arr 5 rp,.mt 1 gv rv,.mt 1 gf rf]
abbrev frV (f:Vm.Frame):V:=.agg [.d (I f.task),.d (ae f.path),.d (I f.fn),.d (I f.pc),.d (ae f.loc),.d (ae f.stack),.d (.slice 2 (f.kids.map Vm.fN) false),.d (I f.many),.d (I f.spent),.d (.bool f.fail)]
def pd (w:Wd) (path:List Int) (aK cell:Int):Wd:={ w with uses:=w.uses++[⟨aK,path,0,cell,⟨0,0,0,0⟩,w.cells.getD cell.toNat 0,false⟩] }
def iM (w:Wd) (path:List Int) (aK cell val:Int):Wd:={ w with cells:=w.cells.set cell.toNat val,uses:=w.uses++[⟨aK,path,0,cell,⟨1,0,val,0⟩,0,false⟩] }
def jQ (w:Wd) (kids:List (Int×Int)) (aK block:Int):Wd×Int:=if kids=[] then (w,aK) else ({ w with splits:=w.splits++[⟨3,aK,0,0,block⟩] },block)
def SB (w:Wd) (aK join:Int) (named:Bool):Spl:=⟨1,aK,w.aB,w.aB+1,if named then join else w.aB+2⟩
def cH (w:Wd) (aK join:Int) (named:Bool):Wd:={ w with aB:=if named then w.aB+2 else w.aB+3,splits:=w.splits++[SB w aK join named] }
theorem Bf {l:List Int} {k:Int} (h0:0<=k) (h:k<l.length):(bu l)[k.toNat]? = some [I (l.getD k.toNat 0)]:=by
 have h1:k.toNat<l.length:=by omega
 simp [bu,h1]
theorem X2 (C1 C2 C3 C4 C5 C6:Dat) (xc:Nat) (rc:List (List Dat)) (gm xm:Nat) (rm:List (List Dat)) (gs xs:Nat) (rs:List (List Dat)) (gc xh:Nat) (rh:List (List Dat)) (xu:Nat) (ru:List (List Dat)) (xp:Nat) (rp:List (List Dat)) (st:Int) (gv xv:Nat) (rv:List (List Dat)) (sp:Int) (gf xf:Nat) (rf:List (List Dat))
  (f1 f3 f4 f8 f9:Int) (f5 f6 f7:Dat) (f10:Bool) (p:List Int) (aK cell v:Int) (h0:0<=cell) (h1:cell<xc) (hrc:rc.length=xc) (e1:rc[0+cell.toNat]? = some [I v]) (hu:xu<1000000) (hru:ru.length=xu) (hp:p.length<1000000) :
  eP P0 iH [.ptr 0 0,.agg [.d (I f1),.d (ae p),.d (I f3),.d (I f4),.d f5,.d f6,.d f7,.d (I f8),.d (I f9),.d (.bool f10)],.d (I aK),.d (I cell)] (wG [.d C1,.d C2,.d C3,.d C4,.d C5,.d C6] xc rc gm xm rm gs xs rs gc xh rh xu ru xp rp st gv xv rv sp gf xf rf)
   (.d (.slice 1 [[I v]] true)) (wG [.d C1,.d C2,.d C3,.d C4,.d C5,.d C6] xc rc gm xm rm gs xs rs gc xh rh (xu+1) (ru++[eS ⟨aK,p,0,cell,⟨0,0,0,0⟩,v,false⟩]) xp rp st gv xv rv sp gf xf rf):=by
 have hc:=dm p hp;refine dB uo rfl ?_
 repeat refine aw ?_
 refine bq ⟨[(9,.d (I v))],bk 0 (wG [.d C1,.d C2,.d C3,.d C4,.d C5,.d C6] xc rc gm xm rm gs xs rs gc xh rh (xu+1) (ru++[eS ⟨aK,p,0,cell,⟨0,0,0,0⟩,v,false⟩]) xp rp st gv xv rv sp gf xf rf),9,[],9⟩ ?_ ?_
 ·repeat refine aw ?_
  exact aj (.inl ⟨rfl,by exact Uw.wM⟩)
 repeat refine aw ?_
 refine dh 9 rfl rfl ?_;exact Uw.wM
end Uw.Tryz.El
namespace Uw.Tryz.El
open Go Uw Uw.Tryz
variable {C1 C2 C3 C4 C5 C6 : Dat} {xc : Nat} {rc : List (List Dat)} {gm xm : Nat} {rm : List (List Dat)} {gs xs : Nat} {rs : List (List Dat)} {gc xh : Nat} {rh : List (List Dat)} {xu : Nat} {ru : List (List Dat)} {xp : Nat} {rp : List (List Dat)} {st : Int} {gv xv : Nat} {rv : List (List Dat)} {sp : Int} {gf xf : Nat} {rf : List (List Dat)}
 {f1 f3 f4 f8 f9:Int} {f5 f6 f7:Dat} {f10:Bool} {p:List Int}
abbrev fA (f1:Int) (p:List Int) (f3 f4:Int) (f5 f6 f7:Dat) (f8 f9:Int) (f10:Bool):V:=.agg [.d (I f1),.d (ae p),.d (I f3),.d (I f4),.d f5,.d f6,.d f7,.d (I f8),.d (I f9),.d (.bool f10)]
theorem U7 (aK cell v u:Int) (h0:0<=cell) (h1:cell<xc) (hrc:rc.length=xc) (e1:rc[0+cell.toNat]? = some [I u]) (hu:xu<1000000) (hru:ru.length=xu) (hp:p.length<1000000) :
  eP P0 gY [.ptr 0 0,fA f1 p f3 f4 f5 f6 f7 f8 f9 f10,.d (I aK),.d (I cell),.d (I v)] (wG [.d C1,.d C2,.d C3,.d C4,.d C5,.d C6] xc rc gm xm rm gs xs rs gc xh rh xu ru xp rp st gv xv rv sp gf xf rf)
   (.tuple []) (wG [.d C1,.d C2,.d C3,.d C4,.d C5,.d C6] xc (rc.set (0+cell.toNat) [I v]) gm xm rm gs xs rs gc xh rh (xu+1) (ru++[eS ⟨aK,p,0,cell,⟨1,0,v,0⟩,0,false⟩]) xp rp st gv xv rv sp gf xf rf):=by
 have hc:=dm p hp;refine dB sH rfl ?_
 repeat refine aw ?_
 refine bq ⟨[],bk 0 (wG [.d C1,.d C2,.d C3,.d C4,.d C5,.d C6] xc (rc.set (0+cell.toNat) [I v]) gm xm rm gs xs rs gc xh rh (xu+1) (ru++[eS ⟨aK,p,0,cell,⟨1,0,v,0⟩,0,false⟩]) xp rp st gv xv rv sp gf xf rf),9,[],9⟩ ?_ ?_
 ·repeat refine aw ?_
  exact aj (.inl ⟨rfl,by exact Uw.wM⟩)
 refine wB 9 rfl rfl ?_;exact Uw.wM
theorem U8 (aK block:Int) (kids:List (List Dat)) (hk:kids≠[]) (hx:xp<1000000) (hrp:rp.length=xp) :
  eP P0 iJ [.ptr 0 0,fA f1 p f3 f4 f5 f6 (.slice 2 kids false) f8 f9 f10,.d (I aK),.d (I block)] (wG [.d C1,.d C2,.d C3,.d C4,.d C5,.d C6] xc rc gm xm rm gs xs rs gc xh rh xu ru xp rp st gv xv rv sp gf xf rf)
   (.d (I block)) (wG [.d C1,.d C2,.d C3,.d C4,.d C5,.d C6] xc rc gm xm rm gs xs rs gc xh rh xu ru (xp+1) (rp++[ix ⟨3,aK,0,0,block⟩]) st gv xv rv sp gf xf rf):=by
 have hl:¬((kids.length:Nat):Int)=0:=by cases kids<;>simp_all;omega
 refine dB uw rfl ?_
 repeat refine aw ?_
 refine dh 9 rfl rfl ?_;exact Uw.wM
theorem X3 (aK join:Int) (named:Bool) (hx:xp<1000000) (hrp:rp.length=xp) (h0:0<=st) (h1:st<1000000) :
  eP P0 iI [.ptr 0 0,.d (I aK),.d (I join),.d (.bool named)] (wG [.d C1,.d C2,.d C3,.d C4,.d C5,.d C6] xc rc gm xm rm gs xs rs gc xh rh xu ru xp rp st gv xv rv sp gf xf rf)
   (.agg ((ix ⟨1,aK,st,st+1,if named then join else st+2⟩).map V.d)) (wG [.d C1,.d C2,.d C3,.d C4,.d C5,.d C6] xc rc gm xm rm gs xs rs gc xh rh xu ru (xp+1) (rp++[ix ⟨1,aK,st,st+1,if named then join else st+2⟩]) (if named then st+2 else st+3) gv xv rv sp gf xf rf):=by
 cases named with
 | true=>
  refine dB lP rfl ?_
  repeat refine aw ?_
  refine bq ⟨[(0,.ptr 0 0),(1,.d (I aK)),(2,.d (I join)),(3,.d (.bool true)),(8,.ptr 9 0),(9,.ptr 10 0)],bk 0 (wG [.d C1,.d C2,.d C3,.d C4,.d C5,.d C6] xc rc gm xm rm gs xs rs gc xh rh xu ru xp rp st gv xv rv sp gf xf rf++[.var [.d (I 0),.d (I 0),.d (I 0),.d (I 0),.d (I 0)],.var [.d (I 1),.d (I aK),.d (I st),.d (I (st+1)),.d (I join)]]),11,[],9⟩ ?_ ?_
  ·repeat refine aw ?_
   exact aj (.inl ⟨rfl,by exact Uw.wM⟩)
  repeat refine aw ?_
  refine bq ⟨[(8,.ptr 9 0),(9,.ptr 10 0)],bk 0 (wG [.d C1,.d C2,.d C3,.d C4,.d C5,.d C6] xc rc gm xm rm gs xs rs gc xh rh xu ru (xp+1) (rp++[ix ⟨1,aK,st,st+1,join⟩]) (st+2) gv xv rv sp gf xf rf++[.var [.d (I 0),.d (I 0),.d (I 0),.d (I 0),.d (I 0)],.var [.d (I 1),.d (I aK),.d (I st),.d (I (st+1)),.d (I join)]]),11,[],9⟩ ?_ ?_
  ·repeat refine aw ?_
   exact aj (.inl ⟨rfl,by exact Uw.wM⟩)
  repeat refine aw ?_
  refine dh 9 rfl rfl ?_;exact Uw.wM
 | false=>
  refine dB lP rfl ?_
  repeat refine aw ?_
  refine bq ⟨[(0,.ptr 0 0),(1,.d (I aK)),(2,.d (I join)),(3,.d (.bool false)),(8,.ptr 9 0),(9,.ptr 10 0)],bk 0 (wG [.d C1,.d C2,.d C3,.d C4,.d C5,.d C6] xc rc gm xm rm gs xs rs gc xh rh xu ru xp rp st gv xv rv sp gf xf rf++[.var [.d (I 0),.d (I 0),.d (I 0),.d (I 0),.d (I 0)],.var [.d (I 1),.d (I aK),.d (I st),.d (I (st+1)),.d (I join)]]),11,[],9⟩ ?_ ?_
  ·repeat refine aw ?_
   exact aj (.inl ⟨rfl,by exact Uw.wM⟩)
  repeat refine aw ?_
  refine bq ⟨[(8,.ptr 9 0),(9,.ptr 10 0)],bk 0 (wG [.d C1,.d C2,.d C3,.d C4,.d C5,.d C6] xc rc gm xm rm gs xs rs gc xh rh xu ru (xp+1) (rp++[ix ⟨1,aK,st,st+1,st+2⟩]) (st+3) gv xv rv sp gf xf rf++[.var [.d (I 0),.d (I 0),.d (I 0),.d (I 0),.d (I 0)],.var [.d (I 1),.d (I aK),.d (I st),.d (I (st+1)),.d (I (st+2))]]),11,[],9⟩ ?_ ?_
  ·repeat refine aw ?_
   exact aj (.inl ⟨rfl,by exact Uw.wM⟩)
  repeat refine aw ?_
  refine dh 9 rfl rfl ?_;exact Uw.wM
end Uw.Tryz.El
namespace Uw.Tryz.El
open Go Uw Uw.Tryz
variable {C1 C2 C3 C4 C5 C6 : Dat} {xc : Nat} {rc : List (List Dat)} {gm xm : Nat} {rm : List (List Dat)} {gs xs : Nat} {rs : List (List Dat)} {gc xh : Nat} {rh : List (List Dat)} {xu : Nat} {ru : List (List Dat)} {xp : Nat} {rp : List (List Dat)} {st : Int} {gv xv : Nat} {rv : List (List Dat)} {sp : Int} {gf xf : Nat} {rf : List (List Dat)}
 {f1 f3 f4 f8 f9:Int} {f5 f6 f7:Dat} {f10:Bool} {p:List Int}
theorem U9 (kids:List (Int×Int)) (vs:List Int) (hk:kids.length<1000) (hv:∀(j:Nat) (h:j<kids.length),1<=kids[j].1/\kids[j].1<=xv/\rv[0+(kids[j].1 - 1).toNat]? = some [I (vs.getD j 0)]) (hl:vs.length=kids.length) (hrv:rv.length=xv) (hx:xv<1000000) :
  eP P0 g7 [.ptr 0 0,fA f1 p f3 f4 f5 f6 (.slice 2 (kids.map Vm.fN) false) f8 f9 f10] (wG [.d C1,.d C2,.d C3,.d C4,.d C5,.d C6] xc rc gm xm rm gs xs rs gc xh rh xu ru xp rp st gv xv rv sp gf xf rf)
   (.ref 10 0 0 kids.length) ((wG [.d C1,.d C2,.d C3,.d C4,.d C5,.d C6] xc rc gm xm rm gs xs rs gc xh rh xu ru xp rp st gv xv rv sp gf xf rf)++[.var [.d (I f1),.d (ae p),.d (I f3),.d (I f4),.d f5,.d f6,.d (.slice 2 (kids.map Vm.fN) false),.d (I f8),.d (I f9),.d (.bool f10)],.arr 1 (bu vs)]):=by
 have hm:(kids.map Vm.fN).length=kids.length:=by simp
 have he:∀(j:Nat) (h:j<kids.length),(kids.map Vm.fN)[(j:Int).toNat]? = some [I kids[j].1,I kids[j].2]:=fun j h=>by simp [h,Vm.fN]
 have hs:∀(j:Nat) (h:j<kids.length),bu (vs.take (j+1))=bu (vs.take j)++(List.replicate 1 [Dat.int IntKind.i64 0]).set 0 [I (vs.getD j 0)]:=fun j h=>by
  have h2:j<vs.length:=by omega
  have e:vs.take (j+1)=vs.take j++[vs.getD j 0]:=by
   rw [List.take_add_one,aa9 h2,acn,aa9 h2];rfl
  unfold bu;rw [e,acu];rfl
 have hn:∀(j:Nat) (h:j<=kids.length),(bu (vs.take j)).length=j:=fun j h=>by simp [bu];omega
 have hz:bu (vs.take kids.length)=bu vs:=by rw [aa7 (by omega)]
 have h00:bu (vs.take 0)=[]:=rfl;refine dB sJ rfl ?_
 repeat refine aw ?_
 refine eU kids.length (fun j=>⟨[(11,.d (I j)),(10,.d (I (((kids.map Vm.fN).length:Nat):Int))),(9,.d (.slice 2 (kids.map Vm.fN) false)),(5,.ref 10 0 0 j),(0,.ptr 0 0)],bk 0 ((wG [.d C1,.d C2,.d C3,.d C4,.d C5,.d C6] xc rc gm xm rm gs xs rs gc xh rh xu ru xp rp st gv xv rv sp gf xf rf)++[.var [.d (I f1),.d (ae p),.d (I f3),.d (I f4),.d f5,.d f6,.d (.slice 2 (kids.map Vm.fN) false),.d (I f8),.d (I f9),.d (.bool f10)],.arr 1 (bu (vs.take j))]),11,[],9⟩) (fun j=>True) ?_ (fun _=>?_) (fun j hj _=>?_)
 ·exact Uw.wM
 ·rw [hz]
  repeat refine aw ?_
  refine aZ ?_
  repeat refine aw ?_
  refine dh 9 rfl rfl ?_;exact Uw.wM
 ·have e1:=he j hj
  obtain ⟨v1,v2,v3⟩:=hv j hj;have e4:=(hs j hj).symm;have e5:=hn j (by omega);clear he hv hs hn hz h00;generalize kids[j].1=k1 at *;generalize kids[j].2=k2 at *;generalize vs.getD j 0=v at *;generalize bu (vs.take j)=r0 at *
  repeat refine aw ?_
  exact eK j trivial (by exact Uw.wM)
theorem Vb (v u aK above:Int) (ht:f1=1) (h1:f1<=xv) (hrv:rv.length=xv) (hx:xv<1000000) (e1:rv[0+(f1 - 1).toNat]? = some [I u]) (hxp:xp<1000000) (hrp:rp.length=xp) (h2:0<=sp) (h3:sp<1000000000) (h4:0<=f9) (h5:f9<1000000) (hp:p.length<1000000) (hxf:xf<1000000) (hrf:rf.length=xf) :
  eP P0 dO [.ptr 0 0,fA f1 p f3 f4 f5 f6 f7 f8 f9 false,.d (I v),.d (I aK),.d (I above)] (wG [.d C1,.d C2,.d C3,.d C4,.d C5,.d C6] xc rc gm xm rm gs xs rs gc xh rh xu ru xp rp st gv xv rv sp gf xf rf)
   (.tuple []) (wG [.d C1,.d C2,.d C3,.d C4,.d C5,.d C6] xc rc gm xm rm gs xs rs gc xh rh xu ru xp rp st gv xv (rv.set (0+(f1 - 1).toNat) [I v]) (sp+f9) gf xf rf):=by
 have hc:=dm p hp;refine dB fx rfl ?_
 repeat refine aw ?_
 refine wB 9 rfl rfl ?_;exact Uw.wM
theorem Vd (v u aK above:Int) (ht:f1=1) (h1:f1<=xv) (hrv:rv.length=xv) (hx:xv<1000000) (e1:rv[0+(f1 - 1).toNat]? = some [I u]) (hxp:xp<1000000) (hrp:rp.length=xp) (h2:0<=sp) (h3:sp<1000000000) (h4:0<=f9) (h5:f9<1000000) (hp:p.length<1000000) (hxf:xf<1000000) (hrf:rf.length=xf) :
  eP P0 dO [.ptr 0 0,fA f1 p f3 f4 f5 f6 f7 f8 f9 true,.d (I v),.d (I aK),.d (I above)] (wG [.d C1,.d C2,.d C3,.d C4,.d C5,.d C6] xc rc gm xm rm gs xs rs gc xh rh xu ru xp rp st gv xv rv sp gf xf rf)
   (.tuple []) (wG [.d C1,.d C2,.d C3,.d C4,.d C5,.d C6] xc rc gm xm rm gs xs rs gc xh rh xu ru xp rp st gv xv (rv.set (0+(f1 - 1).toNat) [I v]) (sp+f9) (gf+1) (xf+1) (rf.take xf++[[ae p]])):=by
 have hc:=dm p hp;refine dB fx rfl ?_
 repeat refine aw ?_
 refine bq ⟨[],bk 0 (wG [.d C1,.d C2,.d C3,.d C4,.d C5,.d C6] xc rc gm xm rm gs xs rs gc xh rh xu ru xp rp st gv xv (rv.set (0+(f1 - 1).toNat) [I v]) (sp+f9) (gf+1) (xf+1) (rf.take xf++[[ae p]])),9,[],9⟩ ?_ ?_
 ·repeat refine aw ?_
  exact aj (.inl ⟨rfl,by exact Uw.wM⟩)
 refine wB 9 rfl rfl ?_;exact Uw.wM
theorem Ve (v u aK above:Int) (ht:1<f1) (h1:f1<=xv) (hrv:rv.length=xv) (hx:xv<1000000) (e1:rv[0+(f1 - 1).toNat]? = some [I u]) (hxp:xp<1000000) (hrp:rp.length=xp) (h2:0<=sp) (h3:sp<1000000000) (h4:0<=f9) (h5:f9<1000000) (hp:p.length<1000000) (hxf:xf<1000000) (hrf:rf.length=xf) :
  eP P0 dO [.ptr 0 0,fA f1 p f3 f4 f5 f6 f7 f8 f9 false,.d (I v),.d (I aK),.d (I above)] (wG [.d C1,.d C2,.d C3,.d C4,.d C5,.d C6] xc rc gm xm rm gs xs rs gc xh rh xu ru xp rp st gv xv rv sp gf xf rf)
   (.tuple []) (wG [.d C1,.d C2,.d C3,.d C4,.d C5,.d C6] xc rc gm xm rm gs xs rs gc xh rh xu ru (xp+1) (rp++[ix ⟨2,aK,0,0,above⟩]) st gv xv (rv.set (0+(f1 - 1).toNat) [I v]) (sp+f9) gf xf rf):=by
 have hc:=dm p hp;refine dB fx rfl ?_
 repeat refine aw ?_
 refine wB 9 rfl rfl ?_;exact Uw.wM
theorem Vf (v u aK above:Int) (ht:1<f1) (h1:f1<=xv) (hrv:rv.length=xv) (hx:xv<1000000) (e1:rv[0+(f1 - 1).toNat]? = some [I u]) (hxp:xp<1000000) (hrp:rp.length=xp) (h2:0<=sp) (h3:sp<1000000000) (h4:0<=f9) (h5:f9<1000000) (hp:p.length<1000000) (hxf:xf<1000000) (hrf:rf.length=xf) :
  eP P0 dO [.ptr 0 0,fA f1 p f3 f4 f5 f6 f7 f8 f9 true,.d (I v),.d (I aK),.d (I above)] (wG [.d C1,.d C2,.d C3,.d C4,.d C5,.d C6] xc rc gm xm rm gs xs rs gc xh rh xu ru xp rp st gv xv rv sp gf xf rf)
   (.tuple []) (wG [.d C1,.d C2,.d C3,.d C4,.d C5,.d C6] xc rc gm xm rm gs xs rs gc xh rh xu ru (xp+1) (rp++[ix ⟨2,aK,0,0,above⟩]) st gv xv (rv.set (0+(f1 - 1).toNat) [I v]) (sp+f9) (gf+1) (xf+1) (rf.take xf++[[ae p]])):=by
 have hc:=dm p hp;refine dB fx rfl ?_
 repeat refine aw ?_
 refine bq ⟨[],bk 0 (wG [.d C1,.d C2,.d C3,.d C4,.d C5,.d C6] xc rc gm xm rm gs xs rs gc xh rh xu ru (xp+1) (rp++[ix ⟨2,aK,0,0,above⟩]) st gv xv (rv.set (0+(f1 - 1).toNat) [I v]) (sp+f9) (gf+1) (xf+1) (rf.take xf++[[ae p]])),9,[],9⟩ ?_ ?_
 ·repeat refine aw ?_
  exact aj (.inl ⟨rfl,by exact Uw.wM⟩)
 refine wB 9 rfl rfl ?_;exact Uw.wM
end Uw.Tryz.El
namespace Uw.Tryz.El
open Go Uw Uw.Tryz
variable {C1 C2 C3 C4 C5 C6 : Dat} {xc : Nat} {rc : List (List Dat)} {gm xm : Nat} {rm : List (List Dat)} {gs xs : Nat} {rs : List (List Dat)} {gc xh : Nat} {rh : List (List Dat)} {xu : Nat} {ru : List (List Dat)} {xp : Nat} {rp : List (List Dat)} {st : Int} {gv xv : Nat} {rv : List (List Dat)} {sp : Int} {gf xf : Nat} {rf : List (List Dat)}
 {f1 f3 f4 f8 f9:Int} {f5 f6 f7:Dat} {f10:Bool} {p:List Int}
def bF (l:List Cont):Nat:=(l.map (·.vals.length)).sum
theorem LN (l:List Cont) (j:Nat) (h:j<l.length):bF (l.take (j+1))=bF (l.take j)+l[j].vals.length:=by
 have e:l.take (j+1)=l.take j++[l[j]]:=by
  rw [List.take_add_one,aa9 h];rfl
 unfold bF;rw [e,acu,ado];simp
theorem Dx (l:List Cont) (j:Nat) (h:j<l.length):∃k ks vs,(l.map aR)[0+(j:Int).toNat]? = some [I k,ae ks,ae vs]/\bF (l.take (j+1))=bF (l.take j)+(vs.map fun i=>[I i]).length:=
 ⟨l[j].kind,l[j].keys,l[j].vals,by simp [h,aR],by rw [LN l j h];simp⟩
theorem Dy (l:List Cont) (j:Nat):bF (l.take j)<=bF l:=by
 have:bF l=bF (l.take j)+bF (l.drop j):=by
  unfold bF;rw [<- ado,<- acu,ace]
 omega
theorem X4 (ms ss hs:List Cont) (hm:ms.length<1000) (hs1:ss.length<1000) (hh:hs.length<1000) (bm:bF ms<1000000) (bs:bF ss<1000000) (bh:bF hs<1000000) :
  eP P0 dz [.ptr 0 0] (wG [.d C1,.d C2,.d C3,.d C4,.d C5,.d C6] xc rc gm ms.length (ms.map aR) gs ss.length (ss.map aR) gc hs.length (hs.map aR) xu ru xp rp st gv xv rv sp gf xf rf)
   (.d (.bool (decide (1000<0+(bF ms:Int)+bF ss+bF hs)))) (wG [.d C1,.d C2,.d C3,.d C4,.d C5,.d C6] xc rc gm ms.length (ms.map aR) gs ss.length (ss.map aR) gc hs.length (hs.map aR) xu ru xp rp st gv xv rv sp gf xf rf):=by
 have mms:(ms.map aR).length=ms.length:=by simp
 have ams:=Dx ms;have bms:=Dy ms;have zms:bF (ms.take ms.length)=bF ms:=by rw [abZ]
 have yms:bF (ms.take 0)=0:=rfl;have mss:(ss.map aR).length=ss.length:=by simp
 have ass:=Dx ss;have bss:=Dy ss;have zss:bF (ss.take ss.length)=bF ss:=by rw [abZ]
 have yss:bF (ss.take 0)=0:=rfl;have mhs:(hs.map aR).length=hs.length:=by simp
 have ahs:=Dx hs;have bhs:=Dy hs;have zhs:bF (hs.take hs.length)=bF hs:=by rw [abZ]
 have yhs:bF (hs.take 0)=0:=rfl;refine dB uy rfl ?_
 repeat refine aw ?_
 refine fK 5 ?_;show WT P0 _ _
 repeat refine aw ?_
 refine fK 1 ?_;show WT P0 _ _
 repeat refine aw ?_
 refine pT ?_
 repeat refine aw ?_
 refine eI ?_
 repeat refine aw ?_
 refine eU ms.length (fun j=>⟨[(17,.d (I j)),(16,.d (I (((ms.map aR).length:Nat):Int))),(15,.ref 2 gm 0 ms.length),(12,.d (I 1)),(11,.agg [.d .nil,.ref 2 gm 0 ms.length,.ref 3 gs 0 ss.length,.ref 4 gc 0 hs.length]),(3,.d (I (0+(bF (ms.take j):Nat)))),(2,.d (.bool false)),(0,.ptr 0 0)],bk 0 (wG [.d C1,.d C2,.d C3,.d C4,.d C5,.d C6] xc rc gm ms.length (ms.map aR) gs ss.length (ss.map aR) gc hs.length (hs.map aR) xu ru xp rp st gv xv rv sp gf xf rf),9,[],9⟩) (fun j=>True) ?_ (fun _=>?_) (fun j hj _=>?_)
 ·exact Uw.wM
 rotate_left 1
 ·obtain ⟨k,ks,vs,e1,e2⟩:=ams j hj
  have e3:=bms j;have e4:=bms (j+1);clear ams ass ahs bms bss bhs
  repeat refine aw ?_
  exact eK j trivial (by exact Uw.wM)
 rw [zms]
 repeat refine aw ?_
 refine aZ ?_
 repeat refine aw ?_
 refine eI ?_
 repeat refine aw ?_
 refine eU ss.length (fun j=>⟨[(17,.d (I j)),(16,.d (I (((ss.map aR).length:Nat):Int))),(15,.ref 3 gs 0 ss.length),(12,.d (I 2)),(11,.agg [.d .nil,.ref 2 gm 0 ms.length,.ref 3 gs 0 ss.length,.ref 4 gc 0 hs.length]),(3,.d (I ((0+(bF ms:Nat))+(bF (ss.take j):Nat)))),(2,.d (.bool false)),(0,.ptr 0 0)],bk 0 (wG [.d C1,.d C2,.d C3,.d C4,.d C5,.d C6] xc rc gm ms.length (ms.map aR) gs ss.length (ss.map aR) gc hs.length (hs.map aR) xu ru xp rp st gv xv rv sp gf xf rf),9,[],9⟩) (fun j=>True) ?_ (fun _=>?_) (fun j hj _=>?_)
 ·exact Uw.wM
 rotate_left 1
 ·obtain ⟨k,ks,vs,e1,e2⟩:=ass j hj
  have e3:=bss j;have e4:=bss (j+1);clear ams ass ahs bms bss bhs
  repeat refine aw ?_
  exact eK j trivial (by exact Uw.wM)
 rw [zss]
 repeat refine aw ?_
 refine aZ ?_
 repeat refine aw ?_
 refine eI ?_
 repeat refine aw ?_
 refine eU hs.length (fun j=>⟨[(17,.d (I j)),(16,.d (I (((hs.map aR).length:Nat):Int))),(15,.ref 4 gc 0 hs.length),(12,.d (I 3)),(11,.agg [.d .nil,.ref 2 gm 0 ms.length,.ref 3 gs 0 ss.length,.ref 4 gc 0 hs.length]),(3,.d (I (((0+(bF ms:Nat))+(bF ss:Nat))+(bF (hs.take j):Nat)))),(2,.d (.bool false)),(0,.ptr 0 0)],bk 0 (wG [.d C1,.d C2,.d C3,.d C4,.d C5,.d C6] xc rc gm ms.length (ms.map aR) gs ss.length (ss.map aR) gc hs.length (hs.map aR) xu ru xp rp st gv xv rv sp gf xf rf),9,[],9⟩) (fun j=>True) ?_ (fun _=>?_) (fun j hj _=>?_)
 ·exact Uw.wM
 rotate_left 1
 ·obtain ⟨k,ks,vs,e1,e2⟩:=ahs j hj
  have e3:=bhs j;have e4:=bhs (j+1);clear ams ass ahs bms bss bhs
  repeat refine aw ?_
  exact eK j trivial (by exact Uw.wM)
 rw [zhs]
 repeat refine aw ?_
 refine aZ ?_
 repeat refine aw ?_
 refine eI ?_
 repeat refine aw ?_
 refine pT ?_
 repeat refine aw ?_
 refine dh 9 rfl rfl ?_;exact Uw.wM
end Uw.Tryz.El
namespace Uw.Tryz.El
open Go Uw Uw.Tryz
variable {C1 C2 C3 C4 C5 C6 : Dat} {xc : Nat} {rc : List (List Dat)} {gm xm : Nat} {rm : List (List Dat)} {gs xs : Nat} {rs : List (List Dat)} {gc xh : Nat} {rh : List (List Dat)} {xu : Nat} {ru : List (List Dat)} {xp : Nat} {rp : List (List Dat)} {st : Int} {gv xv : Nat} {rv : List (List Dat)} {sp : Int} {gf xf : Nat} {rf : List (List Dat)}
 {f1 f3 f4 f8 f9:Int} {f5 f6 f7:Dat} {f10:Bool} {p:List Int}
theorem SC (q1 q2 q3 q4 q5 q6 q7:Int) (q8:Dat) (hx:64<=xv) :
  eP P0 dr [.ptr 0 0,fA f1 p f3 f4 f5 f6 f7 f8 f9 f10,.agg [.d (I q1),.d (I q2),.d (I q3),.d (I q4),.d (I q5),.d (I q6),.d (I q7),.d q8]] (wG [.d C1,.d C2,.d C3,.d C4,.d C5,.d C6] xc rc gm xm rm gs xs rs gc xh rh xu ru xp rp st gv xv rv sp gf xf rf)
   (.tuple [.agg [.d (I 0),.d .nil,.d (I 0),.d (I 0),.d .nil,.d .nil,.d .nil,.d (I 0),.d (I 0),.d (.bool false)],.d (I 10)]) (wG [.d C1,.d C2,.d C3,.d C4,.d C5,.d C6] xc rc gm xm rm gs xs rs gc xh rh xu ru xp rp st gv xv rv sp gf xf rf):=by
 refine dB kN rfl ?_
 repeat refine aw ?_
 refine dh 9 rfl rfl ?_;exact Uw.wM
theorem JE (q1 q2 q3 q4 q5 q6 q7:Int) (q8:Dat) (pc:List Int) (t1 t3 t4 t8 t9:Int) (tp l1 l2:List Int) (lk:List (List Dat)) (t10:Bool) (e:Int) (hx:xv<64)
  (hch:Ret P0 vH [.agg [I f1,ae p,I f3,I f4,f5,f6,f7,I f8,I f9,.bool f10]] (ae pc))
  (hst:Ret P0 vE [.agg [C1,C2,C3,C4,C5,C6],I q2,q8,I ((xv:Nat)+1),ae pc] (.tuple [.agg [I t1,ae tp,I t3,I t4,ae l1,ae l2,.slice 2 lk false,I t8,I t9,.bool t10],I e])) :
  eP P0 dr [.ptr 0 0,fA f1 p f3 f4 f5 f6 f7 f8 f9 f10,.agg [.d (I q1),.d (I q2),.d (I q3),.d (I q4),.d (I q5),.d (I q6),.d (I q7),.d q8]] (wG [.d C1,.d C2,.d C3,.d C4,.d C5,.d C6] xc rc gm xm rm gs xs rs gc xh rh xu ru xp rp st gv xv rv sp gf xf rf)
   (.tuple [.agg [.d (I t1),.d (ae tp),.d (I t3),.d (I t4),.d (ae l1),.d (ae l2),.d (.slice 2 lk false),.d (I t8),.d (I t9),.d (.bool t10)],.d (I e)]) (wG [.d C1,.d C2,.d C3,.d C4,.d C5,.d C6] xc rc gm xm rm gs xs rs gc xh rh xu ru xp rp st gv xv rv sp gf xf rf):=by
 refine dB kN rfl ?_
 repeat refine aw ?_
 refine dh 9 rfl rfl ?_;exact Uw.wM
theorem Nq (aK oa ob oc od v r ck dk:Int) (is fl:Bool) (cks cvs dks dvs:List Int) (hk:ofK oa=1) (h0:0<=ob) (h1:ob<xm) (hr:rm.length=xm) (e1:rm[0+ob.toNat]? = some [I ck,ae cks,ae cvs]) (hu:xu<1000000) (hru:ru.length=xu) (hp:p.length<1000000)
  (hd:Ret P0 kj [.agg [I ck,ae cks,ae cvs],.agg [I oa,I ob,I oc,I od]] (.tuple [.agg [I dk,ae dks,ae dvs],I v,.bool is])) (hval:Ret P0 nC [.agg [I oa,I ob,I oc,I od],I v,.bool is] (I r))
  (hfull:eP P0 dz [.ptr 0 0] (wG [.d C1,.d C2,.d C3,.d C4,.d C5,.d C6] xc rc gm xm (rm.set (0+ob.toNat) [I dk,ae dks,ae dvs]) gs xs rs gc xh rh (xu+1) (ru++[eS ⟨aK,p,1,ob,⟨oa,ob,oc,od⟩,v,is⟩]) xp rp st gv xv rv sp gf xf rf) (.d (.bool fl)) (wG [.d C1,.d C2,.d C3,.d C4,.d C5,.d C6] xc rc gm xm (rm.set (0+ob.toNat) [I dk,ae dks,ae dvs]) gs xs rs gc xh rh (xu+1) (ru++[eS ⟨aK,p,1,ob,⟨oa,ob,oc,od⟩,v,is⟩]) xp rp st gv xv rv sp gf xf rf)) :
  eP P0 dy [.ptr 0 0,fA f1 p f3 f4 f5 f6 f7 f8 f9 f10,.d (I aK),.agg [.d (I oa),.d (I ob),.d (I oc),.d (I od)]] (wG [.d C1,.d C2,.d C3,.d C4,.d C5,.d C6] xc rc gm xm rm gs xs rs gc xh rh xu ru xp rp st gv xv rv sp gf xf rf)
   (.tuple [if fl then .d .nil else .d (.slice 1 [[I r]] true),.d (I (if fl then 8 else 0))]) (wG [.d C1,.d C2,.d C3,.d C4,.d C5,.d C6] xc rc gm xm (rm.set (0+ob.toNat) [I dk,ae dks,ae dvs]) gs xs rs gc xh rh (xu+1) (ru++[eS ⟨aK,p,1,ob,⟨oa,ob,oc,od⟩,v,is⟩]) xp rp st gv xv rv sp gf xf rf):=by
 have hof:=t7 oa;rw [hk] at hof;have hc:=dm p hp;refine dB gZ rfl ?_
 repeat refine aw ?_
 refine bq ⟨[(13,.d (.bool is)),(12,.d (I v)),(11,.ptr 11 0),(10,.d (I 1)),(7,.ptr 10 0),(5,.ptr 9 0),(0,.ptr 0 0),(2,.d (I aK))],bk 0 ((wG [.d C1,.d C2,.d C3,.d C4,.d C5,.d C6] xc rc gm xm rm gs xs rs gc xh rh xu ru xp rp st gv xv rv sp gf xf rf)++[.var [.d (I f1),.d (ae p),.d (I f3),.d (I f4),.d f5,.d f6,.d f7,.d (I f8),.d (I f9),.d (.bool f10)],.var [.d (I oa),.d (I ob),.d (I oc),.d (I od)],.var [.d (I dk),.d (ae dks),.d (ae dvs)]]),12,[],9⟩ ?_ ?_
 ·repeat refine aw ?_
  exact aj (.inl ⟨rfl,by exact Uw.wM⟩)
 repeat refine aw ?_
 refine bq ⟨[(13,.d (.bool is)),(12,.d (I v)),(7,.ptr 10 0),(0,.ptr 0 0)],bk 0 ((wG [.d C1,.d C2,.d C3,.d C4,.d C5,.d C6] xc rc gm xm (rm.set (0+ob.toNat) [I dk,ae dks,ae dvs]) gs xs rs gc xh rh (xu+1) (ru++[eS ⟨aK,p,1,ob,⟨oa,ob,oc,od⟩,v,is⟩]) xp rp st gv xv rv sp gf xf rf)++[.var [.d (I f1),.d (ae p),.d (I f3),.d (I f4),.d f5,.d f6,.d f7,.d (I f8),.d (I f9),.d (.bool f10)],.var [.d (I oa),.d (I ob),.d (I oc),.d (I od)]]),11,[],9⟩ ?_ ?_
 ·repeat refine aw ?_
  exact aj (.inl ⟨rfl,by exact Uw.wM⟩)
 repeat refine aw ?_
 refine eC 11 [0,1,2,3,4,5,6,7,8] hfull ?_
 cases fl with
 | true=>
  repeat refine aw ?_
  refine dh 9 rfl rfl ?_;exact Uw.wM
 | false=>
  repeat refine aw ?_
  refine dh 9 rfl rfl ?_;exact Uw.wM
theorem Nr (aK oa ob oc od v r ck dk:Int) (is fl:Bool) (cks cvs dks dvs:List Int) (hk:ofK oa=2) (h0:0<=ob) (h1:ob<xs) (hr:rs.length=xs) (e1:rs[0+ob.toNat]? = some [I ck,ae cks,ae cvs]) (hu:xu<1000000) (hru:ru.length=xu) (hp:p.length<1000000)
  (hd:Ret P0 kj [.agg [I ck,ae cks,ae cvs],.agg [I oa,I ob,I oc,I od]] (.tuple [.agg [I dk,ae dks,ae dvs],I v,.bool is])) (hval:Ret P0 nC [.agg [I oa,I ob,I oc,I od],I v,.bool is] (I r))
  (hfull:eP P0 dz [.ptr 0 0] (wG [.d C1,.d C2,.d C3,.d C4,.d C5,.d C6] xc rc gm xm rm gs xs (rs.set (0+ob.toNat) [I dk,ae dks,ae dvs]) gc xh rh (xu+1) (ru++[eS ⟨aK,p,2,ob,⟨oa,ob,oc,od⟩,v,is⟩]) xp rp st gv xv rv sp gf xf rf) (.d (.bool fl)) (wG [.d C1,.d C2,.d C3,.d C4,.d C5,.d C6] xc rc gm xm rm gs xs (rs.set (0+ob.toNat) [I dk,ae dks,ae dvs]) gc xh rh (xu+1) (ru++[eS ⟨aK,p,2,ob,⟨oa,ob,oc,od⟩,v,is⟩]) xp rp st gv xv rv sp gf xf rf)) :
  eP P0 dy [.ptr 0 0,fA f1 p f3 f4 f5 f6 f7 f8 f9 f10,.d (I aK),.agg [.d (I oa),.d (I ob),.d (I oc),.d (I od)]] (wG [.d C1,.d C2,.d C3,.d C4,.d C5,.d C6] xc rc gm xm rm gs xs rs gc xh rh xu ru xp rp st gv xv rv sp gf xf rf)
   (.tuple [if fl then .d .nil else .d (.slice 1 [[I r]] true),.d (I (if fl then 8 else 0))]) (wG [.d C1,.d C2,.d C3,.d C4,.d C5,.d C6] xc rc gm xm rm gs xs (rs.set (0+ob.toNat) [I dk,ae dks,ae dvs]) gc xh rh (xu+1) (ru++[eS ⟨aK,p,2,ob,⟨oa,ob,oc,od⟩,v,is⟩]) xp rp st gv xv rv sp gf xf rf):=by
 have hof:=t7 oa;rw [hk] at hof;have hc:=dm p hp;refine dB gZ rfl ?_
 repeat refine aw ?_
 refine bq ⟨[(13,.d (.bool is)),(12,.d (I v)),(11,.ptr 11 0),(10,.d (I 2)),(7,.ptr 10 0),(5,.ptr 9 0),(0,.ptr 0 0),(2,.d (I aK))],bk 0 ((wG [.d C1,.d C2,.d C3,.d C4,.d C5,.d C6] xc rc gm xm rm gs xs rs gc xh rh xu ru xp rp st gv xv rv sp gf xf rf)++[.var [.d (I f1),.d (ae p),.d (I f3),.d (I f4),.d f5,.d f6,.d f7,.d (I f8),.d (I f9),.d (.bool f10)],.var [.d (I oa),.d (I ob),.d (I oc),.d (I od)],.var [.d (I dk),.d (ae dks),.d (ae dvs)]]),12,[],9⟩ ?_ ?_
 ·repeat refine aw ?_
  exact aj (.inl ⟨rfl,by exact Uw.wM⟩)
 repeat refine aw ?_
 refine bq ⟨[(13,.d (.bool is)),(12,.d (I v)),(7,.ptr 10 0),(0,.ptr 0 0)],bk 0 ((wG [.d C1,.d C2,.d C3,.d C4,.d C5,.d C6] xc rc gm xm rm gs xs (rs.set (0+ob.toNat) [I dk,ae dks,ae dvs]) gc xh rh (xu+1) (ru++[eS ⟨aK,p,2,ob,⟨oa,ob,oc,od⟩,v,is⟩]) xp rp st gv xv rv sp gf xf rf)++[.var [.d (I f1),.d (ae p),.d (I f3),.d (I f4),.d f5,.d f6,.d f7,.d (I f8),.d (I f9),.d (.bool f10)],.var [.d (I oa),.d (I ob),.d (I oc),.d (I od)]]),11,[],9⟩ ?_ ?_
 ·repeat refine aw ?_
  exact aj (.inl ⟨rfl,by exact Uw.wM⟩)
 repeat refine aw ?_
 refine eC 11 [0,1,2,3,4,5,6,7,8] hfull ?_
 cases fl with
 | true=>
  repeat refine aw ?_
  refine dh 9 rfl rfl ?_;exact Uw.wM
 | false=>
  repeat refine aw ?_
  refine dh 9 rfl rfl ?_;exact Uw.wM
theorem Nu (aK oa ob oc od v r ck dk:Int) (is fl:Bool) (cks cvs dks dvs:List Int) (hk:ofK oa=3) (h0:0<=ob) (h1:ob<xh) (hr:rh.length=xh) (e1:rh[0+ob.toNat]? = some [I ck,ae cks,ae cvs]) (hu:xu<1000000) (hru:ru.length=xu) (hp:p.length<1000000)
  (hd:Ret P0 kj [.agg [I ck,ae cks,ae cvs],.agg [I oa,I ob,I oc,I od]] (.tuple [.agg [I dk,ae dks,ae dvs],I v,.bool is])) (hval:Ret P0 nC [.agg [I oa,I ob,I oc,I od],I v,.bool is] (I r))
  (hfull:eP P0 dz [.ptr 0 0] (wG [.d C1,.d C2,.d C3,.d C4,.d C5,.d C6] xc rc gm xm rm gs xs rs gc xh (rh.set (0+ob.toNat) [I dk,ae dks,ae dvs]) (xu+1) (ru++[eS ⟨aK,p,3,ob,⟨oa,ob,oc,od⟩,v,is⟩]) xp rp st gv xv rv sp gf xf rf) (.d (.bool fl)) (wG [.d C1,.d C2,.d C3,.d C4,.d C5,.d C6] xc rc gm xm rm gs xs rs gc xh (rh.set (0+ob.toNat) [I dk,ae dks,ae dvs]) (xu+1) (ru++[eS ⟨aK,p,3,ob,⟨oa,ob,oc,od⟩,v,is⟩]) xp rp st gv xv rv sp gf xf rf)) :
  eP P0 dy [.ptr 0 0,fA f1 p f3 f4 f5 f6 f7 f8 f9 f10,.d (I aK),.agg [.d (I oa),.d (I ob),.d (I oc),.d (I od)]] (wG [.d C1,.d C2,.d C3,.d C4,.d C5,.d C6] xc rc gm xm rm gs xs rs gc xh rh xu ru xp rp st gv xv rv sp gf xf rf)
   (.tuple [if fl then .d .nil else .d (.slice 1 [[I r]] true),.d (I (if fl then 8 else 0))]) (wG [.d C1,.d C2,.d C3,.d C4,.d C5,.d C6] xc rc gm xm rm gs xs rs gc xh (rh.set (0+ob.toNat) [I dk,ae dks,ae dvs]) (xu+1) (ru++[eS ⟨aK,p,3,ob,⟨oa,ob,oc,od⟩,v,is⟩]) xp rp st gv xv rv sp gf xf rf):=by
 have hof:=t7 oa;rw [hk] at hof;have hc:=dm p hp;refine dB gZ rfl ?_
 repeat refine aw ?_
 refine bq ⟨[(13,.d (.bool is)),(12,.d (I v)),(11,.ptr 11 0),(10,.d (I 3)),(7,.ptr 10 0),(5,.ptr 9 0),(0,.ptr 0 0),(2,.d (I aK))],bk 0 ((wG [.d C1,.d C2,.d C3,.d C4,.d C5,.d C6] xc rc gm xm rm gs xs rs gc xh rh xu ru xp rp st gv xv rv sp gf xf rf)++[.var [.d (I f1),.d (ae p),.d (I f3),.d (I f4),.d f5,.d f6,.d f7,.d (I f8),.d (I f9),.d (.bool f10)],.var [.d (I oa),.d (I ob),.d (I oc),.d (I od)],.var [.d (I dk),.d (ae dks),.d (ae dvs)]]),12,[],9⟩ ?_ ?_
 ·repeat refine aw ?_
  exact aj (.inl ⟨rfl,by exact Uw.wM⟩)
 repeat refine aw ?_
 refine bq ⟨[(13,.d (.bool is)),(12,.d (I v)),(7,.ptr 10 0),(0,.ptr 0 0)],bk 0 ((wG [.d C1,.d C2,.d C3,.d C4,.d C5,.d C6] xc rc gm xm rm gs xs rs gc xh (rh.set (0+ob.toNat) [I dk,ae dks,ae dvs]) (xu+1) (ru++[eS ⟨aK,p,3,ob,⟨oa,ob,oc,od⟩,v,is⟩]) xp rp st gv xv rv sp gf xf rf)++[.var [.d (I f1),.d (ae p),.d (I f3),.d (I f4),.d f5,.d f6,.d f7,.d (I f8),.d (I f9),.d (.bool f10)],.var [.d (I oa),.d (I ob),.d (I oc),.d (I od)]]),11,[],9⟩ ?_ ?_
 ·repeat refine aw ?_
  exact aj (.inl ⟨rfl,by exact Uw.wM⟩)
 repeat refine aw ?_
 refine eC 11 [0,1,2,3,4,5,6,7,8] hfull ?_
 cases fl with
 | true=>
  repeat refine aw ?_
  refine dh 9 rfl rfl ?_;exact Uw.wM
 | false=>
  repeat refine aw ?_
  refine dh 9 rfl rfl ?_;exact Uw.wM
end Uw.Tryz.El
namespace Uw.Tryz.El
open Go Uw Uw.Tryz
abbrev wH (C:List V) (xc:Nat) (rc:List (List Dat)) (gm xm:Nat) (rm:List (List Dat)) (gs xs:Nat) (rs:List (List Dat)) (gc xh:Nat) (rh:List (List Dat)) (xu:Nat) (ru:List (List Dat)) (xp:Nat) (rp:List (List Dat)) (st:Int) (gv xv:Nat) (rv:List (List Dat)) (sp:Int) (gf xf:Nat) (rf:List (List Dat)):List Blk:=
 [.var [.ptr 3 0],.var C,.var [.func ed [] [.ptr 0 0,.ptr 1 0,.ptr 2 0]],.var (C++[.ref 4 1 0 xc,.d .nil,.ref 5 gm 0 xm,.ref 6 gs 0 xs,.ref 7 gc 0 xh,.ref 8 0 0 xu,.ref 9 0 0 xp,.d (I st),.ref 10 gv 0 xv,.d (I sp),.ref 11 gf 0 xf]),.mt 1 1 rc,.mt 3 gm rm,.mt 3 gs rs,.mt 3 gc rh,.arr 10 ru,.arr 5 rp,.mt 1 gv rv,.mt 1 gf rf]
def qL:bP->bP
 | .seq x _=>x
 | .block _ x=>x
 | .loop x=>x
 | c=>c
def qR:bP->bP
 | .seq _ y=>y
 | c=>c
def ruB:bP:=qL (qL (qL (qR (qR (qR (qR (qR uW.code)))))))
abbrev lpS (B:List Blk) (fr:List V) (aK block above:Int):St:=⟨[(10,.d (I block)),(9,.d (I 0)),(6,.ptr 12 0),(5,.ptr 2 0),(4,.ptr 1 0),(3,.ptr 0 0),(2,.d (I above)),(1,.d (I aK))],bk 0 (B++[.var fr]),13,[],12⟩
abbrev exS (B:List Blk) (e:Int):St:=⟨[(9,.d (I e))],bk 0 B,12,[],12⟩
variable {C1 C2 C3 C4 C5 C6 : Dat} {xc : Nat} {rc : List (List Dat)} {gm : Nat} {xm : Nat} {rm : List (List Dat)} {gs : Nat} {xs : Nat} {rs : List (List Dat)} {gc : Nat} {xh : Nat} {rh : List (List Dat)} {xu : Nat} {ru : List (List Dat)} {xp : Nat} {rp : List (List Dat)} {st : Int} {gv : Nat} {xv : Nat} {rv : List (List Dat)} {sp : Int} {gf : Nat} {xf : Nat} {rf : List (List Dat)} {xc' : Nat} {rc' : List (List Dat)} {gm' : Nat} {xm' : Nat} {rm' : List (List Dat)} {gs' : Nat} {xs' : Nat} {rs' : List (List Dat)} {gc' : Nat} {xh' : Nat} {rh' : List (List Dat)} {xu' : Nat} {ru' : List (List Dat)} {xp' : Nat} {rp' : List (List Dat)} {st' : Int} {gv' : Nat} {xv' : Nat} {rv' : List (List Dat)} {sp' : Int} {gf' : Nat} {xf' : Nat} {rf' : List (List Dat)}
 {f1 f3 f4 f8 f9:Int} {f5 f6 f7:Dat} {f10:Bool} {p:List Int} {t1 t3 t4 t8 t9:Int} {tp l1 l2:List Int} {lk:List (List Dat)} {t10:Bool} {u1 u3 u4 u8 u9:Int} {up m1 m2:List Int} {mk:List (List Dat)} {u10:Bool} {Q:ay->St->Prop}
theorem Vg (aK block above a2 a3 a4 a5 a6 a7 e:Int) (v:Int)
  (hn:Ret P0 eE [.agg [C1,C2,C3,C4,C5,C6],.agg [I f1,ae p,I f3,I f4,f5,f6,f7,I f8,I f9,.bool f10]] (.tuple [.agg [I t1,ae tp,I t3,I t4,ae l1,ae l2,.slice 2 lk false,I t8,I t9,.bool t10],.agg [I 1,I a2,I a3,I a4,I a5,I a6,I a7,.nil],I 0]))
  (hc:eP P0 iH [.ptr 0 0,.agg [.d (I t1),.d (ae tp),.d (I t3),.d (I t4),.d (ae l1),.d (ae l2),.d (.slice 2 lk false),.d (I t8),.d (I t9),.d (.bool t10)],.d (I aK),.d (I a2)] (wG [.d C1,.d C2,.d C3,.d C4,.d C5,.d C6] xc rc gm xm rm gs xs rs gc xh rh xu ru xp rp st gv xv rv sp gf xf rf) (.d (.slice 1 [[I v]] true)) (wG [.d C1,.d C2,.d C3,.d C4,.d C5,.d C6] xc' rc' gm' xm' rm' gs' xs' rs' gc' xh' rh' xu' ru' xp' rp' st' gv' xv' rv' sp' gf' xf' rf'))
  (ht:Ret P0 dP [.agg [I t1,ae tp,I t3,I t4,ae l1,ae l2,.slice 2 lk false,I t8,I t9,.bool t10],.agg [I 1,I a2,I a3,I a4,I a5,I a6,I a7,.nil],.slice 1 [[I v]] true] (.tuple [.agg [I u1,ae up,I u3,I u4,ae m1,ae m2,.slice 2 mk false,I u8,I u9,.bool u10],I e]))
  (hQ:e=0->∀s,Weak s (lpS (wH [.d C1,.d C2,.d C3,.d C4,.d C5,.d C6] xc' rc' gm' xm' rm' gs' xs' rs' gc' xh' rh' xu' ru' xp' rp' st' gv' xv' rv' sp' gf' xf' rf') [.d (I u1),.d (ae up),.d (I u3),.d (I u4),.d (ae m1),.d (ae m2),.d (.slice 2 mk false),.d (I u8),.d (I u9),.d (.bool u10)] aK block above)->Q .normal s) (hX:e≠0->∀s,Weak s (exS (wH [.d C1,.d C2,.d C3,.d C4,.d C5,.d C6] xc' rc' gm' xm' rm' gs' xs' rs' gc' xh' rh' xu' ru' xp' rp' st' gv' xv' rv' sp' gf' xf' rf') e)->Q (.exit 0) s) :
  WT P0 Q (exec ruB (lpS (wH [.d C1,.d C2,.d C3,.d C4,.d C5,.d C6] xc rc gm xm rm gs xs rs gc xh rh xu ru xp rp st gv xv rv sp gf xf rf) [.d (I f1),.d (ae p),.d (I f3),.d (I f4),.d f5,.d f6,.d f7,.d (I f8),.d (I f9),.d (.bool f10)] aK block above) Tree.done):=by
 repeat refine aw ?_
 refine eC 14 [3,4,5,6,7,8,9,10,11] hc ?_
 repeat refine aw ?_
 refine bE (fun h=>?_) (fun h=>?_)
 ·have he:e≠0:=by simpa using h
  repeat refine aw ?_
  exact aj (hX he _ (by exact Uw.wM))
 ·have he:e=0:=by simpa using h
  repeat refine aw ?_
  exact aj (hQ he _ (by exact Uw.wM))
theorem SD (aK block above a2 a3 a4 a5 a6 a7 e:Int)
  (hn:Ret P0 eE [.agg [C1,C2,C3,C4,C5,C6],.agg [I f1,ae p,I f3,I f4,f5,f6,f7,I f8,I f9,.bool f10]] (.tuple [.agg [I t1,ae tp,I t3,I t4,ae l1,ae l2,.slice 2 lk false,I t8,I t9,.bool t10],.agg [I 2,I a2,I a3,I a4,I a5,I a6,I a7,.nil],I 0]))
  (hc:eP P0 gY [.ptr 0 0,.agg [.d (I t1),.d (ae tp),.d (I t3),.d (I t4),.d (ae l1),.d (ae l2),.d (.slice 2 lk false),.d (I t8),.d (I t9),.d (.bool t10)],.d (I aK),.d (I a2),.d (I a3)] (wG [.d C1,.d C2,.d C3,.d C4,.d C5,.d C6] xc rc gm xm rm gs xs rs gc xh rh xu ru xp rp st gv xv rv sp gf xf rf) (.tuple []) (wG [.d C1,.d C2,.d C3,.d C4,.d C5,.d C6] xc' rc' gm' xm' rm' gs' xs' rs' gc' xh' rh' xu' ru' xp' rp' st' gv' xv' rv' sp' gf' xf' rf'))
  (ht:Ret P0 dP [.agg [I t1,ae tp,I t3,I t4,ae l1,ae l2,.slice 2 lk false,I t8,I t9,.bool t10],.agg [I 2,I a2,I a3,I a4,I a5,I a6,I a7,.nil],.nil] (.tuple [.agg [I u1,ae up,I u3,I u4,ae m1,ae m2,.slice 2 mk false,I u8,I u9,.bool u10],I e]))
  (hQ:e=0->∀s,Weak s (lpS (wH [.d C1,.d C2,.d C3,.d C4,.d C5,.d C6] xc' rc' gm' xm' rm' gs' xs' rs' gc' xh' rh' xu' ru' xp' rp' st' gv' xv' rv' sp' gf' xf' rf') [.d (I u1),.d (ae up),.d (I u3),.d (I u4),.d (ae m1),.d (ae m2),.d (.slice 2 mk false),.d (I u8),.d (I u9),.d (.bool u10)] aK block above)->Q .normal s) (hX:e≠0->∀s,Weak s (exS (wH [.d C1,.d C2,.d C3,.d C4,.d C5,.d C6] xc' rc' gm' xm' rm' gs' xs' rs' gc' xh' rh' xu' ru' xp' rp' st' gv' xv' rv' sp' gf' xf' rf') e)->Q (.exit 0) s) :
  WT P0 Q (exec ruB (lpS (wH [.d C1,.d C2,.d C3,.d C4,.d C5,.d C6] xc rc gm xm rm gs xs rs gc xh rh xu ru xp rp st gv xv rv sp gf xf rf) [.d (I f1),.d (ae p),.d (I f3),.d (I f4),.d f5,.d f6,.d f7,.d (I f8),.d (I f9),.d (.bool f10)] aK block above) Tree.done):=by
 repeat refine aw ?_
 refine eC 14 [3,4,5,6,7,8,9,10,11] hc ?_
 repeat refine aw ?_
 refine bE (fun h=>?_) (fun h=>?_)
 ·have he:e≠0:=by simpa using h
  repeat refine aw ?_
  exact aj (hX he _ (by exact Uw.wM))
 ·have he:e=0:=by simpa using h
  repeat refine aw ?_
  exact aj (hQ he _ (by exact Uw.wM))
theorem Hr (aK block above a2 a3 a4 a5 a6 a7 e:Int) (v:Int)
  (hn:Ret P0 eE [.agg [C1,C2,C3,C4,C5,C6],.agg [I f1,ae p,I f3,I f4,f5,f6,f7,I f8,I f9,.bool f10]] (.tuple [.agg [I t1,ae tp,I t3,I t4,ae l1,ae l2,.slice 2 lk false,I t8,I t9,.bool t10],.agg [I 3,I a2,I a3,I a4,I a5,I a6,I a7,.nil],I 0]))
  (hc:eP P0 dy [.ptr 0 0,.agg [.d (I t1),.d (ae tp),.d (I t3),.d (I t4),.d (ae l1),.d (ae l2),.d (.slice 2 lk false),.d (I t8),.d (I t9),.d (.bool t10)],.d (I aK),.agg [.d (I a4),.d (I a5),.d (I a6),.d (I a7)]] (wG [.d C1,.d C2,.d C3,.d C4,.d C5,.d C6] xc rc gm xm rm gs xs rs gc xh rh xu ru xp rp st gv xv rv sp gf xf rf) (.tuple [.d (.slice 1 [[I v]] true),.d (I 0)]) (wG [.d C1,.d C2,.d C3,.d C4,.d C5,.d C6] xc' rc' gm' xm' rm' gs' xs' rs' gc' xh' rh' xu' ru' xp' rp' st' gv' xv' rv' sp' gf' xf' rf'))
  (ht:Ret P0 dP [.agg [I t1,ae tp,I t3,I t4,ae l1,ae l2,.slice 2 lk false,I t8,I t9,.bool t10],.agg [I 3,I a2,I a3,I a4,I a5,I a6,I a7,.nil],.slice 1 [[I v]] true] (.tuple [.agg [I u1,ae up,I u3,I u4,ae m1,ae m2,.slice 2 mk false,I u8,I u9,.bool u10],I e]))
  (hQ:e=0->∀s,Weak s (lpS (wH [.d C1,.d C2,.d C3,.d C4,.d C5,.d C6] xc' rc' gm' xm' rm' gs' xs' rs' gc' xh' rh' xu' ru' xp' rp' st' gv' xv' rv' sp' gf' xf' rf') [.d (I u1),.d (ae up),.d (I u3),.d (I u4),.d (ae m1),.d (ae m2),.d (.slice 2 mk false),.d (I u8),.d (I u9),.d (.bool u10)] aK block above)->Q .normal s) (hX:e≠0->∀s,Weak s (exS (wH [.d C1,.d C2,.d C3,.d C4,.d C5,.d C6] xc' rc' gm' xm' rm' gs' xs' rs' gc' xh' rh' xu' ru' xp' rp' st' gv' xv' rv' sp' gf' xf' rf') e)->Q (.exit 0) s) :
  WT P0 Q (exec ruB (lpS (wH [.d C1,.d C2,.d C3,.d C4,.d C5,.d C6] xc rc gm xm rm gs xs rs gc xh rh xu ru xp rp st gv xv rv sp gf xf rf) [.d (I f1),.d (ae p),.d (I f3),.d (I f4),.d f5,.d f6,.d f7,.d (I f8),.d (I f9),.d (.bool f10)] aK block above) Tree.done):=by
 repeat refine aw ?_
 refine eC 14 [3,4,5,6,7,8,9,10,11] hc ?_
 repeat refine aw ?_
 refine bE (fun h=>?_) (fun h=>?_)
 ·have he:e≠0:=by simpa using h
  repeat refine aw ?_
  exact aj (hX he _ (by exact Uw.wM))
 ·have he:e=0:=by simpa using h
  repeat refine aw ?_
  exact aj (hQ he _ (by exact Uw.wM))
theorem Ht (aK block above a2 a3 a4 a5 a6 a7 e:Int)
  (hn:Ret P0 eE [.agg [C1,C2,C3,C4,C5,C6],.agg [I f1,ae p,I f3,I f4,f5,f6,f7,I f8,I f9,.bool f10]] (.tuple [.agg [I t1,ae tp,I t3,I t4,ae l1,ae l2,.slice 2 lk false,I t8,I t9,.bool t10],.agg [I 3,I a2,I a3,I a4,I a5,I a6,I a7,.nil],I 0]))
  (hc:eP P0 dy [.ptr 0 0,.agg [.d (I t1),.d (ae tp),.d (I t3),.d (I t4),.d (ae l1),.d (ae l2),.d (.slice 2 lk false),.d (I t8),.d (I t9),.d (.bool t10)],.d (I aK),.agg [.d (I a4),.d (I a5),.d (I a6),.d (I a7)]] (wG [.d C1,.d C2,.d C3,.d C4,.d C5,.d C6] xc rc gm xm rm gs xs rs gc xh rh xu ru xp rp st gv xv rv sp gf xf rf) (.tuple [.d .nil,.d (I 8)]) (wG [.d C1,.d C2,.d C3,.d C4,.d C5,.d C6] xc' rc' gm' xm' rm' gs' xs' rs' gc' xh' rh' xu' ru' xp' rp' st' gv' xv' rv' sp' gf' xf' rf'))
  (hX:∀s,Weak s (exS (wH [.d C1,.d C2,.d C3,.d C4,.d C5,.d C6] xc' rc' gm' xm' rm' gs' xs' rs' gc' xh' rh' xu' ru' xp' rp' st' gv' xv' rv' sp' gf' xf' rf') 8)->Q (.exit 0) s) :
  WT P0 Q (exec ruB (lpS (wH [.d C1,.d C2,.d C3,.d C4,.d C5,.d C6] xc rc gm xm rm gs xs rs gc xh rh xu ru xp rp st gv xv rv sp gf xf rf) [.d (I f1),.d (ae p),.d (I f3),.d (I f4),.d f5,.d f6,.d f7,.d (I f8),.d (I f9),.d (.bool f10)] aK block above) Tree.done):=by
 repeat refine aw ?_
 refine eC 14 [3,4,5,6,7,8,9,10,11] hc ?_
 repeat refine aw ?_
 exact aj (hX _ (by exact Uw.wM))
theorem Hu (aK block above a2 a3 a4 a5 a6 a7 e:Int)
  (hn:Ret P0 eE [.agg [C1,C2,C3,C4,C5,C6],.agg [I f1,ae p,I f3,I f4,f5,f6,f7,I f8,I f9,.bool f10]] (.tuple [.agg [I t1,ae tp,I t3,I t4,ae l1,ae l2,.slice 2 lk false,I t8,I t9,.bool t10],.agg [I 6,I a2,I a3,I a4,I a5,I a6,I a7,.nil],I 0]))
  (hc:eP P0 dO [.ptr 0 0,.agg [.d (I t1),.d (ae tp),.d (I t3),.d (I t4),.d (ae l1),.d (ae l2),.d (.slice 2 lk false),.d (I t8),.d (I t9),.d (.bool t10)],.d (I a2),.d (I aK),.d (I above)] (wG [.d C1,.d C2,.d C3,.d C4,.d C5,.d C6] xc rc gm xm rm gs xs rs gc xh rh xu ru xp rp st gv xv rv sp gf xf rf) (.tuple []) (wG [.d C1,.d C2,.d C3,.d C4,.d C5,.d C6] xc' rc' gm' xm' rm' gs' xs' rs' gc' xh' rh' xu' ru' xp' rp' st' gv' xv' rv' sp' gf' xf' rf'))
  (hX:∀s,Weak s (exS (wH [.d C1,.d C2,.d C3,.d C4,.d C5,.d C6] xc' rc' gm' xm' rm' gs' xs' rs' gc' xh' rh' xu' ru' xp' rp' st' gv' xv' rv' sp' gf' xf' rf') 0)->Q (.exit 0) s) :
  WT P0 Q (exec ruB (lpS (wH [.d C1,.d C2,.d C3,.d C4,.d C5,.d C6] xc rc gm xm rm gs xs rs gc xh rh xu ru xp rp st gv xv rv sp gf xf rf) [.d (I f1),.d (ae p),.d (I f3),.d (I f4),.d f5,.d f6,.d f7,.d (I f8),.d (I f9),.d (.bool f10)] aK block above) Tree.done):=by
 repeat refine aw ?_
 refine eC 14 [3,4,5,6,7,8,9,10,11] hc ?_
 repeat refine aw ?_
 exact aj (hX _ (by exact Uw.wM))
theorem X5 (aK block above a1 a2 a3 a4 a5 a6 a7 e:Int) (he:e≠0)
  (hn:Ret P0 eE [.agg [C1,C2,C3,C4,C5,C6],.agg [I f1,ae p,I f3,I f4,f5,f6,f7,I f8,I f9,.bool f10]] (.tuple [.agg [I t1,ae tp,I t3,I t4,ae l1,ae l2,.slice 2 lk false,I t8,I t9,.bool t10],.agg [I a1,I a2,I a3,I a4,I a5,I a6,I a7,.nil],I e]))
  (hX:∀s,Weak s (exS (wH [.d C1,.d C2,.d C3,.d C4,.d C5,.d C6] xc rc gm xm rm gs xs rs gc xh rh xu ru xp rp st gv xv rv sp gf xf rf) e)->Q (.exit 0) s) :
  WT P0 Q (exec ruB (lpS (wH [.d C1,.d C2,.d C3,.d C4,.d C5,.d C6] xc rc gm xm rm gs xs rs gc xh rh xu ru xp rp st gv xv rv sp gf xf rf) [.d (I f1),.d (ae p),.d (I f3),.d (I f4),.d f5,.d f6,.d f7,.d (I f8),.d (I f9),.d (.bool f10)] aK block above) Tree.done):=by
 repeat refine aw ?_
 exact aj (hX _ (by exact Uw.wM))
theorem Vh (Nv:Int) (vs:List (List Dat)) (n:Nat) (bx:List V) (aK block above a2 a3 a4 a5 a6 a7 e:Int)
  (hn:Ret P0 eE [.agg [C1,C2,C3,C4,C5,C6],.agg [I f1,ae p,I f3,I f4,f5,f6,f7,I f8,I f9,.bool f10]] (.tuple [.agg [I t1,ae tp,I t3,I t4,ae l1,ae l2,.slice 2 lk false,I t8,I t9,.bool t10],.agg [I 5,I a2,I a3,I a4,I a5,I a6,I a7,.nil],I 0]))
  (hf:eP P0 g7 [.ptr 0 0,.agg [.d (I t1),.d (ae tp),.d (I t3),.d (I t4),.d (ae l1),.d (ae l2),.d (.slice 2 lk false),.d (I t8),.d (I t9),.d (.bool t10)]] (wG [.d C1,.d C2,.d C3,.d C4,.d C5,.d C6] xc rc gm xm rm gs xs rs gc xh rh xu ru xp rp st gv xv rv sp gf xf rf) (.ref 10 0 0 n) ((wG [.d C1,.d C2,.d C3,.d C4,.d C5,.d C6] xc rc gm xm rm gs xs rs gc xh rh xu ru xp rp st gv xv rv sp gf xf rf)++[.var bx,.arr 1 vs]))
  (hc:eP P0 iJ [.ptr 0 0,.agg [.d (I t1),.d (ae tp),.d (I t3),.d (I t4),.d (ae l1),.d (ae l2),.d (.slice 2 lk false),.d (I t8),.d (I t9),.d (.bool t10)],.d (I aK),.d (I block)] (wG [.d C1,.d C2,.d C3,.d C4,.d C5,.d C6] xc rc gm xm rm gs xs rs gc xh rh xu ru xp rp st gv xv rv sp gf xf rf) (.d (I Nv)) (wG [.d C1,.d C2,.d C3,.d C4,.d C5,.d C6] xc' rc' gm' xm' rm' gs' xs' rs' gc' xh' rh' xu' ru' xp' rp' st' gv' xv' rv' sp' gf' xf' rf'))
  (ht:Ret P0 dP [.agg [I t1,ae tp,I t3,I t4,ae l1,ae l2,.slice 2 lk false,I t8,I t9,.bool t10],.agg [I 5,I a2,I a3,I a4,I a5,I a6,I a7,.nil],.slice 1 ((vs.drop 0).take n) false] (.tuple [.agg [I u1,ae up,I u3,I u4,ae m1,ae m2,.slice 2 mk false,I u8,I u9,.bool u10],I e]))
  (hQ:e=0->∀s,Weak s (lpS (wH [.d C1,.d C2,.d C3,.d C4,.d C5,.d C6] xc' rc' gm' xm' rm' gs' xs' rs' gc' xh' rh' xu' ru' xp' rp' st' gv' xv' rv' sp' gf' xf' rf') [.d (I u1),.d (ae up),.d (I u3),.d (I u4),.d (ae m1),.d (ae m2),.d (.slice 2 mk false),.d (I u8),.d (I u9),.d (.bool u10)] Nv block above)->Q .normal s) (hX:e≠0->∀s,Weak s (exS (wH [.d C1,.d C2,.d C3,.d C4,.d C5,.d C6] xc' rc' gm' xm' rm' gs' xs' rs' gc' xh' rh' xu' ru' xp' rp' st' gv' xv' rv' sp' gf' xf' rf') e)->Q (.exit 0) s) :
  WT P0 Q (exec ruB (lpS (wH [.d C1,.d C2,.d C3,.d C4,.d C5,.d C6] xc rc gm xm rm gs xs rs gc xh rh xu ru xp rp st gv xv rv sp gf xf rf) [.d (I f1),.d (ae p),.d (I f3),.d (I f4),.d f5,.d f6,.d f7,.d (I f8),.d (I f9),.d (.bool f10)] aK block above) Tree.done):=by
 repeat refine aw ?_
 refine eC 14 [3,4,5,6,7,8,9,10,11] hf ?_
 repeat refine aw ?_
 refine eC 16 [3,4,5,6,7,8,9,10,11] hc ?_
 repeat refine aw ?_
 refine bE (fun h=>?_) (fun h=>?_)
 ·have he:e≠0:=by simpa using h
  repeat refine aw ?_
  exact aj (hX he _ (by exact Uw.wM))
 ·have he:e=0:=by simpa using h
  repeat refine aw ?_
  exact aj (hQ he _ (by exact Uw.wM))
variable {Vi : Nat} {Vj : List (List Dat)} {Vk : Nat} {Vl : Nat} {Vn : List (List Dat)} {gs'' : Nat} {Vo : Nat} {Vp : List (List Dat)} {Vq : Nat} {Vr : Nat} {Vs : List (List Dat)} {Vt : Nat} {Vu : List (List Dat)} {Vv : Nat} {Vw : List (List Dat)} {wa : Int} {Vx : Nat} {Vy : Nat} {Vz : List (List Dat)} {VA : Int} {VB : Nat} {VC : Nat} {VD : List (List Dat)} {w1_ w3 w4 w8 w9 : Int} {wp k1 k2 : List Int} {wk_ : List (List Dat)} {w10 : Bool}
theorem X6 (qs:List (List Dat)) (aK block above a2 a3 a4 a5 a6 a7 e:Int) (he:e≠0)
  (hn:Ret P0 eE [.agg [C1,C2,C3,C4,C5,C6],.agg [I f1,ae p,I f3,I f4,f5,f6,f7,I f8,I f9,.bool f10]] (.tuple [.agg [I t1,ae tp,I t3,I t4,ae l1,ae l2,.slice 2 lk false,I t8,I t9,.bool t10],.agg [I 4,I a2,I a3,I a4,I a5,I a6,I a7,.slice 1 qs false],I 0]))
  (hc:eP P0 dr [.ptr 0 0,.agg [.d (I t1),.d (ae tp),.d (I t3),.d (I t4),.d (ae l1),.d (ae l2),.d (.slice 2 lk false),.d (I t8),.d (I t9),.d (.bool t10)],.agg [.d (I 4),.d (I a2),.d (I a3),.d (I a4),.d (I a5),.d (I a6),.d (I a7),.d (.slice 1 qs false)]] (wG [.d C1,.d C2,.d C3,.d C4,.d C5,.d C6] xc rc gm xm rm gs xs rs gc xh rh xu ru xp rp st gv xv rv sp gf xf rf) (.tuple [.agg [.d (I w1_),.d (ae wp),.d (I w3),.d (I w4),.d (ae k1),.d (ae k2),.d (.slice 2 wk_ false),.d (I w8),.d (I w9),.d (.bool w10)],.d (I e)]) (wG [.d C1,.d C2,.d C3,.d C4,.d C5,.d C6] xc rc gm xm rm gs xs rs gc xh rh xu ru xp rp st gv xv rv sp gf xf rf))
  (hX:∀s,Weak s (exS (wH [.d C1,.d C2,.d C3,.d C4,.d C5,.d C6] xc rc gm xm rm gs xs rs gc xh rh xu ru xp rp st gv xv rv sp gf xf rf) e)->Q (.exit 0) s) :
  WT P0 Q (exec ruB (lpS (wH [.d C1,.d C2,.d C3,.d C4,.d C5,.d C6] xc rc gm xm rm gs xs rs gc xh rh xu ru xp rp st gv xv rv sp gf xf rf) [.d (I f1),.d (ae p),.d (I f3),.d (I f4),.d f5,.d f6,.d f7,.d (I f8),.d (I f9),.d (.bool f10)] aK block above) Tree.done):=by
 repeat refine aw ?_
 refine eC 15 [3,4,5,6,7,8,9,10,11] hc ?_
 repeat refine aw ?_
 exact aj (hX _ (by exact Uw.wM))
theorem X7 (g2 g3 g4 er:Int) (qs:List (List Dat)) (aK block above a2 a3 a4 a5 a6 a7 e:Int)
  (hn:Ret P0 eE [.agg [C1,C2,C3,C4,C5,C6],.agg [I f1,ae p,I f3,I f4,f5,f6,f7,I f8,I f9,.bool f10]] (.tuple [.agg [I t1,ae tp,I t3,I t4,ae l1,ae l2,.slice 2 lk false,I t8,I t9,.bool t10],.agg [I 4,I a2,I a3,I a4,I a5,I a6,I a7,.slice 1 qs false],I 0]))
  (hc:eP P0 dr [.ptr 0 0,.agg [.d (I t1),.d (ae tp),.d (I t3),.d (I t4),.d (ae l1),.d (ae l2),.d (.slice 2 lk false),.d (I t8),.d (I t9),.d (.bool t10)],.agg [.d (I 4),.d (I a2),.d (I a3),.d (I a4),.d (I a5),.d (I a6),.d (I a7),.d (.slice 1 qs false)]] (wG [.d C1,.d C2,.d C3,.d C4,.d C5,.d C6] xc rc gm xm rm gs xs rs gc xh rh xu ru xp rp st gv xv rv sp gf xf rf) (.tuple [.agg [.d (I w1_),.d (ae wp),.d (I w3),.d (I w4),.d (ae k1),.d (ae k2),.d (.slice 2 wk_ false),.d (I w8),.d (I w9),.d (.bool w10)],.d (I 0)]) (wG [.d C1,.d C2,.d C3,.d C4,.d C5,.d C6] xc rc gm xm rm gs xs rs gc xh rh xu ru xp rp st gv xv rv sp gf xf rf))
  (hk:eP P0 iI [.ptr 0 0,.d (I aK),.d (I block),.d (.bool (decide (0<((lk.length:Nat):Int))))] (wG [.d C1,.d C2,.d C3,.d C4,.d C5,.d C6] xc rc gm xm rm gs xs rs gc xh rh xu ru xp rp st gv xv rv sp gf xf rf) (.agg [.d (I 1),.d (I aK),.d (I g2),.d (I g3),.d (I g4)]) (wG [.d C1,.d C2,.d C3,.d C4,.d C5,.d C6] xc' rc' gm' xm' rm' gs' xs' rs' gc' xh' rh' xu' ru' xp' rp' st' gv' xv' rv' sp' gf' xf' rf'))
  (hr:eP P0 ed [.agg [.d (I w1_),.d (ae wp),.d (I w3),.d (I w4),.d (ae k1),.d (ae k2),.d (.slice 2 wk_ false),.d (I w8),.d (I w9),.d (.bool w10)],.d (I g2),.d (I g4),.ptr 0 0,.ptr 1 0,.ptr 2 0] (wH [.d C1,.d C2,.d C3,.d C4,.d C5,.d C6] xc' rc' gm' xm' rm' gs' xs' rs' gc' xh' rh' xu' ru' xp' rp' st' gv' xv' rv' sp' gf' xf' rf') (.d (I er)) (wH [.d C1,.d C2,.d C3,.d C4,.d C5,.d C6] Vi Vj Vk Vl Vn gs'' Vo Vp Vq Vr Vs Vt Vu Vv Vw wa Vx Vy Vz VA VB VC VD))
  (ht:er=0->Ret P0 dP [.agg [I t1,ae tp,I t3,I t4,ae l1,ae l2,.slice 2 lk false,I t8,I t9,.bool t10],.agg [I 4,I a2,I a3,I a4,I a5,I a6,I a7,.slice 1 qs false],.slice 1 [[I w1_]] true] (.tuple [.agg [I u1,ae up,I u3,I u4,ae m1,ae m2,.slice 2 mk false,I u8,I u9,.bool u10],I e]))
  (hQ:er=0->e=0->∀s,Weak s (lpS (wH [.d C1,.d C2,.d C3,.d C4,.d C5,.d C6] Vi Vj Vk Vl Vn gs'' Vo Vp Vq Vr Vs Vt Vu Vv Vw wa Vx Vy Vz VA VB VC VD) [.d (I u1),.d (ae up),.d (I u3),.d (I u4),.d (ae m1),.d (ae m2),.d (.slice 2 mk false),.d (I u8),.d (I u9),.d (.bool u10)] g3 g4 above)->Q .normal s) (hX:er=0->e≠0->∀s,Weak s (exS (wH [.d C1,.d C2,.d C3,.d C4,.d C5,.d C6] Vi Vj Vk Vl Vn gs'' Vo Vp Vq Vr Vs Vt Vu Vv Vw wa Vx Vy Vz VA VB VC VD) e)->Q (.exit 0) s) (hY:er≠0->∀s,Weak s (exS (wH [.d C1,.d C2,.d C3,.d C4,.d C5,.d C6] Vi Vj Vk Vl Vn gs'' Vo Vp Vq Vr Vs Vt Vu Vv Vw wa Vx Vy Vz VA VB VC VD) er)->Q (.exit 0) s) :
  WT P0 Q (exec ruB (lpS (wH [.d C1,.d C2,.d C3,.d C4,.d C5,.d C6] xc rc gm xm rm gs xs rs gc xh rh xu ru xp rp st gv xv rv sp gf xf rf) [.d (I f1),.d (ae p),.d (I f3),.d (I f4),.d f5,.d f6,.d f7,.d (I f8),.d (I f9),.d (.bool f10)] aK block above) Tree.done):=by
 repeat refine aw ?_
 refine eC 15 [3,4,5,6,7,8,9,10,11] hc ?_
 repeat refine aw ?_
 refine eC 15 [3,4,5,6,7,8,9,10,11] hk ?_
 repeat refine aw ?_
 refine eC 16 [0,1,2,3,4,5,6,7,8,9,10,11] hr ?_
 repeat refine aw ?_
 refine bE (fun h=>?_) (fun h=>?_)
 ·have hz:er≠0:=by simpa using h
  repeat refine aw ?_
  exact aj (hY hz _ (by exact Uw.wM))
 have hz:er=0:=by simpa using h
 have ht:=ht hz
 repeat refine aw ?_
 refine bE (fun h=>?_) (fun h=>?_)
 ·have he:e≠0:=by simpa using h
  repeat refine aw ?_
  exact aj (hX hz he _ (by exact Uw.wM))
 ·have he:e=0:=by simpa using h
  repeat refine aw ?_
  exact aj (hQ hz he _ (by exact Uw.wM))
end Uw.Tryz.El
namespace Uw
open Go
end Uw
namespace Uw.Tryz.Vm
open Go Uw Uw.Tryz
end Uw.Tryz.Vm
namespace Uw.Tryz.Vm
open Go Uw Uw.Tryz
structure Good (c:Cd) (b:Bd) (f:Frame):Prop where
 task:1<=f.task
 fn0:0<=f.fn
 fn1:f.fn<c.az.length
 body:dp c f=b
 pc0:0<=f.pc
 pc1:f.pc<=b.ins.length
 loc:(f.loc.length:Int)=b.locals
 stack:f.stack.length<=100
 kids:∀k∈f.kids,yk b.locals k=true
 vals:dW f
 many:0<=f.many
 sp0:0<=f.spent
 sp1:f.spent<=2000
theorem Good.of {c:Cd} {f:Frame} (h:right c f=true):Good c (dp c f) f:=by
 simp only [right,aa5,abW,abJ,decide_eq_false_iff_not,Bool.not_eq_false',decide_eq_true_eq,below] at h;obtain ⟨⟨⟨⟨⟨⟨h1,h2⟩,h3⟩,h4⟩,h5⟩,h6⟩,h7⟩:=h;exact ⟨by omega,h1.2.1,h1.2.2,rfl,h2.1.1.1,by omega,h2.1.2,by omega,abe.1 h3,⟨h4,h5⟩,h6,h7.1,by omega⟩
theorem Good.right {c:Cd} {b:Bd} {f:Frame} (h:Good c b f):right c f=true:=by
 have hb:=h.body;have h1:=h.task;have h2:=h.fn0;have h3:=h.fn1;have h4:=h.pc0;have h5:=h.pc1;have h6:=h.stack;have h7:=h.sp0;have h8:=h.sp1;have h9:=h.many;have e1:decide (f.task<1)=false:=by simp;omega
 have e2:below f.fn c.az.length=true:=by simp [below];omega
 have e3:below f.pc (b.ins.length+1)=true:=by simp [below];omega
 have e4:decide ((f.loc.length:Int)=b.locals)=true:=by simp [h.loc]
 have e5:decide (100<(f.stack.length:Int))=false:=by simp;omega
 have e6:f.kids.all (yk b.locals)=true:=abe.2 h.kids;have e7:decide (0<=f.many)=true:=by simp [h9]
 have e8:below f.spent 2001=true:=by simp [below];omega
 rw [Uw.Tryz.Vm.right,hb,e1,e2,e3,e4,e5,e6,h.vals.loc,h.vals.stack,e7,e8];rfl
theorem Good.step {c:Cd} {b:Bd} {f g:Frame} {i:In4} {a:Ask} (h:Good c b f) (hp:f.pc<b.ins.length) (hsp:f.spent<2000) (hs:stepS c b f i=some (g,a)):Good c b g:=by
 have st:=rl h.pc0 hp h.stack hs;have h7:=h.sp0;refine ⟨by rw [st.task];exact h.task,by rw [st.fn];exact h.fn0,by rw [st.fn];exact h.fn1,by rw [<- h.body,dp,dp,st.fn],st.pc0,st.pc1,by rw [st.loc];exact h.loc,st.stack,by rw [st.kids];exact h.kids,za h.vals hs,by rw [st.many];exact h.many,?_,?_⟩
 ·rcases st.spent with ⟨_,e,_⟩|⟨_,e⟩
  ·rw [e];omega
  ·omega
 ·rcases st.spent with ⟨_,e,_⟩|⟨_,e⟩
  ·rw [e];omega
  ·omega
structure Kept (c:Cd) (b:Bd) (f g:Frame) (a:Ask):Prop where
 good:Good c b g
 kids:g.kids=f.kids
 path:g.path=f.path
 many:g.many=f.many
 loc:g.loc.length=f.loc.length
 le:f.spent<=g.spent
 lt:a.kind≠5->f.spent<g.spent
 wait:a.kind=5->g.kids≠[]
 k1:1<=a.kind
 k6:a.kind<=6
 k4:a.kind=4->dest a.b g.loc.length=true
theorem JF (c:Cd) (b:Bd):∀(n:Nat) (f:Frame),Good c b f->(∀e,runN c b n f = .err e->e=1\/e=11)/\∀g a,runN c b n f = .ok g a->Kept c b f g a
 | 0,f,h=>by simp [runN]
 | n+1,f,h=>by
  rw [runN]
  split
  ·simp
  split
  ·simp
  rename_i hsp hpc;have dD : 0<=f.pc/\f.pc<b.ins.length:=by simpa [below] using hpc
  have hsp' : f.spent<2000:=by have:=h.sp1;omega
  cases hs:stepS c b f (cw b f) with
  | none=>simp
  | some p=>
   obtain ⟨g,a⟩:=p;have hg:=h.step dD.2 hsp' hs;have st:=rl dD.1 dD.2 h.stack hs;simp only [];by_cases hk:a.kind=0
   ·rw [if_pos hk]
    have aaF:g.spent=f.spent+1:=by
     rcases st.spent with ⟨e,_⟩|⟨_,e⟩
     ·omega
     ·exact e
    obtain ⟨i1,i2⟩:=JF c b n g hg;refine ⟨i1,fun g' a' hr=>?_⟩;have k:=i2 g' a' hr;have kle:=k.le;exact ⟨k.good,k.kids.trans st.kids,k.path.trans st.path,k.many.trans st.many,k.loc.trans st.loc,by omega,fun _=>by omega,k.wait,k.k1,k.k6,k.k4⟩
   ·rw [if_neg hk]
    refine ⟨by simp,fun g' a' hr=>?_⟩;simp at hr;obtain ⟨rfl,rfl⟩:=hr;refine ⟨hg,st.kids,st.path,st.many,st.loc,?_,?_,?_,by have:=st.kind;omega,st.kind.2,fun h4=>by rw [st.loc];exact st.Y9 h4⟩
    ·rcases st.spent with ⟨_,e,_⟩|⟨_,e⟩
     ·rw [e];exact acO _
     ·omega
    ·intro h5
     rcases st.spent with ⟨e,_⟩|⟨_,e⟩
     ·exact absurd e h5
     ·omega
    ·intro h5
     rcases st.spent with ⟨_,e,e2⟩|⟨e,_⟩
     ·rw [e];exact e2
     ·exact absurd h5 e
theorem uc {c:Cd} {f:Frame} (hr:right c f=true):(∃e,cz c f = .err e/\(e=1\/e=11))\/∃g a,cz c f = .ok g a/\Kept c (dp c f) f g a:=by
 have h:=JF c (dp c f) (cy f) f (Good.of hr);have e:cz c f=runN c (dp c f) (cy f) f:=by simp [cz,hr]
 rw [e]
 cases hx:runN c (dp c f) (cy f) f with
 | err n=>exact .inl ⟨n,rfl,h.1 n hx⟩
 | ok g a=>exact .inr ⟨g,a,rfl,h.2 g a hx⟩
theorem Good.put {c:Cd} {b:Bd} {f:Frame} (h:Good c b f) {v:Int} (hv:isVal v=true) (hs:f.stack.length<100):Good c b { f with stack:=f.stack++[v] }:=
 ⟨h.task,h.fn0,h.fn1,h.body,h.pc0,h.pc1,h.loc,by simp;omega,h.kids,h.vals.put hv,h.many,h.sp0,h.sp1⟩
theorem Good.kid {c:Cd} {b:Bd} {f:Frame} (h:Good c b f) {v d:Int} (hv:1<=v) (hd:dest d f.loc.length=true):Good c b { f with kids:=f.kids++[(v,d)],many:=f.many+1 }:=by
 have hm:=h.many;refine ⟨h.task,h.fn0,h.fn1,h.body,h.pc0,h.pc1,h.loc,h.stack,?_,⟨h.vals.loc,h.vals.stack⟩,by simp only [];omega,h.sp0,h.sp1⟩;intro k hk;simp only [abr,acL] at hk
 rcases hk with hk|rfl
 ·exact h.kids k hk
 ·rw [yk,<- h.loc,hd];simp [hv]
theorem FW:∀(l:List ((Int×Int)×Int)) (loc:List Int),loc.all isVal=true->(∀p∈l,isVal p.2=true)->(kc loc l).all isVal=true
 | [],loc,h,_=>h
 | p::l,loc,h,hp=>by
  show (kc (if 0<=p.1.2 then loc.set p.1.2.toNat p.2 else loc) l).all isVal=true;refine FW l _ ?_ (fun q hq=>hp q (by simp [hq]))
  split
  ·exact Nn _ (hp p (by simp)) h
  ·exact h
theorem Good.sync {c:Cd} {b:Bd} {f:Frame} (h:Good c b f) {vals:List Int} (hv:vals.all isVal=true):Good c b { f with loc:=kc f.loc (f.kids.zip vals),kids:=[] }:=by
 refine ⟨h.task,h.fn0,h.fn1,h.body,h.pc0,h.pc1,by simp only [tM];exact h.loc,h.stack,by simp,⟨?_,h.vals.stack⟩,h.many,h.sp0,h.sp1⟩;refine FW _ _ h.vals.loc (fun p hp=>?_);exact abe.1 hv p.2 (List.of_mem_zip hp).2
end Uw.Tryz.Vm
namespace Uw.Tryz.El
open Go Uw Uw.Tryz
def pf (w:Wd) (k:Int):List Cont:=if k=1 then w.maps else if k=2 then w.stacks else w.chans
def qy (w:Wd) (k:Int) (l:List Cont):Wd:=if k=1 then { w with maps:=l } else if k=2 then { w with stacks:=l } else { w with chans:=l }
def nW (w:Wd) (o:Op4):Cont:=(pf w (ofK o.kind)).getD o.obj.toNat default
def bG (w:Wd) (path:List Int) (aK:Int) (o:Op4):Wd:=
 { qy w (ofK o.kind) ((pf w (ofK o.kind)).set o.obj.toNat (doS (nW w o) o).1) with uses:=w.uses++[⟨aK,path,ofK o.kind,o.obj,o,(doS (nW w o) o).2.1,(doS (nW w o) o).2.2⟩] }
def eA (w:Wd) (o:Op4):Int:=Vm.jP o.kind (doS (nW w o) o).2.1 (doS (nW w o) o).2.2
def gU (w:Wd):Bool:=decide (1000<0+(bF w.maps:Int)+bF w.stacks+bF w.chans)
def endW (w:Wd) (f:Vm.Frame) (val aK above:Int):Wd:=
 { w with values:=w.values.set (f.task - 1).toNat val,splits:=if 1<f.task then w.splits++[⟨2,aK,0,0,above⟩] else w.splits,steps:=w.steps+f.spent,fails:=if f.fail then w.fails++[f.path] else w.fails }
def dJ (w:Wd) (kids:List (Int×Int)):List Int:=kids.map fun k=>w.values.getD (k.1 - 1).toNat 0
def opA (a:Vm.Ask):Op4:=⟨a.op.1,a.op.2.1,a.op.2.2.1,a.op.2.2.2⟩
def isNamed (g:Vm.Frame):Bool:=decide (0<((g.kids.map Vm.fN).length:Int))
inductive Rnd where
 | done (w:Wd) (e:Int)
 | go (w:Wd) (told:List Int) (aK block:Int)
abbrev Rec:=Wd->Vm.Frame->Int->Int->Wd×Int
def g9 (c:Cd) (rec:Rec) (w:Wd) (g:Vm.Frame) (a:Vm.Ask) (s b:Int):Rnd:=
 if 64<=w.values.length then .done w 10
 else
  let r:=Vm.dc c a.a a.args ((w.values.length:Nat)+1) (g.path++[g.many])
  if r.2≠0 then .done w r.2
  else
   let sp:=SB w s b (isNamed g)
   let r2:=rec (cH w s b (isNamed g)) r.1 sp.b sp.d
   if r2.2≠0 then .done r2.1 r2.2 else .go r2.1 [r.1.task] sp.c sp.d
def bz (c:Cd) (rec:Rec) (w:Wd) (g:Vm.Frame) (a:Vm.Ask) (s b ab:Int):Rnd:=
 if a.kind=1 then .go (pd w g.path s a.a) [w.cells.getD a.a.toNat 0] s b
 else if a.kind=2 then .go (iM w g.path s a.a a.b) [] s b
 else if a.kind=3 then (if gU (bG w g.path s (opA a)) then .done (bG w g.path s (opA a)) 8 else .go (bG w g.path s (opA a)) [eA w (opA a)] s b)
 else if a.kind=4 then g9 c rec w g a s b
 else if a.kind=5 then .go (jQ w g.kids s b).1 (dJ w g.kids) (jQ w g.kids s b).2 b
 else .done (endW w g a.a s ab) 0
def jc (c:Cd) (rec:Rec):Nat->Wd->Vm.Frame->Int->Int->Int->Wd×Int
 | 0,w,_,_,_,_=>(w,0)
 | n+1,w,f,s,b,ab=>match Vm.cz c f with
  | .err e=>(w,e)
  | .ok g a=>match bz c rec w g a s b ab with
   | .done w' e=>(w',e)
   | .go w' told s' b'=>
    if (Vm.aV g a.kind a.b told).2≠0 then (w',(Vm.aV g a.kind a.b told).2)
    else jc c rec n w' (Vm.aV g a.kind a.b told).1 s' b' ab
def jR (f:Vm.Frame):Nat:=2 * (2001 - f.spent).toNat+(if f.kids=[] then 0 else 1)
def JG (c:Cd):Nat->Rec
 | 0=>fun w _ _ _=>(w,0)
 | d+1=>fun w f s ab=>jc c (JG c d) (jR f) { w with values:=w.values++[0] } f s 0 ab
def FX (c:Cd) (k:Int):Int:=if k=1\/k=2\/k=3 then c.maps else if k=4\/k=5 then c.stacks else c.chans
structure JH (c:Cd) (a:Vm.Ask):Prop where
 cell:a.kind=1\/a.kind=2->0<=a.a/\a.a<c.cells.length
 op:a.kind=3->1<=a.op.1/\a.op.1<=7/\0<=a.op.2.1/\a.op.2.1<FX c a.op.1
theorem SE {c:Cd} {b:Bd} {f g:Vm.Frame} {i:In4} {a:Vm.Ask} (hs:Vm.stepS c b f i=some (g,a)):JH c a:=by
 have fin:∀{op},Vm.aX op f=some (g,a)->JH c a:=by
  intro op hs;simp only [Vm.aX] at hs
  split at hs
  ·simp at hs;obtain ⟨rfl,rfl⟩:=hs;exact ⟨by simp [Vm.aJ],by simp [Vm.aJ]⟩
  ·simp at hs
 revert hs
 refine Vm.kp (fun o=>o=some (g,a)->JH c a) ?_ ?_ ?_ ?_ ?_ (fun _=>fin) (fun _=>fin) (fun _=>fin) (fun _=>fin) (fun _=>fin) ?_ ?_ ?_ ?_ ?_ ?_ ?_ ?_ (fun _=>fin) ?_
 all_goals intro ho hs
 ·simp only [Vm.jX] at hs;split at hs<;>simp at hs;obtain ⟨rfl,rfl⟩:=hs;exact ⟨by simp [Vm.aJ],by simp [Vm.aJ]⟩
 ·simp only [Vm.fO] at hs;repeat' split at hs
  all_goals first|(simp at hs;done)|(simp at hs;obtain ⟨rfl,rfl⟩:=hs;exact ⟨by simp [Vm.aJ],by simp [Vm.aJ]⟩)
 ·simp only [Vm.sb] at hs;repeat' split at hs
  all_goals first|(simp at hs;done)|(simp at hs;obtain ⟨rfl,rfl⟩:=hs;exact ⟨by simp [Vm.aJ],by simp [Vm.aJ]⟩)
 ·simp only [Vm.o8] at hs;split at hs
  ·rename_i h;simp at hs;obtain ⟨rfl,rfl⟩:=hs
   simp [Vm.below] at h;exact ⟨fun _=>⟨h.1,h.2⟩,by simp⟩
  ·simp at hs
 ·simp only [Vm.g8] at hs;split at hs
  ·rename_i h;simp at hs;obtain ⟨rfl,rfl⟩:=hs
   simp [Vm.below] at h;exact ⟨fun _=>⟨h.1.1,h.1.2⟩,by simp⟩
  ·simp at hs
 ·simp only [Vm.fQ] at hs;split at hs
  ·rename_i h;simp at hs;obtain ⟨rfl,rfl⟩:=hs
   have h1:=h.1;simp [Vm.below] at h1;refine ⟨by simp,fun _=>?_⟩;show 1<=i.a/\i.a<=7/\0<=i.b/\i.b<FX c i.a;unfold FX;simp only [Vm.cU] at h1
   repeat' split at h1
   all_goals (repeat' split)<;>simp only at h1<;>omega
  ·simp at hs
 ·simp only [Vm.o9] at hs;split at hs<;>simp at hs;obtain ⟨rfl,rfl⟩:=hs;exact ⟨by simp [Vm.aJ],by simp [Vm.aJ]⟩
 ·simp only [Vm.cQ] at hs;split at hs
  ·simp at hs;obtain ⟨rfl,rfl⟩:=hs;exact ⟨by simp [Vm.aJ],by simp [Vm.aJ]⟩
  ·simp at hs
 ·simp only [Vm.jv] at hs;split at hs<;>simp at hs<;>obtain ⟨rfl,rfl⟩:=hs<;>exact ⟨by simp [Vm.aJ],by simp [Vm.aJ]⟩
 ·simp only [Vm.pa] at hs;split at hs<;>simp at hs;obtain ⟨rfl,rfl⟩:=hs;exact ⟨by simp [Vm.aJ],by simp [Vm.aJ]⟩
 ·simp only [Vm.kb] at hs;repeat' split at hs
  all_goals first|(simp at hs;done)|(simp at hs;obtain ⟨rfl,rfl⟩:=hs;exact ⟨by simp [Vm.aJ],by simp [Vm.aJ]⟩)
 ·simp only [Vm.uG] at hs;repeat' split at hs
  all_goals first|(simp at hs;done)|(simp at hs;obtain ⟨rfl,rfl⟩:=hs;exact ⟨by simp [Vm.aJ],by simp [Vm.aJ]⟩)
 ·simp only [Vm.dC] at hs;split at hs<;>simp at hs;obtain ⟨rfl,rfl⟩:=hs;exact ⟨by simp [Vm.aJ],by simp [Vm.aJ]⟩
 ·simp at hs
theorem Nw (c:Cd) (b:Bd):∀(n:Nat) (f:Vm.Frame),Vm.Good c b f->∀g a,Vm.runN c b n f = .ok g a->JH c a/\g.task=f.task
 | 0,f,h=>by simp [Vm.runN]
 | n+1,f,h=>by
  intro g a hr;rw [Vm.runN] at hr
  split at hr
  ·simp at hr
  split at hr
  ·simp at hr
  rename_i hsp hpc;have dD : 0<=f.pc/\f.pc<b.ins.length:=by simpa [Vm.below] using hpc
  have hsp' : f.spent<2000:=by have:=h.sp1;omega
  cases hs:Vm.stepS c b f (Vm.cw b f) with
  | none=>rw [hs] at hr;simp at hr
  | some p=>
   obtain ⟨g1,a1⟩:=p;rw [hs] at hr;have hg:=h.step dD.2 hsp' hs;have st:=Vm.rl dD.1 dD.2 h.stack hs;simp only [] at hr;by_cases hk:a1.kind=0
   ·rw [if_pos hk] at hr
    have i:=Nw c b n g1 hg g a hr;exact ⟨i.1,i.2.trans st.task⟩
   ·rw [if_neg hk] at hr
    simp at hr;obtain ⟨rfl,rfl⟩:=hr;exact ⟨SE hs,st.task⟩
theorem bX {c:Cd} {f g:Vm.Frame} {a:Vm.Ask} (hr:Vm.right c f=true) (h:Vm.cz c f = .ok g a):JH c a/\g.task=f.task/\Vm.Kept c (Vm.dp c f) f g a:=by
 rcases Vm.uc hr with ⟨e,h1,_⟩|⟨g',a',h1,h2⟩
 ·rw [h1] at h;cases h
 ·rw [h1] at h
  injection h with e1 e2
  subst e1 e2;have hn:Vm.runN c (Vm.dp c f) (Vm.cy f) f = .ok g' a':=by
   rw [Vm.cz,if_pos hr] at h1;exact h1
  have:=Nw c _ _ f (Vm.Good.of hr) g' a' hn;exact ⟨this.1,this.2,h2⟩
end Uw.Tryz.El
namespace Uw.Tryz.El
open Go Uw Uw.Tryz
structure hZ (k:Int) (x:Cont):Prop where
 right:dI x=true
 kind:x.kind=k
theorem JI (x:Int):∀(l:List Int),∀y∈l.takeWhile (fun y=>decide (y<x)),y<x
 | [],y,h=>by simp at h
 | a::r,y,h=>by
  by_cases ha:a<x
  ·rw [List.takeWhile_cons_of_pos (by simpa using ha)] at h
   rcases abG.1 h with rfl|h
   ·exact ha
   ·exact JI x r y h
  ·rw [List.takeWhile_cons_of_neg (by simpa using ha)] at h;cases h
theorem SG (l:List Int) (x:Int):∀y∈l.take (cJ l x),y<x:=by
 have e:l.take (cJ l x)=l.takeWhile fun y=>decide (y<x):=by
  unfold cJ;exact List.prefix_iff_eq_take.1 (adH _) |>.symm
 rw [e];intro y hy;exact JI x l y hy
theorem Dz {l:List Int} {x:Int} (hp:l.Pairwise (· < ·)):∀y∈l.drop (cJ l x),x<=y:=by
 intro y hy;obtain ⟨i,hi,rfl⟩:=abR.1 hy;rw [adh];have hi2:cJ l x+i<l.length:=by simp at hi;omega
 have:=(LD (x:=x) hp (cJ l x+i) hi2)
 omega
theorem Pz {l:List Int} {x:Int} (hp:l.Pairwise (· < ·)) (hh:iw l x=false):(sa l (cJ l x) x).Pairwise (· < ·):=by
 unfold sa;rw [List.pairwise_append];refine ⟨hp.sublist (List.take_sublist _ _),?_,?_⟩
 ·rw [List.pairwise_cons]
  refine ⟨fun y hy=>?_,hp.sublist (List.drop_sublist _ _)⟩;have h1:=Dz (x:=x) hp y hy;by_cases e:y=x
  ·exfalso
   subst e;obtain ⟨i,hi,he⟩:=abR.1 hy;rw [adh] at he;have hi2:cJ l y+i<l.length:=by simp at hi;omega
   have h0:cJ l y<l.length:=by omega
   have:¬l[cJ l y]'h0=y:=fun e2=>by
    have:iw l y=true:=by unfold iw;rw [aa9 h0,e2];simp
    rw [this] at hh;cases hh
   have h2:=Dz (x:=y) hp (l[cJ l y]'h0) (by
    rw [abR];exact ⟨0,by simp;omega,by simp⟩)
   rcases Nat.eq_zero_or_pos i with rfl|hpos
   ·exact this (by simpa using he)
   ·have:=abT.1 hp (cJ l y) (cJ l y+i) h0 hi2 (by omega)
    omega
  ·omega
 ·intro a ha b hb
  have h1:=SG l x a ha
  rcases abG.1 hb with rfl|hb
  ·exact h1
  ·have:=Dz (x:=x) hp b hb;omega
theorem PD {l:List Int} {k:Nat} (hp:l.Pairwise (· < ·)):(tH l k).Pairwise (· < ·):=by
 have:(tH l k).Sublist l:=by
  unfold tH
  conv=>rhs;rw [<- ace k l]
  exact (List.Sublist.refl _).append ((List.drop_sublist_drop_left l (Nat.le_succ k)))
 exact hp.sublist this
theorem has_lt {l:List Int} {x:Int} (h:iw l x=true):cJ l x<l.length:=by
 have h:=of_decide_eq_true h;exact (abx.1 h).1
theorem Nx {k:Int} {x:Cont} (o:Op4) (h:hZ k x):hZ k (doS x o).1/\(doS x o).1.vals.length<=x.vals.length+1:=by
 obtain ⟨hr,hk⟩:=h;unfold doS
 split
 ·exact ⟨⟨hr,hk⟩,by simp⟩
 rename_i h1;have hof:ofK o.kind=x.kind:=by
  have:=not_or.1 h1;simpa using this.2
 have case1:x.kind=1->x.keys.length=x.vals.length/\x.keys.Pairwise (· < ·):=fun e=>by
  rw [dI,if_pos e] at hr;simpa using hr
 have case2:x.kind=2\/x.kind=3->∀vs,dI ⟨x.kind,[],vs⟩=true:=fun e vs=>by
  unfold dI;rw [if_neg (by simp only;omega),if_pos e];rfl
 split
 ·split<;>exact ⟨⟨hr,hk⟩,by simp⟩
 split
 ·rename_i e2
  have hk1:x.kind=1:=by rw [<- hof,e2];rfl
  obtain ⟨q1,q2⟩:=case1 hk1
  split
  ·exact ⟨⟨hr,hk⟩,by simp⟩
  ·rename_i hn
   have hle:=Hl x.keys o.a;refine ⟨⟨?_,hk⟩,?_⟩
   ·unfold dI
    rw [if_pos hk1];simp only [aa5,decide_eq_true_eq];exact ⟨by simp [sa];omega,Pz q2 (by simpa using hn)⟩
   ·simp [sa];omega
 split
 ·rename_i e3
  have hk1:x.kind=1:=by rw [<- hof,e3];rfl
  obtain ⟨q1,q2⟩:=case1 hk1
  split
  ·rename_i hn
   have hlt:=has_lt hn;refine ⟨⟨?_,hk⟩,?_⟩
   ·unfold dI
    rw [if_pos hk1];simp only [aa5,decide_eq_true_eq];exact ⟨by simp [tH];omega,PD q2⟩
   ·simp [tH];omega
  ·exact ⟨⟨hr,hk⟩,by simp⟩
 split
 ·rename_i e4
  exact ⟨⟨case2 (.inl (by rw [<- hof,e4];rfl)) _,hk⟩,by simp⟩
 split
 ·rename_i e6
  exact ⟨⟨case2 (.inr (by rw [<- hof,e6];rfl)) _,hk⟩,by simp⟩
 have aam:x.kind=2\/x.kind=3:=by
  unfold dI at hr
  split at hr
  ·rename_i e1
   exfalso;have:ofK o.kind=1:=hof.trans e1;unfold ofK at this
   split at this
   ·omega
   ·repeat' split at this
    all_goals omega
  ·split at hr
   ·assumption
   ·cases hr
 split
 ·exact ⟨⟨hr,hk⟩,by simp⟩
 ·rename_i v r hv
  exact ⟨⟨case2 aam _,hk⟩,by rw [hv];simp;omega⟩
theorem zc (l:List Cont) (i:Nat) (y:Cont) (n:Nat) (h:∀hi:i<l.length,y.vals.length<=l[i].vals.length+n):bF (l.set i y)<=bF l+n:=by
 induction l generalizing i with
 | nil=>simp [bF]
 | cons a r ih=>
  cases i with
  | zero=>
   have:=h (by simp);simp [bF] at this ⊢;omega
  | succ i=>
   have:=ih i (fun hi=>h (by simpa using hi));simp [bF] at this ⊢;omega
theorem zd {l:List Cont} {x:Cont} (h:x∈l):x.vals.length<=bF l:=by
 induction l with
 | nil=>cases h
 | cons a r ih=>
  rcases abG.1 h with rfl|h
  ·simp [bF]
  ·have:=ih h;simp [bF] at this ⊢;omega
theorem hZ.keys {k:Int} {x:Cont} (h:hZ k x):x.keys.length<=x.vals.length:=by
 have hr:=h.right;unfold dI at hr
 split at hr
 ·simp at hr;omega
 ·split at hr
  ·simp at hr;simp [hr]
  ·cases hr
end Uw.Tryz.El
namespace Uw.Tryz.El
open Go Uw Uw.Tryz
abbrev hB (c:Cd) (w:Wd):List Blk:=wH [.d (.slice 3 (c.az.map bdC) false),.d (ae c.cells),.d (I c.maps),.d (I c.stacks),.d (I c.chans),.d (I c.main)] w.cells.length (bu w.cells) w.maps.length w.maps.length (w.maps.map aR) w.stacks.length w.stacks.length (w.stacks.map aR) w.chans.length w.chans.length (w.chans.map aR) w.uses.length (w.uses.map eS) w.splits.length (w.splits.map ix) w.aB w.values.length w.values.length (bu w.values) w.steps w.fails.length w.fails.length (cN w.fails)
abbrev frC (f:Vm.Frame):List V:=[.d (I f.task),.d (ae f.path),.d (I f.fn),.d (I f.pc),.d (ae f.loc),.d (ae f.stack),.d (.slice 2 (f.kids.map Vm.fN) false),.d (I f.many),.d (I f.spent),.d (.bool f.fail)]
structure CO (c:Cd):Prop where
 az:c.az.length<1000
 cells:c.cells.length<1000
 ins:∀b∈c.az,b.ins.length<1000
 pA:∀b∈c.az,b.locals<1000
 maps:0<=c.maps/\c.maps<9
 stacks:0<=c.stacks/\c.stacks<9
 chans:0<=c.chans/\c.chans<9
structure WI (c:Cd) (w:Wd):Prop where
 cells:w.cells.length=c.cells.length
 maps:(w.maps.length:Int)=c.maps
 stacks:(w.stacks.length:Int)=c.stacks
 chans:(w.chans.length:Int)=c.chans
 m1:∀x∈w.maps,hZ 1 x
 m2:∀x∈w.stacks,hZ 2 x
 m3:∀x∈w.chans,hZ 3 x
 many:bF w.maps+bF w.stacks+bF w.chans<=1000
 vals:w.values.length<=64
 uses:w.uses.length<=2000 * w.values.length
 splits:w.splits.length<=4001 * w.values.length
 fails:w.fails.length<=w.values.length
 LO:0<=w.aB
 str1:w.aB<=1+3 * (w.values.length:Int)
 st0:0<=w.steps
 st1:w.steps<=2000 * (w.values.length:Int)
structure Adds (w0 w:Wd) (V:Nat) (own:Nat) (aan:Nat):Prop where
 vals:w0.values.length+V=w.values.length
 uses:w.uses.length<=w0.uses.length+2000 * V+own
 splits:w.splits.length<=w0.splits.length+4001 * V+aan
 fails:w.fails.length<=w0.fails.length+V
 LO:w0.aB<=w.aB
 str:w.aB<=w0.aB+3 * (V:Int)
 steps:w.steps<=w0.steps+2000 * (V:Int)
 st0:w0.steps<=w.steps
structure Lp (c:Cd) (w0 w:Wd) (f:Vm.Frame):Prop where
 wi:WI c w
 right:Vm.right c f=true
 Ny:1<=f.task
 task1:f.task<=w.values.length
 path:f.path.length<=w0.values.length
 many:0<=f.many/\f.many<=(w.values.length:Int)
 kids:∀k∈f.kids,1<=k.1/\k.1<=(w.values.length:Int)
 adds:∃V,w0.values.length+1+V=w.values.length/\f.kids.length<=V/\w.uses.length<=w0.uses.length+2000 * V+f.spent.toNat/\w.splits.length+(if f.kids=[] then 0 else 1)<=w0.splits.length+4001 * V+2 * f.spent.toNat/\w.fails.length<=w0.fails.length+V/\w0.aB<=w.aB/\w.aB<=w0.aB+3 * (V:Int)/\w0.steps<=w.steps/\w.steps<=w0.steps+2000 * (V:Int)
structure Done (c:Cd) (w0 w:Wd):Prop where
 wi:WI c w
 adds:∃V,w0.values.length+1+V=w.values.length/\w.uses.length<=w0.uses.length+2000 * (V+1)/\w.splits.length<=w0.splits.length+4001 * (V+1)/\w.fails.length<=w0.fails.length+(V+1)/\w0.aB<=w.aB/\w.aB<=w0.aB+3 * (V:Int)/\w0.steps<=w.steps/\w.steps<=w0.steps+2000 * ((V:Int)+1)
theorem kD {c:Cd} (hc:CO c) {w0 w:Wd} {f:Vm.Frame} (h:Lp c w0 w f):Vm.Tiny c f:=by
 have g:=Vm.Good.of h.right;obtain ⟨V,a1,a2,_⟩:=h.adds;have hv:=h.wi.vals;refine ⟨hc.az,hc.cells,hc.ins,by have:=h.path;omega,?_,by have:=g.stack;omega,by omega⟩;have hl:=g.loc;have hb:Vm.dp c f∈c.az:=by
  unfold Vm.dp;have h1:=g.fn0;have h2:=g.fn1;rw [acn,aa9 (by omega)];exact abg _
 have:=hc.pA _ hb;omega
theorem lv {c:Cd} (hc:CO c) {w0 w:Wd} {f g:Vm.Frame} {a:Vm.Ask} (h:Lp c w0 w f) (hk:Vm.Kept c (Vm.dp c f) f g a):Vm.lu g:=by
 have t:=kD hc h;have gs:=hk.good.stack;have h5:=h.many;have h6:=h.wi.vals;have t1:=t.path;have t2:=t.loc;have t3:=t.kids;exact ⟨by rw [hk.path];exact t1,by rw [hk.loc];exact t2,by omega,by rw [hk.kids];exact t3,by rw [hk.many];omega,by rw [hk.many];omega⟩
abbrev SL (c:Cd) (ab:Int):Wd×Vm.Frame×Int×Int->St:=fun (w,f,s,b)=>lpS (hB c w) (frC f) s b ab
def sc (c:Cd) (R:Wd×Int) (Q:ay->St->Prop):Prop:=∀s,Weak s (exS (hB c R.1) R.2)->Q (.exit 0) s
theorem VE (c:Cd) (w:Wd) (p:List Int) (s cell:Int):hB c (pd w p s cell)=wH [.d (.slice 3 (c.az.map bdC) false),.d (ae c.cells),.d (I c.maps),.d (I c.stacks),.d (I c.chans),.d (I c.main)] w.cells.length (bu w.cells) w.maps.length w.maps.length (w.maps.map aR) w.stacks.length w.stacks.length (w.stacks.map aR) w.chans.length w.chans.length (w.chans.map aR) (w.uses.length+1) (w.uses.map eS++[eS ⟨s,p,0,cell,⟨0,0,0,0⟩,w.cells.getD cell.toNat 0,false⟩]) w.splits.length (w.splits.map ix) w.aB w.values.length w.values.length (bu w.values) w.steps w.fails.length w.fails.length (cN w.fails):=by
 simp [pd]
theorem LP (c:Cd) (hc:CO c) (rec:Rec) (ab:Int) (R:Wd×Int) (w0 w:Wd) (f g:Vm.Frame) (a:Vm.Ask) (s b:Int) (hl:Lp c w0 w f) (hn:Vm.cz c f = .ok g a) (k1:a.kind=1)
  (inv:Wd×Vm.Frame×Int×Int->Prop) (mu:Wd×Vm.Frame×Int×Int->Nat) {Q:ay->St->Prop}
  (hgo:(Vm.aV g 1 a.b [w.cells.getD a.a.toNat 0]).2=0->inv (pd w g.path s a.a,(Vm.aV g 1 a.b [w.cells.getD a.a.toNat 0]).1,s,b)/\mu (pd w g.path s a.a,(Vm.aV g 1 a.b [w.cells.getD a.a.toNat 0]).1,s,b)<mu (w,f,s,b))
  (hx:(Vm.aV g 1 a.b [w.cells.getD a.a.toNat 0]).2≠0->sc c (pd w g.path s a.a,(Vm.aV g 1 a.b [w.cells.getD a.a.toNat 0]).2) Q) :
  WT P0 (cP (SL c ab) inv mu (w,f,s,b) Q) (exec ruB (SL c ab (w,f,s,b)) Tree.done):=by
 have hask:=bX hl.right hn;obtain ⟨hao,ym,hkept⟩:=hask;have hN:=Vm.s21 c f (kD hc hl);rw [hn] at hN;have hcell:=hao.cell (.inl k1);have hwi:=hl.wi;have htf:Vm.lu g:=lv hc hl hkept;have hT:=Vm.LM g a [w.cells.getD a.a.toNat 0] htf (by simp);obtain ⟨ak,aa,ab',⟨o1,o2,o3,o4⟩,aargs⟩:=a;simp only at k1 hcell;subst k1;simp only at hgo hx hT;have hT':=hT.args (ds:=[Vm.bW g,_,.slice 1 [[I (w.cells.getD aa.toNat 0)]] true]) (.cons (.refl _) (.cons (.refl _) (.cons (.slice (.refl _)) (.refl _))));generalize htold:Vm.aV g 1 ab' [w.cells.getD aa.toNat 0]=T at *;have hpl:g.path.length<1000000:=by have h1:=hl.path;have h2:=hwi.vals;obtain ⟨V,h3,_⟩:=hl.adds;rw [hkept.path];omega
 have hu:w.uses.length<1000000:=by have h1:=hwi.uses;have h2:=hwi.vals;omega
 have hcl:(aa:Int)<(w.cells.length:Nat):=by rw [hwi.cells];exact hcell.2
 have e1:(bu w.cells)[0+aa.toNat]? = some [I (w.cells.getD aa.toNat 0)]:=by
  have h1:aa.toNat<w.cells.length:=by omega
  simp [bu,h1]
 have hB':=VE c w g.path s aa;generalize hW:pd w g.path s aa=W at *;obtain ⟨T1,T2⟩:=T;refine Vg s b ab aa ab' o1 o2 o3 o4 T2 (w.cells.getD aa.toNat 0) hN (X2 _ _ _ _ _ _ _ _ _ _ _ _ _ _ _ _ _ _ _ _ _ _ _ _ _ _ _ _ _ _ _ _ _ _ _ _ _ _ g.path s aa _ hcell.1 hcl (by simp [bu]) e1 hu (by simp) hpl) hT' ?_ ?_
 ·intro h0 st hs
  obtain ⟨h1,h2⟩:=hgo h0;exact ⟨_,h1,h2,by show Weak st (lpS (hB c W) (frC T1) s b ab);rw [hB'];exact hs⟩
 ·intro h0 st hs
  exact hx h0 st (by show Weak st (exS (hB c W) T2);rw [hB'];exact hs)
end Uw.Tryz.El
namespace Uw.Tryz.El
open Go Uw Uw.Tryz
theorem SH (c:Cd) (w:Wd) (p:List Int) (s cell v:Int):hB c (iM w p s cell v)=wH [.d (.slice 3 (c.az.map bdC) false),.d (ae c.cells),.d (I c.maps),.d (I c.stacks),.d (I c.chans),.d (I c.main)] w.cells.length ((bu w.cells).set (0+cell.toNat) [I v]) w.maps.length w.maps.length (w.maps.map aR) w.stacks.length w.stacks.length (w.stacks.map aR) w.chans.length w.chans.length (w.chans.map aR) (w.uses.length+1) (w.uses.map eS++[eS ⟨s,p,0,cell,⟨1,0,v,0⟩,0,false⟩]) w.splits.length (w.splits.map ix) w.aB w.values.length w.values.length (bu w.values) w.steps w.fails.length w.fails.length (cN w.fails):=by
 simp [iM,bu,abI]
theorem DC {c:Cd} {w0 w:Wd} {f g:Vm.Frame} {a:Vm.Ask} (hl:Lp c w0 w f) (hk:Vm.Kept c (Vm.dp c f) f g a):g.path.length<1000000:=by
 have h1:=hl.path;have h2:=hl.wi.vals;obtain ⟨V,h3,_⟩:=hl.adds;rw [hk.path];omega
theorem DF {c:Cd} {w:Wd} (h:WI c w):w.uses.length<1000000/\w.splits.length<1000000/\w.fails.length<1000000/\w.aB<1000000/\w.steps<1000000000:=by
 have h1:=h.uses;have h2:=h.vals;have h3:=h.splits;have h4:=h.fails;have h5:=h.str1;have h6:=h.st1;omega
theorem JJ (c:Cd) (hc:CO c) (ab:Int) (w0 w:Wd) (f g:Vm.Frame) (a:Vm.Ask) (s b:Int) (hl:Lp c w0 w f) (hn:Vm.cz c f = .ok g a) (k1:a.kind=2) (inv:Wd×Vm.Frame×Int×Int->Prop) (mu:Wd×Vm.Frame×Int×Int->Nat) {Q:ay->St->Prop}
  (hgo:(Vm.aV g 2 a.b []).2=0->inv (iM w g.path s a.a a.b,(Vm.aV g 2 a.b []).1,s,b)/\mu (iM w g.path s a.a a.b,(Vm.aV g 2 a.b []).1,s,b)<mu (w,f,s,b))
  (hx:(Vm.aV g 2 a.b []).2≠0->sc c (iM w g.path s a.a a.b,(Vm.aV g 2 a.b []).2) Q) :
  WT P0 (cP (SL c ab) inv mu (w,f,s,b) Q) (exec ruB (SL c ab (w,f,s,b)) Tree.done):=by
 obtain ⟨hao,ym,hkept⟩:=bX hl.right hn;have hN:=Vm.s21 c f (kD hc hl);rw [hn] at hN;have hwi:=hl.wi;have htf:Vm.lu g:=lv hc hl hkept;have hpl:=DC hl hkept;obtain ⟨hul,hsl,hfl,hst,hsp⟩:=DF hwi;have hcell:=hao.cell (.inr k1);have hT:=Vm.LM g a [] htf (by simp);obtain ⟨ak,aa,ab',⟨o1,o2,o3,o4⟩,aargs⟩:=a;simp only at k1 hcell;subst k1;simp only at hgo hx hT;have hT':=hT.args (ds:=[Vm.bW g,_,.nil]) (.cons (.refl _) (.cons (.refl _) (.cons (.nil 1) (.refl _))));generalize htold:Vm.aV g 2 ab' []=T at *;have hcl:(aa:Int)<(w.cells.length:Nat):=by rw [hwi.cells];exact hcell.2
 have e1:(bu w.cells)[0+aa.toNat]? = some [I (w.cells.getD aa.toNat 0)]:=by
  have h1:aa.toNat<w.cells.length:=by omega
  simp [bu,h1]
 have hB':=SH c w g.path s aa ab';generalize hW:iM w g.path s aa ab' = W at *;obtain ⟨T1,T2⟩:=T;refine SD s b ab aa ab' o1 o2 o3 o4 T2 hN (U7 s aa ab' _ hcell.1 hcl (by simp [bu]) e1 hul (by simp) hpl) hT' ?_ ?_
 ·intro h0 st hs
  obtain ⟨h1,h2⟩:=hgo h0;exact ⟨_,h1,h2,by show Weak st (lpS (hB c W) (frC T1) s b ab);rw [hB'];exact hs⟩
 ·intro h0 st hs
  exact hx h0 st (by show Weak st (exS (hB c W) T2);rw [hB'];exact hs)
end Uw.Tryz.El
namespace Uw.Tryz.El
open Go Uw Uw.Tryz
variable {C1 C2 C3 C4 C5 C6 : Dat} {xc : Nat} {rc : List (List Dat)} {gm xm : Nat} {rm : List (List Dat)} {gs xs : Nat} {rs : List (List Dat)} {gc xh : Nat} {rh : List (List Dat)} {xu : Nat} {ru : List (List Dat)} {xp : Nat} {rp : List (List Dat)} {st : Int} {gv xv : Nat} {rv : List (List Dat)} {sp : Int} {gf xf : Nat} {rf : List (List Dat)}
theorem ud (ms ss hs:List Cont) (fl:Bool) (a1:ms.length=xm) (a2:ss.length=xs) (a3:hs.length=xh) (b1:rm=ms.map aR) (b2:rs=ss.map aR) (b3:rh=hs.map aR) (hm:xm<1000) (hs1:xs<1000) (hh:xh<1000) (bd:bF ms+bF ss+bF hs<1000000) (hf:decide (1000<0+(bF ms:Int)+bF ss+bF hs)=fl) :
  eP P0 dz [.ptr 0 0] (wG [.d C1,.d C2,.d C3,.d C4,.d C5,.d C6] xc rc gm xm rm gs xs rs gc xh rh xu ru xp rp st gv xv rv sp gf xf rf)
   (.d (.bool fl)) (wG [.d C1,.d C2,.d C3,.d C4,.d C5,.d C6] xc rc gm xm rm gs xs rs gc xh rh xu ru xp rp st gv xv rv sp gf xf rf):=by
 subst a1 a2 a3 b1 b2 b3 hf;exact X4 ms ss hs hm hs1 hh (by omega) (by omega) (by omega)
theorem DG (w:Wd) (p:List Int) (s:Int) (o:Op4) (hk:ofK o.kind=1):bG w p s o={ w with maps:=w.maps.set o.obj.toNat (doS (w.maps.getD o.obj.toNat default) o).1,uses:=w.uses++[⟨s,p,1,o.obj,o,(doS (w.maps.getD o.obj.toNat default) o).2.1,(doS (w.maps.getD o.obj.toNat default) o).2.2⟩] }:=by
 unfold bG nW pf qy;rw [hk];rfl
theorem SI (c:Cd) (w:Wd) (p:List Int) (s:Int) (o:Op4) (hk:ofK o.kind=1):hB c (bG w p s o)=wH [.d (.slice 3 (c.az.map bdC) false),.d (ae c.cells),.d (I c.maps),.d (I c.stacks),.d (I c.chans),.d (I c.main)] w.cells.length (bu w.cells) w.maps.length w.maps.length ((w.maps.map aR).set (0+o.obj.toNat) (aR (doS (w.maps.getD o.obj.toNat default) o).1)) w.stacks.length w.stacks.length (w.stacks.map aR) w.chans.length w.chans.length (w.chans.map aR) (w.uses.length+1) (w.uses.map eS++[eS ⟨s,p,1,o.obj,o,(doS (w.maps.getD o.obj.toNat default) o).2.1,(doS (w.maps.getD o.obj.toNat default) o).2.2⟩]) w.splits.length (w.splits.map ix) w.aB w.values.length w.values.length (bu w.values) w.steps w.fails.length w.fails.length (cN w.fails):=by
 rw [DG w p s o hk];simp [abI]
theorem JK (c:Cd) (hc:CO c) (ab:Int) (w0 w:Wd) (f g:Vm.Frame) (a:Vm.Ask) (s b:Int) (hl:Lp c w0 w f) (hn:Vm.cz c f = .ok g a) (k1:a.kind=3) (hk:ofK a.op.1=1) (inv:Wd×Vm.Frame×Int×Int->Prop) (mu:Wd×Vm.Frame×Int×Int->Nat) {Q:ay->St->Prop}
  (hgo:gU (bG w g.path s (opA a))=false->(Vm.aV g 3 a.b [eA w (opA a)]).2=0->inv (bG w g.path s (opA a),(Vm.aV g 3 a.b [eA w (opA a)]).1,s,b)/\mu (bG w g.path s (opA a),(Vm.aV g 3 a.b [eA w (opA a)]).1,s,b)<mu (w,f,s,b))
  (hx:gU (bG w g.path s (opA a))=false->(Vm.aV g 3 a.b [eA w (opA a)]).2≠0->sc c (bG w g.path s (opA a),(Vm.aV g 3 a.b [eA w (opA a)]).2) Q)
  (hy:gU (bG w g.path s (opA a))=true->sc c (bG w g.path s (opA a),8) Q) :
  WT P0 (cP (SL c ab) inv mu (w,f,s,b) Q) (exec ruB (SL c ab (w,f,s,b)) Tree.done):=by
 obtain ⟨hao,ym,hkept⟩:=bX hl.right hn;have hN:=Vm.s21 c f (kD hc hl);rw [hn] at hN;have hwi:=hl.wi;have htf:Vm.lu g:=lv hc hl hkept;have hpl:=DC hl hkept;obtain ⟨hul,hsl,hfl,hst,hsp⟩:=DF hwi;have hop:=hao.op k1;have hT:=Vm.LM g a [eA w (opA a)] htf (by simp);obtain ⟨ak,aa,ab',⟨o1,o2,o3,o4⟩,aargs⟩:=a;simp only at k1 hop hk;subst k1;simp only [opA] at hgo hx hy hT hop;have hob:o2<(w.maps.length:Nat):=by
  have h:=hop.2.2.2;unfold FX at h;have h2:=hwi.maps;unfold ofK at hk
  repeat' split at hk
  all_goals first|(exfalso;omega)|(repeat' split at h)<;>omega
 have hi:o2.toNat<w.maps.length:=by omega
 have hmem:w.maps[o2.toNat]'hi∈w.maps:=abg _;have hco:=hwi.m1 _ hmem;have hgd:w.maps.getD o2.toNat default=w.maps[o2.toNat]'hi:=by simp [hi]
 have Wq:=hwi.many;have hmv:=zd hmem;have hky:=hco.keys;have hdo:=Nx ⟨o1,o2,o3,o4⟩ hco;have hset:=zc w.maps o2.toNat (doS (w.maps[o2.toNat]'hi) ⟨o1,o2,o3,o4⟩).1 1 (fun _=>hdo.2);have hD:=y9 (w.maps[o2.toNat]'hi) ⟨o1,o2,o3,o4⟩ (by omega) (by omega);have hV:=Vm.s18 o1 o2 o3 o4 (doS (w.maps[o2.toNat]'hi) ⟨o1,o2,o3,o4⟩).2.1 (doS (w.maps[o2.toNat]'hi) ⟨o1,o2,o3,o4⟩).2.2;have e1:(w.maps.map aR)[0+o2.toNat]? = some (aR (w.maps[o2.toNat]'hi)):=by simp [hi]
 have hB':=SI c w g.path s ⟨o1,o2,o3,o4⟩ hk;have hcw:=DG w g.path s ⟨o1,o2,o3,o4⟩ hk;have hcv:eA w ⟨o1,o2,o3,o4⟩=Vm.jP o1 (doS (w.maps[o2.toNat]'hi) ⟨o1,o2,o3,o4⟩).2.1 (doS (w.maps[o2.toNat]'hi) ⟨o1,o2,o3,o4⟩).2.2:=by
  unfold eA nW pf;rw [hk,<- hgd];rfl
 have hkc:=hc.maps;have hks:=hc.stacks;have hkh:=hc.chans;have hm1:=hwi.maps;have hm2:=hwi.stacks;have hm3:=hwi.chans;have hB2:hB c (bG w g.path s ⟨o1,o2,o3,o4⟩)=_:=hB';rw [hgd] at hB2;have hfu:gU (bG w g.path s ⟨o1,o2,o3,o4⟩)=decide (1000<0+(bF (w.maps.set o2.toNat (doS (w.maps[o2.toNat]'hi) ⟨o1,o2,o3,o4⟩).1):Int)+bF w.stacks+bF w.chans):=by
  rw [hcw,hgd];rfl
 rw [hcv] at hgo hx hT;generalize bG w g.path s ⟨o1,o2,o3,o4⟩=W at *;generalize hdd:doS (w.maps[o2.toNat]'hi) ⟨o1,o2,o3,o4⟩=D at *;generalize hxx:w.maps[o2.toNat]'hi=X at *;have hT':=hT.args (ds:=[Vm.bW g,_,.slice 1 [[I (Vm.jP o1 D.2.1 D.2.2)]] true]) (.cons (.refl _) (.cons (.refl _) (.cons (.slice (.refl _)) (.refl _))));generalize htold:Vm.aV g 3 ab' [Vm.jP o1 D.2.1 D.2.2]=T at *;obtain ⟨T1,T2⟩:=T;obtain ⟨⟨dk,dks,dvs⟩,dv,dis⟩:=D;obtain ⟨ck,cks,cvs⟩:=X;simp only at hB2 hD hV hset hT' hgo hx hfu
 cases hfl:gU W with
 | false=>
  rw [hfl] at hfu;have hgo:=hgo hfl;have hx:=hx hfl;refine Hr s b ab aa ab' o1 o2 o3 o4 T2 _ hN (Nq s o1 o2 o3 o4 dv _ ck dk dis false cks cvs dks dvs hk hop.2.2.1 hob (by simp) e1 hul (by simp) hpl hD hV (ud (w.maps.set o2.toNat ⟨dk,dks,dvs⟩) w.stacks w.chans false (by simp) (rfl) (rfl) (by simp [abI,aR]) (rfl) (rfl) (by omega) (by omega) (by omega) (by omega) hfu.symm)) hT' ?_ ?_
  ·intro h0 st hs
   obtain ⟨h1,h2⟩:=hgo h0;exact ⟨_,h1,h2,by show Weak st (lpS (hB c W) (frC T1) s b ab);rw [hB2];exact hs⟩
  ·intro h0 st hs
   exact hx h0 st (by show Weak st (exS (hB c W) T2);rw [hB2];exact hs)
 | true=>
  rw [hfl] at hfu;refine Ht s b ab aa ab' o1 o2 o3 o4 0 hN (Nq s o1 o2 o3 o4 dv _ ck dk dis true cks cvs dks dvs hk hop.2.2.1 hob (by simp) e1 hul (by simp) hpl hD hV (ud (w.maps.set o2.toNat ⟨dk,dks,dvs⟩) w.stacks w.chans true (by simp) (rfl) (rfl) (by simp [abI,aR]) (rfl) (rfl) (by omega) (by omega) (by omega) (by omega) hfu.symm)) ?_;intro st hs;exact hy hfl st (by show Weak st (exS (hB c W) 8);rw [hB2];exact hs)
theorem DI (w:Wd) (p:List Int) (s:Int) (o:Op4) (hk:ofK o.kind=2):bG w p s o={ w with stacks:=w.stacks.set o.obj.toNat (doS (w.stacks.getD o.obj.toNat default) o).1,uses:=w.uses++[⟨s,p,2,o.obj,o,(doS (w.stacks.getD o.obj.toNat default) o).2.1,(doS (w.stacks.getD o.obj.toNat default) o).2.2⟩] }:=by
 unfold bG nW pf qy;rw [hk];rfl
theorem SJ (c:Cd) (w:Wd) (p:List Int) (s:Int) (o:Op4) (hk:ofK o.kind=2):hB c (bG w p s o)=wH [.d (.slice 3 (c.az.map bdC) false),.d (ae c.cells),.d (I c.maps),.d (I c.stacks),.d (I c.chans),.d (I c.main)] w.cells.length (bu w.cells) w.maps.length w.maps.length (w.maps.map aR) w.stacks.length w.stacks.length ((w.stacks.map aR).set (0+o.obj.toNat) (aR (doS (w.stacks.getD o.obj.toNat default) o).1)) w.chans.length w.chans.length (w.chans.map aR) (w.uses.length+1) (w.uses.map eS++[eS ⟨s,p,2,o.obj,o,(doS (w.stacks.getD o.obj.toNat default) o).2.1,(doS (w.stacks.getD o.obj.toNat default) o).2.2⟩]) w.splits.length (w.splits.map ix) w.aB w.values.length w.values.length (bu w.values) w.steps w.fails.length w.fails.length (cN w.fails):=by
 rw [DI w p s o hk];simp [abI]
theorem JL (c:Cd) (hc:CO c) (ab:Int) (w0 w:Wd) (f g:Vm.Frame) (a:Vm.Ask) (s b:Int) (hl:Lp c w0 w f) (hn:Vm.cz c f = .ok g a) (k1:a.kind=3) (hk:ofK a.op.1=2) (inv:Wd×Vm.Frame×Int×Int->Prop) (mu:Wd×Vm.Frame×Int×Int->Nat) {Q:ay->St->Prop}
  (hgo:gU (bG w g.path s (opA a))=false->(Vm.aV g 3 a.b [eA w (opA a)]).2=0->inv (bG w g.path s (opA a),(Vm.aV g 3 a.b [eA w (opA a)]).1,s,b)/\mu (bG w g.path s (opA a),(Vm.aV g 3 a.b [eA w (opA a)]).1,s,b)<mu (w,f,s,b))
  (hx:gU (bG w g.path s (opA a))=false->(Vm.aV g 3 a.b [eA w (opA a)]).2≠0->sc c (bG w g.path s (opA a),(Vm.aV g 3 a.b [eA w (opA a)]).2) Q)
  (hy:gU (bG w g.path s (opA a))=true->sc c (bG w g.path s (opA a),8) Q) :
  WT P0 (cP (SL c ab) inv mu (w,f,s,b) Q) (exec ruB (SL c ab (w,f,s,b)) Tree.done):=by
 obtain ⟨hao,ym,hkept⟩:=bX hl.right hn;have hN:=Vm.s21 c f (kD hc hl);rw [hn] at hN;have hwi:=hl.wi;have htf:Vm.lu g:=lv hc hl hkept;have hpl:=DC hl hkept;obtain ⟨hul,hsl,hfl,hst,hsp⟩:=DF hwi;have hop:=hao.op k1;have hT:=Vm.LM g a [eA w (opA a)] htf (by simp);obtain ⟨ak,aa,ab',⟨o1,o2,o3,o4⟩,aargs⟩:=a;simp only at k1 hop hk;subst k1;simp only [opA] at hgo hx hy hT hop;have hob:o2<(w.stacks.length:Nat):=by
  have h:=hop.2.2.2;unfold FX at h;have h2:=hwi.stacks;unfold ofK at hk
  repeat' split at hk
  all_goals first|(exfalso;omega)|(repeat' split at h)<;>omega
 have hi:o2.toNat<w.stacks.length:=by omega
 have hmem:w.stacks[o2.toNat]'hi∈w.stacks:=abg _;have hco:=hwi.m2 _ hmem;have hgd:w.stacks.getD o2.toNat default=w.stacks[o2.toNat]'hi:=by simp [hi]
 have Wq:=hwi.many;have hmv:=zd hmem;have hky:=hco.keys;have hdo:=Nx ⟨o1,o2,o3,o4⟩ hco;have hset:=zc w.stacks o2.toNat (doS (w.stacks[o2.toNat]'hi) ⟨o1,o2,o3,o4⟩).1 1 (fun _=>hdo.2);have hD:=y9 (w.stacks[o2.toNat]'hi) ⟨o1,o2,o3,o4⟩ (by omega) (by omega);have hV:=Vm.s18 o1 o2 o3 o4 (doS (w.stacks[o2.toNat]'hi) ⟨o1,o2,o3,o4⟩).2.1 (doS (w.stacks[o2.toNat]'hi) ⟨o1,o2,o3,o4⟩).2.2;have e1:(w.stacks.map aR)[0+o2.toNat]? = some (aR (w.stacks[o2.toNat]'hi)):=by simp [hi]
 have hB':=SJ c w g.path s ⟨o1,o2,o3,o4⟩ hk;have hcw:=DI w g.path s ⟨o1,o2,o3,o4⟩ hk;have hcv:eA w ⟨o1,o2,o3,o4⟩=Vm.jP o1 (doS (w.stacks[o2.toNat]'hi) ⟨o1,o2,o3,o4⟩).2.1 (doS (w.stacks[o2.toNat]'hi) ⟨o1,o2,o3,o4⟩).2.2:=by
  unfold eA nW pf;rw [hk,<- hgd];rfl
 have hkc:=hc.maps;have hks:=hc.stacks;have hkh:=hc.chans;have hm1:=hwi.maps;have hm2:=hwi.stacks;have hm3:=hwi.chans;have hB2:hB c (bG w g.path s ⟨o1,o2,o3,o4⟩)=_:=hB';rw [hgd] at hB2;have hfu:gU (bG w g.path s ⟨o1,o2,o3,o4⟩)=decide (1000<0+(bF w.maps:Int)+bF (w.stacks.set o2.toNat (doS (w.stacks[o2.toNat]'hi) ⟨o1,o2,o3,o4⟩).1)+bF w.chans):=by
  rw [hcw,hgd];rfl
 rw [hcv] at hgo hx hT;generalize bG w g.path s ⟨o1,o2,o3,o4⟩=W at *;generalize hdd:doS (w.stacks[o2.toNat]'hi) ⟨o1,o2,o3,o4⟩=D at *;generalize hxx:w.stacks[o2.toNat]'hi=X at *;have hT':=hT.args (ds:=[Vm.bW g,_,.slice 1 [[I (Vm.jP o1 D.2.1 D.2.2)]] true]) (.cons (.refl _) (.cons (.refl _) (.cons (.slice (.refl _)) (.refl _))));generalize htold:Vm.aV g 3 ab' [Vm.jP o1 D.2.1 D.2.2]=T at *;obtain ⟨T1,T2⟩:=T;obtain ⟨⟨dk,dks,dvs⟩,dv,dis⟩:=D;obtain ⟨ck,cks,cvs⟩:=X;simp only at hB2 hD hV hset hT' hgo hx hfu
 cases hfl:gU W with
 | false=>
  rw [hfl] at hfu;have hgo:=hgo hfl;have hx:=hx hfl;refine Hr s b ab aa ab' o1 o2 o3 o4 T2 _ hN (Nr s o1 o2 o3 o4 dv _ ck dk dis false cks cvs dks dvs hk hop.2.2.1 hob (by simp) e1 hul (by simp) hpl hD hV (ud w.maps (w.stacks.set o2.toNat ⟨dk,dks,dvs⟩) w.chans false (rfl) (by simp) (rfl) (rfl) (by simp [abI,aR]) (rfl) (by omega) (by omega) (by omega) (by omega) hfu.symm)) hT' ?_ ?_
  ·intro h0 st hs
   obtain ⟨h1,h2⟩:=hgo h0;exact ⟨_,h1,h2,by show Weak st (lpS (hB c W) (frC T1) s b ab);rw [hB2];exact hs⟩
  ·intro h0 st hs
   exact hx h0 st (by show Weak st (exS (hB c W) T2);rw [hB2];exact hs)
 | true=>
  rw [hfl] at hfu;refine Ht s b ab aa ab' o1 o2 o3 o4 0 hN (Nr s o1 o2 o3 o4 dv _ ck dk dis true cks cvs dks dvs hk hop.2.2.1 hob (by simp) e1 hul (by simp) hpl hD hV (ud w.maps (w.stacks.set o2.toNat ⟨dk,dks,dvs⟩) w.chans true (rfl) (by simp) (rfl) (rfl) (by simp [abI,aR]) (rfl) (by omega) (by omega) (by omega) (by omega) hfu.symm)) ?_;intro st hs;exact hy hfl st (by show Weak st (exS (hB c W) 8);rw [hB2];exact hs)
theorem DJ (w:Wd) (p:List Int) (s:Int) (o:Op4) (hk:ofK o.kind=3):bG w p s o={ w with chans:=w.chans.set o.obj.toNat (doS (w.chans.getD o.obj.toNat default) o).1,uses:=w.uses++[⟨s,p,3,o.obj,o,(doS (w.chans.getD o.obj.toNat default) o).2.1,(doS (w.chans.getD o.obj.toNat default) o).2.2⟩] }:=by
 unfold bG nW pf qy;rw [hk];rfl
theorem SK (c:Cd) (w:Wd) (p:List Int) (s:Int) (o:Op4) (hk:ofK o.kind=3):hB c (bG w p s o)=wH [.d (.slice 3 (c.az.map bdC) false),.d (ae c.cells),.d (I c.maps),.d (I c.stacks),.d (I c.chans),.d (I c.main)] w.cells.length (bu w.cells) w.maps.length w.maps.length (w.maps.map aR) w.stacks.length w.stacks.length (w.stacks.map aR) w.chans.length w.chans.length ((w.chans.map aR).set (0+o.obj.toNat) (aR (doS (w.chans.getD o.obj.toNat default) o).1)) (w.uses.length+1) (w.uses.map eS++[eS ⟨s,p,3,o.obj,o,(doS (w.chans.getD o.obj.toNat default) o).2.1,(doS (w.chans.getD o.obj.toNat default) o).2.2⟩]) w.splits.length (w.splits.map ix) w.aB w.values.length w.values.length (bu w.values) w.steps w.fails.length w.fails.length (cN w.fails):=by
 rw [DJ w p s o hk];simp [abI]
theorem JM (c:Cd) (hc:CO c) (ab:Int) (w0 w:Wd) (f g:Vm.Frame) (a:Vm.Ask) (s b:Int) (hl:Lp c w0 w f) (hn:Vm.cz c f = .ok g a) (k1:a.kind=3) (hk:ofK a.op.1=3) (inv:Wd×Vm.Frame×Int×Int->Prop) (mu:Wd×Vm.Frame×Int×Int->Nat) {Q:ay->St->Prop}
  (hgo:gU (bG w g.path s (opA a))=false->(Vm.aV g 3 a.b [eA w (opA a)]).2=0->inv (bG w g.path s (opA a),(Vm.aV g 3 a.b [eA w (opA a)]).1,s,b)/\mu (bG w g.path s (opA a),(Vm.aV g 3 a.b [eA w (opA a)]).1,s,b)<mu (w,f,s,b))
  (hx:gU (bG w g.path s (opA a))=false->(Vm.aV g 3 a.b [eA w (opA a)]).2≠0->sc c (bG w g.path s (opA a),(Vm.aV g 3 a.b [eA w (opA a)]).2) Q)
  (hy:gU (bG w g.path s (opA a))=true->sc c (bG w g.path s (opA a),8) Q) :
  WT P0 (cP (SL c ab) inv mu (w,f,s,b) Q) (exec ruB (SL c ab (w,f,s,b)) Tree.done):=by
 obtain ⟨hao,ym,hkept⟩:=bX hl.right hn;have hN:=Vm.s21 c f (kD hc hl);rw [hn] at hN;have hwi:=hl.wi;have htf:Vm.lu g:=lv hc hl hkept;have hpl:=DC hl hkept;obtain ⟨hul,hsl,hfl,hst,hsp⟩:=DF hwi;have hop:=hao.op k1;have hT:=Vm.LM g a [eA w (opA a)] htf (by simp);obtain ⟨ak,aa,ab',⟨o1,o2,o3,o4⟩,aargs⟩:=a;simp only at k1 hop hk;subst k1;simp only [opA] at hgo hx hy hT hop;have hob:o2<(w.chans.length:Nat):=by
  have h:=hop.2.2.2;unfold FX at h;have h2:=hwi.chans;unfold ofK at hk
  repeat' split at hk
  all_goals first|(exfalso;omega)|(repeat' split at h)<;>omega
 have hi:o2.toNat<w.chans.length:=by omega
 have hmem:w.chans[o2.toNat]'hi∈w.chans:=abg _;have hco:=hwi.m3 _ hmem;have hgd:w.chans.getD o2.toNat default=w.chans[o2.toNat]'hi:=by simp [hi]
 have Wq:=hwi.many;have hmv:=zd hmem;have hky:=hco.keys;have hdo:=Nx ⟨o1,o2,o3,o4⟩ hco;have hset:=zc w.chans o2.toNat (doS (w.chans[o2.toNat]'hi) ⟨o1,o2,o3,o4⟩).1 1 (fun _=>hdo.2);have hD:=y9 (w.chans[o2.toNat]'hi) ⟨o1,o2,o3,o4⟩ (by omega) (by omega);have hV:=Vm.s18 o1 o2 o3 o4 (doS (w.chans[o2.toNat]'hi) ⟨o1,o2,o3,o4⟩).2.1 (doS (w.chans[o2.toNat]'hi) ⟨o1,o2,o3,o4⟩).2.2;have e1:(w.chans.map aR)[0+o2.toNat]? = some (aR (w.chans[o2.toNat]'hi)):=by simp [hi]
 have hB':=SK c w g.path s ⟨o1,o2,o3,o4⟩ hk;have hcw:=DJ w g.path s ⟨o1,o2,o3,o4⟩ hk;have hcv:eA w ⟨o1,o2,o3,o4⟩=Vm.jP o1 (doS (w.chans[o2.toNat]'hi) ⟨o1,o2,o3,o4⟩).2.1 (doS (w.chans[o2.toNat]'hi) ⟨o1,o2,o3,o4⟩).2.2:=by
  unfold eA nW pf;rw [hk,<- hgd];rfl
 have hkc:=hc.maps;have hks:=hc.stacks;have hkh:=hc.chans;have hm1:=hwi.maps;have hm2:=hwi.stacks;have hm3:=hwi.chans;have hB2:hB c (bG w g.path s ⟨o1,o2,o3,o4⟩)=_:=hB';rw [hgd] at hB2;have hfu:gU (bG w g.path s ⟨o1,o2,o3,o4⟩)=decide (1000<0+(bF w.maps:Int)+bF w.stacks+bF (w.chans.set o2.toNat (doS (w.chans[o2.toNat]'hi) ⟨o1,o2,o3,o4⟩).1)):=by
  rw [hcw,hgd];rfl
 rw [hcv] at hgo hx hT;generalize bG w g.path s ⟨o1,o2,o3,o4⟩=W at *;generalize hdd:doS (w.chans[o2.toNat]'hi) ⟨o1,o2,o3,o4⟩=D at *;generalize hxx:w.chans[o2.toNat]'hi=X at *;have hT':=hT.args (ds:=[Vm.bW g,_,.slice 1 [[I (Vm.jP o1 D.2.1 D.2.2)]] true]) (.cons (.refl _) (.cons (.refl _) (.cons (.slice (.refl _)) (.refl _))));generalize htold:Vm.aV g 3 ab' [Vm.jP o1 D.2.1 D.2.2]=T at *;obtain ⟨T1,T2⟩:=T;obtain ⟨⟨dk,dks,dvs⟩,dv,dis⟩:=D;obtain ⟨ck,cks,cvs⟩:=X;simp only at hB2 hD hV hset hT' hgo hx hfu
 cases hfl:gU W with
 | false=>
  rw [hfl] at hfu;have hgo:=hgo hfl;have hx:=hx hfl;refine Hr s b ab aa ab' o1 o2 o3 o4 T2 _ hN (Nu s o1 o2 o3 o4 dv _ ck dk dis false cks cvs dks dvs hk hop.2.2.1 hob (by simp) e1 hul (by simp) hpl hD hV (ud w.maps w.stacks (w.chans.set o2.toNat ⟨dk,dks,dvs⟩) false (rfl) (rfl) (by simp) (rfl) (rfl) (by simp [abI,aR]) (by omega) (by omega) (by omega) (by omega) hfu.symm)) hT' ?_ ?_
  ·intro h0 st hs
   obtain ⟨h1,h2⟩:=hgo h0;exact ⟨_,h1,h2,by show Weak st (lpS (hB c W) (frC T1) s b ab);rw [hB2];exact hs⟩
  ·intro h0 st hs
   exact hx h0 st (by show Weak st (exS (hB c W) T2);rw [hB2];exact hs)
 | true=>
  rw [hfl] at hfu;refine Ht s b ab aa ab' o1 o2 o3 o4 0 hN (Nu s o1 o2 o3 o4 dv _ ck dk dis true cks cvs dks dvs hk hop.2.2.1 hob (by simp) e1 hul (by simp) hpl hD hV (ud w.maps w.stacks (w.chans.set o2.toNat ⟨dk,dks,dvs⟩) true (rfl) (rfl) (by simp) (rfl) (rfl) (by simp [abI,aR]) (by omega) (by omega) (by omega) (by omega) hfu.symm)) ?_;intro st hs;exact hy hfl st (by show Weak st (exS (hB c W) 8);rw [hB2];exact hs)
end Uw.Tryz.El
namespace Uw.Tryz.El
open Go Uw Uw.Tryz
theorem PG (c:Cd) (hc:CO c) (ab:Int) (w0 w:Wd) (f:Vm.Frame) (e:Int) (s b:Int) (hl:Lp c w0 w f) (hn:Vm.cz c f = .err e) (inv:Wd×Vm.Frame×Int×Int->Prop) (mu:Wd×Vm.Frame×Int×Int->Nat) {Q:ay->St->Prop}
  (hx:sc c (w,e) Q):WT P0 (cP (SL c ab) inv mu (w,f,s,b) Q) (exec ruB (SL c ab (w,f,s,b)) Tree.done):=by
 have he:e≠0:=by
  rcases Vm.uc hl.right with ⟨e',h1,h2⟩|⟨g,a,h1,_⟩
  ·rw [hn] at h1;injection h1 with h1;subst h1;rcases h2 with rfl|rfl<;>decide
  ·rw [hn] at h1;cases h1
 have hN:=Vm.s21 c f (kD hc hl);rw [hn] at hN;refine X5 s b ab 0 0 0 0 0 0 0 e he hN ?_;intro st hs;exact hx st hs
theorem SN (c:Cd) (w:Wd) (g:Vm.Frame) (v s ab:Int) (ht:g.task=1) (hf:g.fail=false):hB c (endW w g v s ab)=wH [.d (.slice 3 (c.az.map bdC) false),.d (ae c.cells),.d (I c.maps),.d (I c.stacks),.d (I c.chans),.d (I c.main)] w.cells.length (bu w.cells) w.maps.length w.maps.length (w.maps.map aR) w.stacks.length w.stacks.length (w.stacks.map aR) w.chans.length w.chans.length (w.chans.map aR) w.uses.length (w.uses.map eS) w.splits.length (w.splits.map ix) w.aB w.values.length w.values.length ((bu w.values).set (0+(g.task - 1).toNat) [I v]) (w.steps+g.spent) w.fails.length w.fails.length (cN w.fails):=by
 have e2:(1<g.task)=False:=by simp;omega
 have e3:(cN w.fails).take w.fails.length=cN w.fails:=aa7 (by simp [cN]);simp only [endW,hf,e2,if_true,if_false];simp [bu,abI,cN]
theorem SO (c:Cd) (w:Wd) (g:Vm.Frame) (v s ab:Int) (ht:g.task=1) (hf:g.fail=true):hB c (endW w g v s ab)=wH [.d (.slice 3 (c.az.map bdC) false),.d (ae c.cells),.d (I c.maps),.d (I c.stacks),.d (I c.chans),.d (I c.main)] w.cells.length (bu w.cells) w.maps.length w.maps.length (w.maps.map aR) w.stacks.length w.stacks.length (w.stacks.map aR) w.chans.length w.chans.length (w.chans.map aR) w.uses.length (w.uses.map eS) w.splits.length (w.splits.map ix) w.aB w.values.length w.values.length ((bu w.values).set (0+(g.task - 1).toNat) [I v]) (w.steps+g.spent) (w.fails.length+1) (w.fails.length+1) ((cN w.fails).take w.fails.length++[[ae g.path]]):=by
 have e2:(1<g.task)=False:=by simp;omega
 have e3:(cN w.fails).take w.fails.length=cN w.fails:=aa7 (by simp [cN]);simp only [endW,hf,e2,if_true,if_false,e3];simp [bu,abI,cN]
theorem SQ (c:Cd) (w:Wd) (g:Vm.Frame) (v s ab:Int) (ht:1<g.task) (hf:g.fail=false):hB c (endW w g v s ab)=wH [.d (.slice 3 (c.az.map bdC) false),.d (ae c.cells),.d (I c.maps),.d (I c.stacks),.d (I c.chans),.d (I c.main)] w.cells.length (bu w.cells) w.maps.length w.maps.length (w.maps.map aR) w.stacks.length w.stacks.length (w.stacks.map aR) w.chans.length w.chans.length (w.chans.map aR) w.uses.length (w.uses.map eS) (w.splits.length+1) (w.splits.map ix++[ix ⟨2,s,0,0,ab⟩]) w.aB w.values.length w.values.length ((bu w.values).set (0+(g.task - 1).toNat) [I v]) (w.steps+g.spent) w.fails.length w.fails.length (cN w.fails):=by
 have e2:(1<g.task)=True:=by simp;omega
 have e3:(cN w.fails).take w.fails.length=cN w.fails:=aa7 (by simp [cN]);simp only [endW,hf,e2,if_true,if_false];simp [bu,abI,cN]
theorem SR (c:Cd) (w:Wd) (g:Vm.Frame) (v s ab:Int) (ht:1<g.task) (hf:g.fail=true):hB c (endW w g v s ab)=wH [.d (.slice 3 (c.az.map bdC) false),.d (ae c.cells),.d (I c.maps),.d (I c.stacks),.d (I c.chans),.d (I c.main)] w.cells.length (bu w.cells) w.maps.length w.maps.length (w.maps.map aR) w.stacks.length w.stacks.length (w.stacks.map aR) w.chans.length w.chans.length (w.chans.map aR) w.uses.length (w.uses.map eS) (w.splits.length+1) (w.splits.map ix++[ix ⟨2,s,0,0,ab⟩]) w.aB w.values.length w.values.length ((bu w.values).set (0+(g.task - 1).toNat) [I v]) (w.steps+g.spent) (w.fails.length+1) (w.fails.length+1) ((cN w.fails).take w.fails.length++[[ae g.path]]):=by
 have e2:(1<g.task)=True:=by simp;omega
 have e3:(cN w.fails).take w.fails.length=cN w.fails:=aa7 (by simp [cN]);simp only [endW,hf,e2,if_true,if_false,e3];simp [bu,abI,cN]
theorem PH (c:Cd) (hc:CO c) (ab:Int) (w0 w:Wd) (f g:Vm.Frame) (a:Vm.Ask) (s b:Int) (hl:Lp c w0 w f) (hn:Vm.cz c f = .ok g a) (k1:a.kind=6) (inv:Wd×Vm.Frame×Int×Int->Prop) (mu:Wd×Vm.Frame×Int×Int->Nat) {Q:ay->St->Prop}
  (hx:sc c (endW w g a.a s ab,0) Q):WT P0 (cP (SL c ab) inv mu (w,f,s,b) Q) (exec ruB (SL c ab (w,f,s,b)) Tree.done):=by
 obtain ⟨hao,ym,hkept⟩:=bX hl.right hn;have hN:=Vm.s21 c f (kD hc hl);rw [hn] at hN;have hwi:=hl.wi;have htf:Vm.lu g:=lv hc hl hkept;have hpl:=DC hl hkept;obtain ⟨hul,hsl,hfl,hst,hsp⟩:=DF hwi;have g1:1<=g.task:=by rw [ym];exact hl.Ny
 have g2:g.task<=w.values.length:=by rw [ym];exact hl.task1
 have g3:=hkept.good.sp0;have g4:=hkept.good.sp1;have hv64:=hwi.vals;have hs0:=hwi.st0;have e1:(bu w.values)[0+(g.task - 1).toNat]? = some [I (w.values.getD (g.task - 1).toNat 0)]:=by
  have h1:(g.task - 1).toNat<w.values.length:=by omega
  have h2:g.task.toNat - 1<w.values.length:=by omega
  simp [bu,h1,h2]
 obtain ⟨ak,aa,ab',⟨o1,o2,o3,o4⟩,aargs⟩:=a;simp only at k1 hx;subst k1;have b00:=SN c w g aa s ab;have b01:=SO c w g aa s ab;have b10:=SQ c w g aa s ab;have b11:=SR c w g aa s ab;generalize hW:endW w g aa s ab=W at *;obtain ⟨gt,gp,gfn,gpc,gl,gs,gk,gm,gsp,gfl⟩:=g;simp only at g1 g2 g3 g4 e1 hpl b00 b01 b10 b11;have g5:gsp<1000000:=by omega
 by_cases ht:1<gt
 ·cases gfl with
  | false=>
   refine Hu s b ab aa ab' o1 o2 o3 o4 0 hN (Ve aa _ s ab ht g2 (by simp [bu]) (by omega) e1 hsl (by simp) hs0 hsp g3 g5 hpl hfl (by simp [cN])) ?_;intro st hs;exact hx st (by show Weak st (exS (hB c W) 0);rw [b10 ht rfl];exact hs)
  | true=>
   refine Hu s b ab aa ab' o1 o2 o3 o4 0 hN (Vf aa _ s ab ht g2 (by simp [bu]) (by omega) e1 hsl (by simp) hs0 hsp g3 g5 hpl hfl (by simp [cN])) ?_;intro st hs;exact hx st (by show Weak st (exS (hB c W) 0);rw [b11 ht rfl];exact hs)
 ·have ht:gt=1:=by omega
  cases gfl with
  | false=>
   refine Hu s b ab aa ab' o1 o2 o3 o4 0 hN (Vb aa _ s ab ht g2 (by simp [bu]) (by omega) e1 hsl (by simp) hs0 hsp g3 g5 hpl hfl (by simp [cN])) ?_;intro st hs;exact hx st (by show Weak st (exS (hB c W) 0);rw [b00 ht rfl];exact hs)
  | true=>
   refine Hu s b ab aa ab' o1 o2 o3 o4 0 hN (Vd aa _ s ab ht g2 (by simp [bu]) (by omega) e1 hsl (by simp) hs0 hsp g3 g5 hpl hfl (by simp [cN])) ?_;intro st hs;exact hx st (by show Weak st (exS (hB c W) 0);rw [b01 ht rfl];exact hs)
theorem VF (c:Cd) (w:Wd) (ks:List (Int×Int)) (s b:Int) (hk:ks≠[]):hB c (jQ w ks s b).1=wH [.d (.slice 3 (c.az.map bdC) false),.d (ae c.cells),.d (I c.maps),.d (I c.stacks),.d (I c.chans),.d (I c.main)] w.cells.length (bu w.cells) w.maps.length w.maps.length (w.maps.map aR) w.stacks.length w.stacks.length (w.stacks.map aR) w.chans.length w.chans.length (w.chans.map aR) w.uses.length (w.uses.map eS) (w.splits.length+1) (w.splits.map ix++[ix ⟨3,s,0,0,b⟩]) w.aB w.values.length w.values.length (bu w.values) w.steps w.fails.length w.fails.length (cN w.fails):=by
 simp [jQ,hk]
theorem LQ (c:Cd) (hc:CO c) (ab:Int) (w0 w:Wd) (f g:Vm.Frame) (a:Vm.Ask) (s b:Int) (hl:Lp c w0 w f) (hn:Vm.cz c f = .ok g a) (k1:a.kind=5) (inv:Wd×Vm.Frame×Int×Int->Prop) (mu:Wd×Vm.Frame×Int×Int->Nat) {Q:ay->St->Prop}
  (hgo:(Vm.aV g 5 a.b (dJ w g.kids)).2=0->inv ((jQ w g.kids s b).1,(Vm.aV g 5 a.b (dJ w g.kids)).1,b,b)/\mu ((jQ w g.kids s b).1,(Vm.aV g 5 a.b (dJ w g.kids)).1,b,b)<mu (w,f,s,b))
  (hx:(Vm.aV g 5 a.b (dJ w g.kids)).2≠0->sc c ((jQ w g.kids s b).1,(Vm.aV g 5 a.b (dJ w g.kids)).2) Q) :
  WT P0 (cP (SL c ab) inv mu (w,f,s,b) Q) (exec ruB (SL c ab (w,f,s,b)) Tree.done):=by
 obtain ⟨hao,ym,hkept⟩:=bX hl.right hn;have hN:=Vm.s21 c f (kD hc hl);rw [hn] at hN;have hwi:=hl.wi;have htf:Vm.lu g:=lv hc hl hkept;have hpl:=DC hl hkept;obtain ⟨hul,hsl,hfl,hst,hsp⟩:=DF hwi;have hkk:=htf.kids;have hT:=Vm.LM g a (dJ w g.kids) htf (by simp [dJ];exact hkk);have hne:=hkept.wait k1;have hkids:∀k∈g.kids,1<=k.1/\k.1<=(w.values.length:Int):=by rw [hkept.kids];exact hl.kids
 have hv64:=hwi.vals;obtain ⟨ak,aa,ab',⟨o1,o2,o3,o4⟩,aargs⟩:=a;simp only at k1;subst k1;simp only at hgo hx hT;have hlen:(dJ w g.kids).length=g.kids.length:=by simp [dJ]
 have hat:∀(j:Nat) (h:j<g.kids.length),1<=g.kids[j].1/\g.kids[j].1<=(w.values.length:Nat)/\(bu w.values)[0+(g.kids[j].1 - 1).toNat]? = some [I ((dJ w g.kids).getD j 0)]:=by
  intro j h;have h1:=hkids _ (abg h);refine ⟨h1.1,h1.2,?_⟩;have h2:(g.kids[j].1 - 1).toNat<w.values.length:=by omega
  have h3:g.kids[j].1.toNat - 1<w.values.length:=by omega
  simp [bu,dJ,h2,h3,h]
 have hrow:((bu (dJ w g.kids)).drop 0).take g.kids.length=bu (dJ w g.kids):=by
  rw [abk];exact aa7 (by simp [bu,dJ])
 have hB':=VF c w g.kids s b hne;generalize hW:(jQ w g.kids s b).1=W at *;have hT':=hT.args (ds:=[Vm.bW g,_,.slice 1 (((bu (dJ w g.kids)).drop 0).take g.kids.length) false]) (.cons (.refl _) (.cons (.refl _) (.cons (by rw [hrow];exact .refl _) (.refl _))));generalize htold:Vm.aV g 5 ab' (dJ w g.kids)=T at *;obtain ⟨T1,T2⟩:=T;refine Vh b _ g.kids.length _ s b ab aa ab' o1 o2 o3 o4 T2 hN (U9 g.kids (dJ w g.kids) hkk hat hlen (by simp [bu]) (by omega)) (U8 s b (g.kids.map Vm.fN) (by simpa using hne) hsl (by simp)) hT' ?_ ?_
 ·intro h0 st hs
  obtain ⟨h1,h2⟩:=hgo h0;exact ⟨_,h1,h2,by show Weak st (lpS (hB c W) (frC T1) b b ab);rw [hB'];exact hs⟩
 ·intro h0 st hs
  exact hx h0 st (by show Weak st (exS (hB c W) T2);rw [hB'];exact hs)
end Uw.Tryz.El
namespace Uw.Tryz.El
open Go Uw Uw.Tryz
variable {C1 C2 C3 C4 C5 C6 : Dat} {xc : Nat} {rc : List (List Dat)} {gm xm : Nat} {rm : List (List Dat)} {gs xs : Nat} {rs : List (List Dat)} {gc xh : Nat} {rh : List (List Dat)} {xu : Nat} {ru : List (List Dat)} {xp : Nat} {rp : List (List Dat)} {st : Int} {gv xv : Nat} {rv : List (List Dat)} {sp : Int} {gf xf : Nat} {rf : List (List Dat)}
 {f1 f3 f4 f8 f9:Int} {f5 f6 f7:Dat} {f10:Bool} {p:List Int} {t1 t3 t4 t8 t9:Int} {tp l1 l2:List Int} {lk:List (List Dat)} {t10:Bool} {z1 z3 z4 z8 z9:Int} {z10:Bool} {Q:ay->St->Prop}
theorem X8 (qs:List (List Dat)) (aK block above a2 a3 a4 a5 a6 a7 e:Int) (he:e≠0)
  (hn:Ret P0 eE [.agg [C1,C2,C3,C4,C5,C6],.agg [I f1,ae p,I f3,I f4,f5,f6,f7,I f8,I f9,.bool f10]] (.tuple [.agg [I t1,ae tp,I t3,I t4,ae l1,ae l2,.slice 2 lk false,I t8,I t9,.bool t10],.agg [I 4,I a2,I a3,I a4,I a5,I a6,I a7,.slice 1 qs false],I 0]))
  (hc:eP P0 dr [.ptr 0 0,.agg [.d (I t1),.d (ae tp),.d (I t3),.d (I t4),.d (ae l1),.d (ae l2),.d (.slice 2 lk false),.d (I t8),.d (I t9),.d (.bool t10)],.agg [.d (I 4),.d (I a2),.d (I a3),.d (I a4),.d (I a5),.d (I a6),.d (I a7),.d (.slice 1 qs false)]] (wG [.d C1,.d C2,.d C3,.d C4,.d C5,.d C6] xc rc gm xm rm gs xs rs gc xh rh xu ru xp rp st gv xv rv sp gf xf rf) (.tuple [.agg [.d (I z1),.d .nil,.d (I z3),.d (I z4),.d .nil,.d .nil,.d .nil,.d (I z8),.d (I z9),.d (.bool z10)],.d (I e)]) (wG [.d C1,.d C2,.d C3,.d C4,.d C5,.d C6] xc rc gm xm rm gs xs rs gc xh rh xu ru xp rp st gv xv rv sp gf xf rf))
  (hX:∀s,Weak s (exS (wH [.d C1,.d C2,.d C3,.d C4,.d C5,.d C6] xc rc gm xm rm gs xs rs gc xh rh xu ru xp rp st gv xv rv sp gf xf rf) e)->Q (.exit 0) s) :
  WT P0 Q (exec ruB (lpS (wH [.d C1,.d C2,.d C3,.d C4,.d C5,.d C6] xc rc gm xm rm gs xs rs gc xh rh xu ru xp rp st gv xv rv sp gf xf rf) [.d (I f1),.d (ae p),.d (I f3),.d (I f4),.d f5,.d f6,.d f7,.d (I f8),.d (I f9),.d (.bool f10)] aK block above) Tree.done):=by
 repeat refine aw ?_
 refine eC 15 [3,4,5,6,7,8,9,10,11] hc ?_
 repeat refine aw ?_
 exact aj (hX _ (by exact Uw.wM))
theorem VG (c:Cd) (w:Wd) (s b:Int) (n:Bool):hB c (cH w s b n)=wH [.d (.slice 3 (c.az.map bdC) false),.d (ae c.cells),.d (I c.maps),.d (I c.stacks),.d (I c.chans),.d (I c.main)] w.cells.length (bu w.cells) w.maps.length w.maps.length (w.maps.map aR) w.stacks.length w.stacks.length (w.stacks.map aR) w.chans.length w.chans.length (w.chans.map aR) w.uses.length (w.uses.map eS) (w.splits.length+1) (w.splits.map ix++[ix ⟨1,s,w.aB,w.aB+1,if n then b else w.aB+2⟩]) (if n then w.aB+2 else w.aB+3) w.values.length w.values.length (bu w.values) w.steps w.fails.length w.fails.length (cN w.fails):=by
 simp [cH,SB]
abbrev dU (c:Cd) (w:Wd) (g:Vm.Frame) (a:Vm.Ask):Vm.Frame×Int:=Vm.dc c a.a a.args ((w.values.length:Nat)+1) (g.path++[g.many])
theorem JO (c:Cd) (hc:CO c) (ab:Int) (w0 w:Wd) (f g:Vm.Frame) (a:Vm.Ask) (s b:Int) (hl:Lp c w0 w f) (hn:Vm.cz c f = .ok g a) (k1:a.kind=4) (hargs:a.args.length<1000) (R:Wd×Int) (inv:Wd×Vm.Frame×Int×Int->Prop) (mu:Wd×Vm.Frame×Int×Int->Nat) {Q:ay->St->Prop}
  (hz:64<=w.values.length->sc c (w,10) Q)
  (he:w.values.length<64->(dU c w g a).2≠0->sc c (w,(dU c w g a).2) Q)
  (hrec:w.values.length<64->(dU c w g a).2=0->eP P0 ed [.agg (frC (dU c w g a).1),.d (I w.aB),.d (I (if isNamed g then b else w.aB+2)),.ptr 0 0,.ptr 1 0,.ptr 2 0] (hB c (cH w s b (isNamed g))) (.d (I R.2)) (hB c R.1))
  (hy:w.values.length<64->(dU c w g a).2=0->R.2≠0->sc c R Q)
  (hgo:w.values.length<64->(dU c w g a).2=0->R.2=0->(Vm.aV g 4 a.b [(dU c w g a).1.task]).2=0->inv (R.1,(Vm.aV g 4 a.b [(dU c w g a).1.task]).1,w.aB+1,(if isNamed g then b else w.aB+2))/\mu (R.1,(Vm.aV g 4 a.b [(dU c w g a).1.task]).1,w.aB+1,(if isNamed g then b else w.aB+2))<mu (w,f,s,b))
  (hx:w.values.length<64->(dU c w g a).2=0->R.2=0->(Vm.aV g 4 a.b [(dU c w g a).1.task]).2≠0->sc c (R.1,(Vm.aV g 4 a.b [(dU c w g a).1.task]).2) Q) :
  WT P0 (cP (SL c ab) inv mu (w,f,s,b) Q) (exec ruB (SL c ab (w,f,s,b)) Tree.done):=by
 obtain ⟨hao,ym,hkept⟩:=bX hl.right hn;have hN:=Vm.s21 c f (kD hc hl);rw [hn] at hN;have hwi:=hl.wi;have htf:Vm.lu g:=lv hc hl hkept;have hpl:=DC hl hkept;obtain ⟨hul,hsl,hfl,hst,hsp⟩:=DF hwi;have hpa:=htf.path;have hs0:=hwi.LO;have hT:=Vm.LM g a [(dU c w g a).1.task] htf (by simp);have hCh:=Vm.s14 g hpa;have hpw:g.path.length<999:=by have h1:=hl.path;have h2:=hwi.vals;obtain ⟨V,h3,_⟩:=hl.adds;rw [hkept.path];omega
 have hSt:=Vm.s12 c a.a a.args ((w.values.length:Nat)+1) (g.path++[g.many]) hc.az hc.pA hargs (by simp;omega);have hBf:=VG c w s b (isNamed g);obtain ⟨ak,aa,ab',⟨o1,o2,o3,o4⟩,aargs⟩:=a;simp only at k1 hargs;subst k1;simp only [dU] at hz he hrec hy hgo hx hT hSt;by_cases h64:64<=w.values.length
 ·refine X8 _ s b ab aa ab' o1 o2 o3 o4 10 (by decide) hN (SC 4 aa ab' o1 o2 o3 o4 _ h64) ?_
  intro st hs;exact hz h64 st hs
 have h64:w.values.length<64:=by omega
 have he:=he h64;have hrec:=hrec h64;have hy:=hy h64;have hgo:=hgo h64;have hx:=hx h64;generalize hK:Vm.dc c aa aargs ((w.values.length:Nat)+1) (g.path++[g.many])=K at *;obtain ⟨K1,K2⟩:=K;simp only at he hrec hy hgo hx;by_cases hk0:K2=0
 ·subst hk0
  have hrec:=hrec rfl;have hy:=hy rfl;have hgo:=hgo rfl;have hx:=hx rfl;generalize hW:cH w s b (isNamed g)=F at *;rw [hBf] at hrec;obtain ⟨W,er⟩:=R;simp only at hrec hy hgo hx;have hT':=hT.args (ds:=[Vm.bW g,_,.slice 1 [[I K1.task]] true]) (.cons (.refl _) (.cons (.refl _) (.cons (.slice (.refl _)) (.refl _))));generalize htold:Vm.aV g 4 ab' [K1.task]=T at *;obtain ⟨T1,T2⟩:=T;refine X7 w.aB (w.aB+1) (if isNamed g then b else w.aB+2) er _ s b ab aa ab' o1 o2 o3 o4 T2 hN (JE 4 aa ab' o1 o2 o3 o4 _ _ _ _ _ _ _ _ _ _ _ _ _ h64 hCh hSt) (X3 s b (isNamed g) hsl (by simp) hs0 hst) hrec (fun _=>hT') ?_ ?_ ?_
  ·intro h0 h1 st hs
   obtain ⟨h2,h3⟩:=hgo h0 h1;exact ⟨_,h2,h3,hs⟩
  ·intro h0 h1 st hs
   exact hx h0 h1 st hs
  ·intro h0 st hs
   exact hy h0 st hs
 ·refine X6 _ s b ab aa ab' o1 o2 o3 o4 K2 hk0 hN (JE 4 aa ab' o1 o2 o3 o4 _ _ _ _ _ _ _ _ _ _ _ _ _ h64 hCh hSt) ?_
  intro st hs;exact he hk0 st hs
end Uw.Tryz.El
