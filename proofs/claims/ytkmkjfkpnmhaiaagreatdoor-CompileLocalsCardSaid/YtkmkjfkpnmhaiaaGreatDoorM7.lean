/- M7: Cd Ce Cf Cb Da Db Ck Cg Ch Ci Cj Cl Cm Ck0 Fa Fb Fd Fe Ha Cn Co Cp Cq Cr Cs Ct (merged by merge2.py from the working texts). -/
import Derived.Test.YtkmkjfkpnmhaiaaGreatDoorM5
import Derived.Test.YtkmkjfkpnmhaiaaGreatDoorM6
import Derived.Test.YtkmkjfkpnmhaiaaGreatDoorM4
import Derived.Test.YtkmkjfkpnmhaiaaGreatDoorM3
import Derived.RangeFuncBound
import Derived.Shelf.Abstract
import Derived.OwnWalkIn
import Derived.TacticsInMore
import Derived.LoopNIn
import Derived.LoopIn
set_option maxRecDepth 100000
set_option maxHeartbeats 4000000
set_option linter.unusedSimpArgs false
set_option linter.unnecessarySimpa false
set_option linter.unusedVariables false
set_option linter.unusedSectionVars false
namespace Uw.Tryz
open Go Uw
theorem Fz (k:Int):Ret P0 vC [I k] (I (cQ k)):=by
 refine aF BW rfl ?_
 repeat' first|refine aw ?_|refine bw (fun _=>?_) fun _=>?_
 all_goals refine al rfl rfl rfl rfl ?_
 all_goals simp only [jX,cQ]
 all_goals first|(rw [if_pos (by omega)];done)|(rw [if_neg (by omega),if_pos (by omega)];done)|(rw [if_neg (by omega),if_neg (by omega),if_pos (by omega)];done)|(rw [if_neg (by omega),if_neg (by omega),if_neg (by omega)];done)
theorem FA {a b:List Int} {j:Nat} (ha:j<a.length) (hb:j<b.length) (h:a.take j=b.take j):a.take (j+1)=b.take (j+1)<->a[j]=b[j]:=by
 rw [YM ha,YM hb,h];constructor
 ·intro e;simpa using List.append_cancel_left e
 ·intro e;rw [e]
theorem vG (a b:List Int) (hs:a.length<1000000) (z z' : Bool):Ret P0 mQ [.slice 1 (a.map fun i=>[I i]) z,.slice 1 (b.map fun i=>[I i]) z'] (.bool (decide (a=b))):=by
 have ha:(a.map fun i=>[I i]).length=a.length:=by simp
 have hb:(b.map fun i=>[I i]).length=b.length:=by simp
 by_cases hl:a.length=b.length
 rotate_left
 ·have:a≠b:=fun e=>hl (e ▸ rfl)
  rw [decide_eq_false this];refine aF ef rfl ?_
  repeat' first|refine aw ?_|refine bw (fun _=>?_) fun _=>?_
  exact al rfl rfl rfl rfl rfl
 have hend:a.take a.length=b.take a.length->a=b:=fun e=>by rw [YW,hl,YW] at e;exact e
 have hbad:∀(j:Nat) (h1:j<a.length) (h2:j<b.length),¬a[j]=b[j]->decide (a=b)=false:=fun j h1 h2 h=>decide_eq_false fun e=>h (by subst e;rfl);refine aF ef rfl ?_
 repeat' first|refine aw ?_|refine bw (fun _=>?_) fun _=>?_
 refine dO (fun j:Nat=>⟨[(13,.d (I j)),(12,.d (I (↑(List.map (fun i=>[I i]) a).length))),(0,.d (Dat.slice 1 (List.map (fun i=>[I i]) a) z)),(1,.d (Dat.slice 1 (List.map (fun i=>[I i]) b) z'))],[],0,[],0⟩)
  (fun j=>j<=a.length/\a.take j=b.take j) (fun j=>a.length - j) 0 (by exact Uw.wW) ⟨by omega,rfl⟩ ?_
 rintro j ⟨h1,h2⟩;refine Ku (fun h3=>?_) (fun h3=>?_)
 ·have h4:j<b.length:=by omega
  have h6:=(FA h3 h4 h2).2;have h7:=hbad j h3 h4;have e1:(a.map fun i=>[I i])[(j:Int).toNat]? = some [I a[j]]:=by simp [h3]
  have e2:(b.map fun i=>[I i])[(j:Int).toNat]? = some [I b[j]]:=by simp [h4]
  generalize a[j]=x at *;generalize b[j]=y at *;by_cases h5:x=y
  ·have h6:=h6 h5
   repeat refine aw ?_
   exact cJ (j+1) ⟨by omega,h6⟩ (by omega) (by exact Uw.wW)
  ·rw [h7 h5]
   repeat refine aw ?_
   exact aN (al rfl rfl rfl rfl rfl)
 ·rw [decide_eq_true (hend (by rw [<- show j=a.length by omega];exact h2))]
  repeat refine aw ?_
  refine aA ?_
  repeat refine aw ?_
  exact al rfl rfl rfl rfl rfl
def Row1 (x:Dat) (a:List Int):Prop:=(x = .nil/\a=[])\/∃z,x = .slice 1 (a.map fun i=>[I i]) z
theorem Af (x y:Dat) (a b:List Int) (hs:a.length<1000000) (hx:Row1 x a) (hy:Row1 y b):Ret P0 mQ [x,y] (.bool (decide (a=b))):=by
 rcases hx with ⟨rfl,rfl⟩|⟨z,rfl⟩<;>rcases hy with ⟨rfl,rfl⟩|⟨z',rfl⟩
 ·rw [decide_eq_true rfl]
  refine aF ef rfl ?_
  repeat refine aw ?_
  refine dO (fun j:Nat=>⟨[(13,.d (I 0)),(12,.d (I 0)),(0,.d .nil),(1,.d .nil)],[],0,[],0⟩) (fun j=>j=0) (fun j=>0) 0 (by exact Uw.wW) rfl ?_;rintro j rfl
  repeat refine aw ?_
  refine aA ?_
  repeat refine aw ?_
  exact al rfl rfl rfl rfl rfl
 ·cases b with
  | nil=>
   rw [decide_eq_true rfl];refine aF ef rfl ?_
   repeat refine aw ?_
   refine dO (fun j:Nat=>⟨[(13,.d (I 0)),(12,.d (I 0)),(0,.d .nil),(1,.d (.slice 1 [] z'))],[],0,[],0⟩) (fun j=>j=0) (fun j=>0) 0 (by exact Uw.wW) rfl ?_;rintro j rfl
   repeat refine aw ?_
   refine aA ?_
   repeat refine aw ?_
   exact al rfl rfl rfl rfl rfl
  | cons c b=>
   rw [decide_eq_false (by simp)];have hb:((c::b).map fun i=>[I i]).length=b.length+1:=by simp
   generalize (c::b).map (fun i=>[I i])=B at *;refine aF ef rfl ?_
   repeat refine aw ?_
   exact al rfl rfl rfl rfl rfl
 ·cases a with
  | nil=>
   rw [decide_eq_true rfl];refine aF ef rfl ?_
   repeat refine aw ?_
   refine dO (fun j:Nat=>⟨[(13,.d (I 0)),(12,.d (I 0)),(0,.d (.slice 1 [] z)),(1,.d .nil)],[],0,[],0⟩) (fun j=>j=0) (fun j=>0) 0 (by exact Uw.wW) rfl ?_;rintro j rfl
   repeat refine aw ?_
   refine aA ?_
   repeat refine aw ?_
   exact al rfl rfl rfl rfl rfl
  | cons c b=>
   rw [decide_eq_false (by simp)];have hb:((c::b).map fun i=>[I i]).length=b.length+1:=by simp
   generalize (c::b).map (fun i=>[I i])=B at *;refine aF ef rfl ?_
   repeat refine aw ?_
   exact al rfl rfl rfl rfl rfl
 ·exact vG a b hs z z'
def ofB (a:List Int):List Blk:=[.var [.ref 1 0 0 a.length],.arr 1 (a.map fun i=>[I i])]
theorem HL (x:Dat) (a b:List Int) (hs:a.length<1000000) (hx:Row1 x b):bm P0 ki [.d x,.ptr 0 0] (ofB a) (.d (.bool (decide (a=b)))) (ofB a):=by
 have h1:=Af (.slice 1 (a.map fun i=>[I i]) false) x a b hs (.inr ⟨_,rfl⟩) hx;have ha:(List.drop 0 (a.map fun i=>[I i])).take a.length=a.map fun i=>[I i]:=by rw [Zf];exact YU (by simp)
 rw [<- ha] at h1;refine aJ vD rfl ?_
 repeat' first|refine aw ?_|refine bw (fun _=>?_) fun _=>?_
 exact aI 2 rfl rfl (by exact Uw.wW)
theorem HM (s:Int) (a:List Int) (hs:a.length<1000000):bm P0 kj [.d (I s),.ptr 0 0] (ofB a) (.d (.bool (a.all fun x=>decide (x=s)))) (ofB a):=by
 have ha:(a.map fun i=>[I i]).length=a.length:=by simp
 have hget:∀(j:Nat) (h:j<a.length),(a.map fun i=>[I i])[0+(j:Int).toNat]? = some [I a[j]]:=by intro j h;simp [h]
 have hall:(∀x∈a.take a.length,x=s)->(a.all fun x=>decide (x=s))=true:=by
  intro h;rw [YW] at h;simpa using h
 have hnot:∀(j:Nat) (h:j<a.length),¬a[j]=s->(a.all fun x=>decide (x=s))=false:=by
  intro j h hn;rw [aaD];intro he;exact hn (by simpa using Y1.1 he a[j] (YT h))
 have hsucc:∀(j:Nat) (h:j<a.length),(∀x∈a.take j,x=s)->a[j]=s->∀x∈a.take (j+1),x=s:=by
  intro j h h1 h2 x hx;rw [YM h] at hx
  rcases Y7.1 hx with hx|hx
  ·exact h1 x hx
  ·simp at hx;rw [hx];exact h2
 generalize (a.all fun x=>decide (x=s))=R at *;refine aJ vE rfl ?_
 repeat' first|refine aw ?_|refine bw (fun _=>?_) fun _=>?_
 refine dG pR rfl ?_
 repeat' first|refine aw ?_|refine bw (fun _=>?_) fun _=>?_
 refine dG sW rfl ?_
 repeat' first|refine aw ?_|refine bw (fun _=>?_) fun _=>?_
 refine dO (fun j:Nat=>⟨[(8,.d (I j)),(7,.d (I ↑a.length)),(0,.ref 1 0 0 a.length),(1,V.func mR [] [V.ptr 2 0])],[(2,.var [.d (I s)]),(1,.arr 1 (List.map (fun i=>[I i]) a)),(0,.var [.ref 1 0 0 a.length])],3,[],3⟩)
  (fun j=>j<=a.length/\∀x∈a.take j,x=s) (fun j=>a.length - j) 0 (by exact Uw.wW) ⟨by omega,by simp⟩ ?_
 rintro j ⟨h1,h2⟩;by_cases h3:j<a.length
 ·have e1:=hget j h3
  have h4:=hnot j h3;have h5:=hsucc j h3 h2;generalize a[j]=x at *;by_cases h6:x=s
  ·have h7:=h5 h6
   repeat refine aw ?_
   refine dG lF rfl ?_
   repeat refine aw ?_
   refine dW rfl rfl ?_
   repeat refine aw ?_
   exact cJ (j+1) ⟨by omega,h7⟩ (by omega) (by exact Uw.wW)
  ·have h8:R=(!decide ((0:Int)<=(j:Int))):=by rw [h4 h6];simp
   rw [h8]
   repeat refine aw ?_
   refine dG lF rfl ?_
   repeat refine aw ?_
   refine dW rfl rfl ?_
   repeat refine aw ?_
   refine aN (dW rfl rfl ?_)
   repeat refine aw ?_
   refine dW rfl rfl ?_
   repeat refine aw ?_
   exact aI 2 rfl rfl (by exact Uw.wW)
 ·rw [hall (by rw [<- show j=a.length by omega];exact h2)]
  repeat refine aw ?_
  refine aA ?_
  repeat refine aw ?_
  refine dW rfl rfl ?_
  repeat refine aw ?_
  refine dW rfl rfl ?_
  repeat refine aw ?_
  exact aI 2 rfl rfl (by exact Uw.wW)
end Uw.Tryz
namespace Uw.Tryz
open Go Uw
def bZ (ns:List Nd):Dat:=.slice 5 (ns.map ndL) false
theorem fO (ns:List Nd) (x:Nd):(ct ns x).length=x.of.length:=by simp [ct]
theorem LR (ns:List Nd) (x:Nd) (hk:∀k∈x.of,0<=k/\k<ns.length):∃A:Nat->List (List Dat),A 0=[]/\
  (∀(j:Nat) (h:j<x.of.length),∃(k:Int) (y:Nd),(x.of.map fun i=>[I i])[(j:Int).toNat]? = some [I k]/\0<=k/\k<ns.length/\(ns.map ndL)[k.toNat]? = some (ndL y)/\A j++[[I (cQ y.kind)]]=A (j+1)/\(A j).length=j)/\
  A x.of.length=(ct ns x).map fun i=>[I i]:=by
 refine ⟨fun j=>((ct ns x).take j).map fun i=>[I i],rfl,fun j h=>?_,by dsimp only;rw [<- fO ns x,YW]⟩;obtain ⟨h1,h2⟩:=hk x.of[j] (YT h);have h3:x.of[j].toNat<ns.length:=by omega
 refine ⟨x.of[j],ns[x.of[j].toNat],by simp [h],h1,h2,by simp [h3],?_,by simp [fO];omega⟩;have h4:j<(ct ns x).length:=by rw [fO];exact h
 dsimp only;rw [YM h4,ZO];simp [ct,cU,List.getD,h3]
theorem Ag (ns:List Nd) (x:Nd) (hk:∀k∈x.of,0<=k/\k<ns.length) (hl:x.of.length<1000000):Ret P0 mP [bZ ns,.agg (ndL x)] (.bool (dH ns x)):=by
 have hoE:cb x.of = .slice 1 (x.of.map fun i=>[I i]) false:=rfl;have ho:(x.of.map fun i=>[I i]).length=x.of.length:=by simp
 have hnl:(ns.map ndL).length=ns.length:=by simp
 obtain ⟨A,hA0,hA1,hA2⟩:=LR ns x hk;have HN:∀(d:Dat) (b:List Int),Row1 d b->bm P0 ki [.d d,.ptr 0 0] [.var [.ref 1 0 0 x.of.length],.arr 1 (A x.of.length)] (.d (.bool (decide (ct ns x=b)))) [.var [.ref 1 0 0 x.of.length],.arr 1 (A x.of.length)]:=by
  intro d b h;have:=HL d (ct ns x) b (by rw [fO];exact hl) h;rw [ofB,fO,<- hA2] at this;exact this
 have hall:∀(s:Int),bm P0 kj [.d (I s),.ptr 0 0] [.var [.ref 1 0 0 x.of.length],.arr 1 (A x.of.length)] (.d (.bool ((ct ns x).all fun x=>decide (x=s)))) [.var [.ref 1 0 0 x.of.length],.arr 1 (A x.of.length)]:=by
  intro s;have:=HM s (ct ns x) (by rw [fO];exact hl);rw [ofB,fO,<- hA2] at this;exact this
 have hsort:=Fz;have hR:dH ns x=dY x.kind x.n (ct ns x) (cU ns (x.of.headD 0)):=rfl;rw [hR];have h17:ct ns x=[1]->∃(k:Int) (y:Nd),(x.of.map fun i=>[I i])[(0:Int).toNat]? = some [I k]/\0<=k/\k<ns.length/\0<x.of.length/\(ns.map ndL)[k.toNat]? = some (ndL y)/\cU ns (x.of.headD 0)=y.kind:=by
  intro h;have hlen:=fO ns x;rw [h] at hlen
  cases hof:x.of with
  | nil=>rw [hof] at hlen;cases hlen
  | cons k r=>
   obtain ⟨h1,h2⟩:=hk k (by rw [hof];simp);have h3:k.toNat<ns.length:=by omega
   exact ⟨k,ns[k.toNat],rfl,h1,h2,by simp,by simp [h3],by simp [cU,List.getD,h3]⟩
 have h17:∃(k:Int) (y:Nd),ct ns x=[1]->((x.of.map fun i=>[I i])[(0:Int).toNat]? = some [I k]/\0<=k/\k<ns.length/\0<x.of.length/\(ns.map ndL)[k.toNat]? = some (ndL y)/\cU ns (x.of.headD 0)=y.kind):=by
  by_cases h:ct ns x=[1]
  ·obtain ⟨k,y,h⟩:=h17 h
   exact ⟨k,y,fun _=>h⟩
  ·exact ⟨0,default,fun e=>absurd e h⟩
 obtain ⟨k7,y7,h17⟩:=h17;generalize ct ns x=so at *;generalize cU ns (x.of.headD 0)=k0 at *;obtain ⟨kind,n,name,name2,of⟩:=x;simp only at *;clear hk hR hA2;show Ret P0 mP [bZ ns,.agg [I kind,I n,.str name,.str name2,.slice 1 (of.map fun i=>[I i]) false]] _;clear hoE;generalize of.length=L at *;generalize (of.map fun i=>[I i])=O at *;refine aF yy rfl ?_
 repeat refine aw ?_
 refine dO (fun j:Nat=>⟨[(13,.d (I j)),(12,.d (I (O.length))),(11,.d (.slice 1 O false)),(5,.ptr 1 0),(3,.ptr 0 0),(0,.d (bZ ns))],[(2,.arr 1 (A j)),(1,.var [.ref 2 0 0 j]),(0,.var [.d (I kind),.d (I n),.d (.str name),.d (.str name2),.d (.slice 1 O false)])],3,[],0⟩)
  (fun j=>j<=L) (fun j=>L - j) 0 (by rw [hA0];exact Uw.wW) (by omega) ?_
 intro j hj;by_cases h1:j<L
 ·obtain ⟨k,y,e1,h2,h3,e2,e3,e4⟩:=hA1 j h1
  have hs:=hsort y.kind;have h8:(decide (j=(A j).length)&&decide ((j+((List.replicate 1 [Dat.int IntKind.i64 0]).set 0 [I (cQ y.kind)]).length) * 8<=70368744177664))=true:=by simp [e4];omega
  repeat refine aw ?_
  exact cJ (j+1) (by omega) (by omega) (by exact Uw.wW)
 ·obtain rfl:j=L:=by omega
  repeat refine aw ?_
  refine aA ?_
  repeat' first|refine aw ?_|refine bw (fun _=>?_) fun _=>?_
  ·rename_i h
   refine ag 3 [1,2] (HN .nil [] (.inl ⟨rfl,rfl⟩)) ?_;subst h
   repeat' first|refine aw ?_|refine bw (fun _=>?_) fun _=>?_
   all_goals refine al rfl rfl rfl rfl ?_
   all_goals first|(simp_all [dY,jX];done)|(simp_all [dY,jX];omega)
  iterate 2
   ·rename_i h
    refine ag 3 [1,2] (HN .nil [] (.inl ⟨rfl,rfl⟩)) ?_
    repeat refine aw ?_
    refine al rfl rfl rfl rfl ?_;subst h;rfl
  iterate 6
   ·rename_i h
    refine ag 3 [1,2] (HN _ [1,1] (.inr ⟨true,rfl⟩)) ?_
    repeat refine aw ?_
    refine al rfl rfl rfl rfl ?_;subst h;rfl
  iterate 2
   ·rename_i h
    refine ag 3 [1,2] (hall 1) ?_
    repeat refine aw ?_
    refine al rfl rfl rfl rfl ?_;subst h;rfl
  iterate 3
   ·rename_i h
    refine ag 3 [1,2] (HN _ [1] (.inr ⟨true,rfl⟩)) ?_
    repeat refine aw ?_
    refine al rfl rfl rfl rfl ?_;subst h;rfl
  ·rename_i h
   refine ag 3 [1,2] (HN _ [1] (.inr ⟨true,rfl⟩)) ?_;by_cases h5:so=[1]
   ·have e1:=(h17 h5).1
    have e2:=(h17 h5).2.1;have e3:=(h17 h5).2.2.1;have e4:=(h17 h5).2.2.2.1;have e5:=(h17 h5).2.2.2.2.1;have e6:=(h17 h5).2.2.2.2.2
    repeat refine aw ?_
    refine al rfl rfl rfl rfl ?_;rw [h,h5,e6];rfl
   ·repeat refine aw ?_
    refine al rfl rfl rfl rfl ?_;rw [h];show Dat.bool false=Dat.bool (decide (so=[1])&&_);rw [decide_eq_false h5];rfl
  ·rename_i h
   refine ag 3 [1,2] (HN _ [1,3] (.inr ⟨true,rfl⟩)) ?_;by_cases h5:so=[1,3]
   ·repeat refine aw ?_
    refine al rfl rfl rfl rfl ?_;rw [h];show Dat.bool true=Dat.bool (decide (so=[1,3])||_);rw [decide_eq_true h5];rfl
   ·repeat refine aw ?_
    refine ag 3 [1,2] (HN _ [1,3,3] (.inr ⟨true,rfl⟩)) ?_
    repeat refine aw ?_
    refine al rfl rfl rfl rfl ?_;rw [h];show Dat.bool (decide (so=[1,3,3]))=Dat.bool (decide (so=[1,3])||_);rw [decide_eq_false h5];rfl
  ·rename_i h
   refine ag 3 [1,2] (HN _ [1,3] (.inr ⟨true,rfl⟩)) ?_
   repeat refine aw ?_
   refine al rfl rfl rfl rfl ?_;subst h;rfl
  ·rename_i h
   refine ag 3 [1,2] (hall 2) ?_
   repeat refine aw ?_
   refine al rfl rfl rfl rfl ?_;subst h;rfl
  ·refine al rfl rfl rfl rfl ?_
   show Dat.bool false=_;rw [dY,if_neg (by omega),if_neg (by omega),if_neg (by omega),if_neg (by omega),if_neg (by omega),if_neg (by omega),if_neg (by omega),if_neg (by omega),if_neg (by omega)]
end Uw.Tryz
namespace Uw.Tryz
open Go Uw
structure Lim (p:Pg):Prop where
 nodes:p.nodes.length<100000
 ae:p.ae.length<100000
 decls:p.decls.length<100000
 of:∀x∈p.nodes,x.of.length<100000
 args:∀f∈p.ae,f.args.length<100000
def od (L:List Int) (n:Nat):List Int:=(List.range n).map fun (k:Nat)=>((L.count (k:Int):Nat):Int)
theorem yN (L:List Int) (n:Nat):(od L n).length=n:=by simp [od]
theorem FB (L:List Int) (n k:Nat) (h:k<n):(od L n)[k]'(by rw [yN];exact h)=(L.count (k:Int):Nat):=by simp [od]
theorem Q8 (L:List Int) (n:Nat) (k:Int) (h0:0<=k) (h:k<n):(od L n).set k.toNat (((L.count k:Nat):Int)+1)=od (L++[k]) n:=by
 have hk:k.toNat<n:=by omega
 have hkk:((k.toNat:Nat):Int)=k:=by omega
 apply abj
 ·simp [od]
 ·intro i h1 h2
  have hi:i<n:=by rw [yN] at h2;exact h2
  rw [FB _ _ _ hi,Zq];by_cases he:i=k.toNat
  ·subst he
   rw [List.getElem_set_self,hkk];simp
  ·rw [List.getElem_set_ne (Ne.symm he),FB _ _ _ hi]
   have:¬k=(i:Int):=by omega
   simp [Zz,this]
theorem Q9 (n:Nat):od [] n=List.replicate n 0:=by
 apply abj
 ·simp [od]
 ·intro i h1 h2;simp [od]
def fx (l:List Int):List (List Dat):=l.map fun i=>[I i]
theorem OI {L:List Int} {n:Nat} {k:Int} (h0:0<=k) (h:k<n):(fx (od L n))[k.toNat]? = some [I (L.count k:Nat)]:=by
 have hk:k.toNat<n:=by omega
 have hkk:((k.toNat:Nat):Int)=k:=by omega
 rw [fx,ZB,YQ (by rw [yN];exact hk),FB _ _ _ hk,hkk];rfl
theorem Rb {L:List Int} {n:Nat} {k:Int} (h0:0<=k) (h:k<n):(fx (od L n)).set k.toNat [I (((L.count k:Nat):Int)+1)]=fx (od (L++[k]) n):=by
 rw [<- Q8 L n k h0 h,fx,fx,aaX]
theorem Rf (L:List Int) (n:Nat):(fx (od L n)).length=n:=by rw [fx,Y5,yN]
theorem KG {l:List Nd} (h:∀x∈l,x.of.length<100000):(l.flatMap (·.of)).length<=l.length * 100000:=by
 induction l with
 | nil=>simp
 | cons x l ih=>
  have h1:=h x (by simp);have h2:=ih fun y hy=>h y (by simp [hy]);rw [Z3,YP,YR,Zh];omega
theorem OJ {p:Pg} (hp:Lim p):(eX p).length<100000000000:=by
 have h1:=KG hp.of;have h2:=hp.nodes;have h3:=hp.ae;rw [eX,YP,Y5];omega
def ll (ns:List Nd) (i:Nat):List Int:=(ns.take i).flatMap (·.of)
theorem HO {ns:List Nd} {i:Nat} (h:i<ns.length):ll ns (i+1)=ll ns i++ns[i].of:=by
 rw [ll,YM h,List.flatMap_append];simp [ll]
theorem Ah {ns:List Nd}:∀{l:List Nd} {b:Nat},ez ns b l=true<->∀(i:Nat) (h:i<l.length),mK ns (b+i) l[i]=true
 | [],b=>by simp [ez]
 | x::l,b=>by
  simp only [ez,YL];rw [Ah];constructor
  ·rintro ⟨h1,h2⟩ i hi
   cases i with
   | zero=>exact h1
   | succ i=>have:=h2 i (by simpa using hi);rw [show b+(i+1)=b+1+i by omega];exact this
  ·intro h
   refine ⟨h 0 (by simp),fun i hi=>?_⟩;have:=h (i+1) (by simpa using hi);rw [show b+1+i=b+(i+1) by omega];exact this
theorem KH (U:List Int) (n:Nat) (k:Int) (h0:0<=k) (h:k<n):∃c:Int,(fx (od U n))[0+k.toNat]? = some [I c]/\(fx (od U n)).set (0+k.toNat) (setAt [I c] 0 [I (c+1)])=fx (od (U++[k]) n)/\0<=c/\c<=U.length:=by
 refine ⟨(U.count k:Nat),by rw [YZ];exact OI h0 h,by rw [YZ];exact Rb h0 h,by omega,?_⟩;have:=Z2 (a:=k) (l:=U);omega
theorem Ai {p:Pg} (hp:Lim p) (i:Nat):(ll p.nodes i).length<10000000000:=by
 have h1:=KG (l:=p.nodes.take i) fun x hx=>hp.of x (Zs hx);have h2:=hp.nodes;have h3:(p.nodes.take i).length<=p.nodes.length:=by simp;omega
 unfold ll;omega
structure HQ (p:Pg) (R:Bool):Prop where
 kid:∀(i:Nat) (h:i<p.nodes.length) (k:Int),k∈p.nodes[i].of->¬(0<=k/\k<i)->R=false
 shape:∀(i:Nat) (h:i<p.nodes.length),dH p.nodes p.nodes[i]=false->R=false
 body:∀(i:Nat) (h:i<p.ae.length),gQ p.nodes p.ae[i]=false->R=false
 time:∀(k:Nat),k<p.nodes.length->(eX p).count (k:Int)≠1->R=false
 all:(∀(i:Nat) (h:i<p.nodes.length),(∀k∈p.nodes[i].of,0<=k/\k<i)/\dH p.nodes p.nodes[i]=true)->(∀(i:Nat) (h:i<p.ae.length),gQ p.nodes p.ae[i]=true)->(∀(k:Nat),k<p.nodes.length->(eX p).count (k:Int)=1)->R=true
theorem FC (p:Pg):HQ p (aY p):=by
 have key:aY p=true<->(∀(i:Nat) (h:i<p.nodes.length),mK p.nodes i p.nodes[i]=true)/\(∀f∈p.ae,gQ p.nodes f=true)/\∀(k:Nat),k<p.nodes.length->(eX p).count (k:Int)=1:=by
  simp only [aY,YL,Ah,Y1,and_assoc,YZ,decide_eq_true_eq,Z7]
 have hno:∀(i:Nat) (h:i<p.nodes.length),mK p.nodes i p.nodes[i]=true<->(∀k∈p.nodes[i].of,0<=k/\k<i)/\dH p.nodes p.nodes[i]=true:=by
  intro i h;simp [mK,YL,Y1]
 have no:∀{P:Prop},(aY p=true->P)->¬P->aY p=false:=fun h1 h2=>by
  rw [aaD];exact fun e=>h2 (h1 e)
 refine ⟨fun i h k hk hb=>no (fun e=>((hno i h).1 ((key.1 e).1 i h)).1 k hk) hb,fun i h hs=>no (fun e=>((hno i h).1 ((key.1 e).1 i h)).2) (by simp [hs]),fun i h hs=>no (fun e=>(key.1 e).2.1 _ (YT h)) (by simp [hs]),fun k hk hc=>no (fun e=>(key.1 e).2.2 k hk) hc,fun h1 h2 h3=>key.2 ⟨fun i h=>(hno i h).2 (h1 i h),fun f hf=>?_,h3⟩⟩;obtain ⟨i,hi,rfl⟩:=Y0.1 hf;exact h2 i hi
theorem rR (p:Pg) (hp:Lim p):Ret P0 ry [pgD p] (.bool (aY p)):=by
 have hF:=FC p;have hfew:=OJ hp;have hN:=hp.nodes;have hFl:=hp.ae;generalize aY p=R at *;have hnl:(p.nodes.map ndL).length=p.nodes.length:=by simp
 have hfl:(p.ae.map fuL).length=p.ae.length:=by simp
 obtain ⟨T,hT⟩:∃T:Nat->List (List Dat),∀i,T i=fx (od (ll p.nodes i) p.nodes.length):=⟨_,fun _=>rfl⟩
 have e0:List.replicate (((p.nodes.map ndL).length:Nat):Int).toNat [I 0]=T 0:=by
  rw [hT,show ll p.nodes 0=[] from rfl,Q9,fx,List.map_replicate,hnl];simp
 have hmk:(decide ((0:Int)<=((p.nodes.map ndL).length:Nat))&&decide ((((p.nodes.map ndL).length:Nat):Int)<=((p.nodes.map ndL).length:Nat))&&decide ((((p.nodes.map ndL).length:Nat):Int) * ((8:Nat):Int)<=70368744177664))=true:=by simp;omega
 refine aF yu rfl ?_
 repeat refine aw ?_
 refine dO (fun i:Nat=>⟨[(19,.d (I i)),(18,.d (I ((p.nodes.map ndL).length:Nat))),(17,.d (bZ p.nodes)),(3,.ref 1 0 0 p.nodes.length),(1,.ptr 0 0)],[(1,.mt 1 0 (T i)),(0,.var [.d (.slice 3 (p.decls.map bM) false),.d (.slice 3 (p.ae.map fuL) false),.d (bZ p.nodes)])],2,[],0⟩)
  (fun i=>i<=p.nodes.length/\∀(j:Nat) (h:j<p.nodes.length),j<i->(∀k∈p.nodes[j].of,0<=k/\k<j)/\dH p.nodes p.nodes[j]=true) (fun i=>p.nodes.length - i) 0 (by exact Uw.wM) ⟨by omega,fun j _ h=>by omega⟩ ?_
 rintro i ⟨hi,hok⟩;by_cases hlt:i<p.nodes.length
 rotate_left
 ·repeat refine aw ?_
  refine aA ?_
  repeat refine aw ?_
  have hok2:∀(j:Nat) (h:j<p.nodes.length),(∀k∈p.nodes[j].of,0<=k/\k<j)/\dH p.nodes p.nodes[j]=true:=fun j h=>hok j h (by omega);obtain rfl:i=p.nodes.length:=by omega
  have hU:ll p.nodes p.nodes.length=p.nodes.flatMap (·.of):=by rw [ll,YW]
  obtain ⟨T3,hT3⟩:∃T3:Nat->List (List Dat),∀j,T3 j=fx (od (p.nodes.flatMap (·.of)++(p.ae.map (·.body)).take j) p.nodes.length):=⟨_,fun _=>rfl⟩
  have e3:T p.nodes.length=T3 0:=by rw [hT,hT3,hU];simp
  have e4:T3 p.ae.length=fx (od (eX p) p.nodes.length):=by
   rw [hT3,eX,YU (by simp)]
  have hstep:∀(j:Nat) (h:j<p.ae.length),0<=p.ae[j].body->p.ae[j].body<p.nodes.length->∃c:Int,(T3 j)[0+p.ae[j].body.toNat]? = some [I c]/\(T3 j).set (0+p.ae[j].body.toNat) (setAt [I c] 0 [I (c+1)])=T3 (j+1)/\0<=c/\c<100000000000:=by
   intro j h h0 h1;obtain ⟨c,g1,g2,g3,g4⟩:=KH (p.nodes.flatMap (·.of)++(p.ae.map (·.body)).take j) p.nodes.length _ h0 h1;refine ⟨c,by rw [hT3];exact g1,?_,g3,?_⟩
   ·rw [hT3,hT3,g2,YM (by simpa using h),Ze,ZZ]
   ·have:=Ai hp p.nodes.length
    rw [hU] at this;simp only [YP,Y8,Y5] at g4;omega
  have hbody:=hF.body;have UX:∀(j:Nat) (h:j<p.ae.length),(p.ae.map fuL)[(j:Int).toNat]? = some (fuL p.ae[j]):=by intro j h;simp [h]
  have UY:∀(k:Int),0<=k->k<p.nodes.length->∃y:Nd,(p.nodes.map ndL)[k.toNat]? = some (ndL y)/\cU p.nodes k=y.kind:=by
   intro k h0 h1;have h3:k.toNat<p.nodes.length:=by omega
   exact ⟨p.nodes[k.toNat],by simp [h3],by simp [cU,List.getD,h3]⟩
  clear hT e0 hT3 hi;rw [e3];refine bn p.ae.length (fun j:Nat=>⟨[(54,.d (I j)),(53,.d (I ((p.ae.map fuL).length:Nat))),(52,.d (.slice 3 (p.ae.map fuL) false)),(3,.ref 1 0 0 p.nodes.length),(1,.ptr 0 0)],[(1,.mt 1 0 (T3 j)),(0,.var [.d (.slice 3 (p.decls.map bM) false),.d (.slice 3 (p.ae.map fuL) false),.d (bZ p.nodes)])],2,[],0⟩)
   (fun j=>∀h:j<p.ae.length,gQ p.nodes p.ae[j]=true) (by exact Uw.wM) (fun hbd=>?_) (fun j hj hbd=>?_)
  ·have hbd:∀(j:Nat) (h:j<p.ae.length),gQ p.nodes p.ae[j]=true:=fun j h=>hbd j h h
   have hR:=hF.all hok2 hbd;have Wx:=hF.time;have Xy:∀(k:Nat) (h:k<p.nodes.length),(T3 p.ae.length)[0+(k:Int).toNat]? = some [I ((eX p).count (k:Int):Nat)]:=by
    intro k h;rw [e4,YZ];exact OI (by omega) (by omega)
   have hTl:(T3 p.ae.length).length=p.nodes.length:=by rw [e4,Rf]
   repeat refine aw ?_
   refine aA ?_
   repeat refine aw ?_
   clear hF hok hok2 hbd UX UY hbody hstep;refine bn p.nodes.length (fun k:Nat=>⟨[(89,.d (I k)),(88,.d (I (p.nodes.length:Nat))),(87,.ref 1 0 0 p.nodes.length)],[(1,.mt 1 0 (T3 p.ae.length))],2,[],0⟩)
    (fun k=>(eX p).count (k:Int)=1) (by exact Uw.wM) (fun hc=>?_) (fun k hk hc=>?_)
   ·rw [hR hc]
    repeat refine aw ?_
    refine aA ?_
    repeat refine aw ?_
    exact al rfl rfl rfl rfl rfl
   have hel:=Xy k hk;have hti:=Wx k hk;by_cases h1:(eX p).count (k:Int)=1
   ·rw [h1] at hel
    repeat refine aw ?_
    exact ay k h1 (by exact Uw.wM)
   ·rw [hti h1]
    have h2:¬(((eX p).count (k:Int):Nat):Int)=1:=by omega
    clear hti;generalize (((eX p).count (k:Int):Nat):Int)=c at *
    repeat refine aw ?_
    refine aN ?_;exact al rfl rfl rfl rfl rfl
  have hb:=hbody j hj;have hs:=hstep j hj;have he:=UX j hj;have hN2:=UY p.ae[j].body;have hbk:gQ p.nodes p.ae[j]=(decide (0<=p.ae[j].body)&&decide (p.ae[j].body<p.nodes.length)&&decide (cU p.nodes p.ae[j].body=18)):=rfl;have hnext:gQ p.nodes p.ae[j]=true->∀h:j<p.ae.length,gQ p.nodes p.ae[j]=true:=fun h _=>h;rw [hbk] at hb hnext;clear hbk hbody hstep UX UY;generalize p.ae[j]=f at *;obtain ⟨fn,fa,fb⟩:=f;have he:(p.ae.map fuL)[(j:Int).toNat]? = some [.str fn,ei fa,I fb]:=he;simp only at *;by_cases h0:fb<0
  ·rw [hb (by rw [decide_eq_false (by omega)];rfl)]
   repeat refine aw ?_
   refine aN ?_;exact al rfl rfl rfl rfl rfl
  by_cases h1:(p.nodes.length:Int)<=fb
  ·rw [hb (by rw [decide_eq_false (show ¬fb<p.nodes.length by omega),aaR];rfl)]
   repeat refine aw ?_
   refine aN ?_;exact al rfl rfl rfl rfl rfl
  obtain ⟨y,k1,k2⟩:=hN2 (by omega) (by omega);rw [k2,decide_eq_true (show 0<=fb by omega),decide_eq_true (show fb<p.nodes.length by omega)] at hb hnext;by_cases h2:y.kind=18
  rotate_left
  ·rw [hb (by rw [decide_eq_false h2];rfl)]
   repeat refine aw ?_
   refine aN ?_;exact al rfl rfl rfl rfl rfl
  have hnext:=hnext (by rw [decide_eq_true h2];rfl);obtain ⟨c,g1,g2,g3,g4⟩:=hs (by omega) (by omega)
  repeat refine aw ?_
  exact ay j hnext (by exact Uw.wM)
 have hx:=hp.of p.nodes[i] (YT hlt);have Rh:=hF.kid i hlt;have Xz:=hF.shape i hlt;have hsh:=fun (hh:∀k∈p.nodes[i].of,0<=k/\k<(p.nodes.length:Int))=>Ag p.nodes p.nodes[i] hh (by omega);have hnew:(∀k∈p.nodes[i].of,0<=k/\k<(i:Int))->dH p.nodes p.nodes[i]=true->∀(j:Nat) (h:j<p.nodes.length),j<i+1->(∀k∈p.nodes[j].of,0<=k/\k<(j:Int))/\dH p.nodes p.nodes[j]=true:=by
  intro h1 h2 j h hj;by_cases he:j=i
  ·subst he;exact ⟨h1,h2⟩
  ·exact hok j h (by omega)
 obtain ⟨T2,hT2⟩:∃T2:Nat->List (List Dat),∀j,T2 j=fx (od (ll p.nodes i++p.nodes[i].of.take j) p.nodes.length):=⟨_,fun _=>rfl⟩
 have e1:T i=T2 0:=by rw [hT,hT2];simp
 have e2:T2 p.nodes[i].of.length=T (i+1):=by rw [hT,hT2,YW,HO hlt]
 have hstep:∀(j:Nat) (h:j<p.nodes[i].of.length),0<=p.nodes[i].of[j]->p.nodes[i].of[j]<p.nodes.length->∃c:Int,(T2 j)[0+p.nodes[i].of[j].toNat]? = some [I c]/\(T2 j).set (0+p.nodes[i].of[j].toNat) (setAt [I c] 0 [I (c+1)])=T2 (j+1)/\0<=c/\c<100000000000:=by
  intro j h h0 h1;obtain ⟨c,g1,g2,g3,g4⟩:=KH (ll p.nodes i++p.nodes[i].of.take j) p.nodes.length _ h0 h1;refine ⟨c,by rw [hT2];exact g1,?_,g3,?_⟩
  ·rw [hT2,hT2,g2,YM h,Ze]
  ·have:=Ai hp i
   simp at g4;omega
 have hel:(p.nodes.map ndL)[(i:Int).toNat]? = some (ndL p.nodes[i]):=by simp [hlt]
 have hmem:∀(j:Nat) (h:j<p.nodes[i].of.length),p.nodes[i].of[j]∈p.nodes[i].of:=fun j h=>YT h;have hall:(∀(j:Nat) (h:j<p.nodes[i].of.length),0<=p.nodes[i].of[j]/\p.nodes[i].of[j]<(i:Int))->∀k∈p.nodes[i].of,0<=k/\k<(i:Int):=by
  intro h k hk;obtain ⟨j,hj,rfl⟩:=Y0.1 hk;exact h j hj
 generalize p.nodes[i]=x at *;have hol:(x.of.map fun i=>[I i]).length=x.of.length:=by simp
 have hoe:∀(j:Nat) (h:j<x.of.length),(x.of.map fun i=>[I i])[(j:Int).toNat]? = some [I x.of[j]]:=by intro j h;simp [h]
 repeat refine aw ?_
 refine dO (fun j:Nat=>⟨[(27,.d (I j)),(26,.d (I ((x.of.map fun i=>[I i]).length:Nat))),(25,.d (cb x.of)),(4,.d (I i)),(5,.ptr 2 0),(19,.d (I i)),(18,.d (I ((p.nodes.map ndL).length:Nat))),(17,.d (bZ p.nodes)),(3,.ref 1 0 0 p.nodes.length),(1,.ptr 0 0)],[(2,.var [.d (I x.kind),.d (I x.n),.d (.str x.name),.d (.str x.name2),.d (cb x.of)]),(1,.mt 1 0 (T2 j)),(0,.var [.d (.slice 3 (p.decls.map bM) false),.d (.slice 3 (p.ae.map fuL) false),.d (bZ p.nodes)])],3,[],0⟩)
  (fun j=>j<=x.of.length/\∀(m:Nat) (h:m<x.of.length),m<j->0<=x.of[m]/\x.of[m]<(i:Int)) (fun j=>x.of.length - j) 0 (by exact Uw.wM) ⟨by omega,fun m _ h=>by omega⟩ ?_
 rintro j ⟨hj,hpre⟩;by_cases hjl:j<x.of.length
 ·have hk:=Rh x.of[j] (hmem j hjl)
  have hs:=hstep j hjl;have he:=hoe j hjl;have S7:0<=x.of[j]/\x.of[j]<(i:Int)->∀(m:Nat) (h:m<x.of.length),m<j+1->0<=x.of[m]/\x.of[m]<(i:Int):=by
   intro h1 m h hm;by_cases h2:m=j
   ·subst h2;exact h1
   ·exact hpre m h (by omega)
  clear hpre hoe hmem hstep Rh hall;generalize x.of[j]=k at *;by_cases h0:k<0
  ·rw [hk (by omega)]
   repeat refine aw ?_
   exact aN (aN (al rfl rfl rfl rfl rfl))
  by_cases h1:(i:Int)<=k
  ·rw [hk (by omega)]
   repeat refine aw ?_
   exact aN (aN (al rfl rfl rfl rfl rfl))
  obtain ⟨c,g1,g2,g3,g4⟩:=hs (by omega) (by omega);have Wy:=S7 (by omega)
  repeat refine aw ?_
  exact cJ (j+1) ⟨by omega,Wy⟩ (by omega) (by exact Uw.wM)
 obtain rfl:j=x.of.length:=by omega
 have hsh2:=hsh fun k hk=>by have:=hall (fun m h=>hpre m h h) k hk;omega
 have hnew2:=hnew (hall fun m h=>hpre m h h);by_cases hs:dH p.nodes x=true
 ·rw [hs] at hsh2
  have Wz:=hnew2 hs
  repeat refine aw ?_
  refine aA ?_
  repeat refine aw ?_
  exact cJ (i+1) ⟨by omega,Wz⟩ (by omega) (by exact Uw.wM)
 ·have hs:dH p.nodes x=false:=by simpa using hs
  rw [hs] at hsh2;rw [Xz hs]
  repeat refine aw ?_
  refine aA ?_
  repeat refine aw ?_
  exact aN (al rfl rfl rfl rfl rfl)
end Uw.Tryz
namespace Uw.Tryz
open Go Uw
theorem vH:∀(fs:List Fu) (i:Nat) (o:List Int),(nW fs i o).length=o.length
 | [],_,_=>rfl
 | f::fs,i,o=>by rw [nW,vH fs];simp
theorem sA {i:Nat}:∀(l:List Int) (o:List Int),(l.foldl (fun o k=>o.set k.toNat (o.getD i 0)) o).length=o.length
 | [],_=>rfl
 | k::l,o=>by rw [Z5,sA l];simp
theorem rS:∀(l:List (Nat×Nd)) (o:List Int),(eA l o).length=o.length
 | [],_=>rfl
 | (i,x)::r,o=>by rw [eA,rS r,fV,sA]
theorem dT (p:Pg):(aD p).length=p.nodes.length:=by rw [aD,rS,vH];simp
theorem KI {α β:Type}:∀{l:List α} {l' : List β} {x:α},l'.length=l.length->x∈l->∃y,(x,y)∈l.zip l'
 | a::l,[],x,h,_=>by simp at h
 | a::l,b::l',x,h,hx=>by
  rcases Y3.1 hx with rfl|hx
  ·exact ⟨b,by simp⟩
  ·obtain ⟨y,hy⟩:=KI (l:=l) (l':=l') (by simpa using h) hx
   exact ⟨y,by simp [hy]⟩
structure May (p:Pg):Prop where
 formed:aY p=true
 bound:dw p=false
 twice:dp p=false
 name:nameP p=false
 sort:gx p=false
 many:fu p=false
theorem UZ {p:Pg} (h:jT p=0):May p:=by
 unfold jT at h
 cases h1:aY p<;>cases h2:dw p<;>cases h3:dp p<;>cases h4:nameP p<;>cases h5:gx p<;>cases h6:fu p<;>simp [h1,h2,h3,h4,h5,h6] at h
 exact ⟨h1,h2,h3,h4,h5,h6⟩
theorem o8 {α:Type} {l:List α} (h:l.Nodup) {i j:Nat} (hi:i<l.length) (hj:j<l.length) (he:l[i]=l[j]):i=j:=by
 have h:=aar.1 (aan.1 h)
 rcases Nat.lt_trichotomy i j with h1|h1|h1
 ·exact absurd he (h i j hi hj h1)
 ·exact h1
 ·exact absurd he.symm (h j i hj hi h1)
theorem o9 {p:Pg} {s:Str} {i:Nat} (h:cV p s=some i):∃h:i<p.ae.length,p.ae[i].name=s:=by
 obtain ⟨h1,h2,_⟩:=Zy.1 h;exact ⟨h1,by simpa using h2⟩
theorem DK {p:Pg} (h:(p.ae.map (·.name)).Nodup) {i:Nat} (hi:i<p.ae.length):cV p p.ae[i].name=some i:=by
 refine Zy.2 ⟨hi,by simp,fun j hj hji=>?_⟩;have hjl:j<p.ae.length:=by omega
 have e:p.ae[j].name=p.ae[i].name:=by simpa using hji
 have:=o8 h (i:=j) (j:=i) (by simpa using hjl) (by simpa using hi) (by simpa using e);omega
theorem May.names {p:Pg} (h:May p):(p.decls.map (·.name)).Nodup/\(p.ae.map (·.name)).Nodup/\∀f∈p.ae,jq p [] f.args=false:=by
 have:=h.twice;simp only [dp,Zt,Bool.not_eq_false',decide_eq_true_eq,Zl] at this;exact ⟨this.1.1,this.1.2,fun f hf=>by simpa using this.2 f hf⟩
theorem May.main {p:Pg} (h:May p):∃m,∃hm:m<p.ae.length,cV p eY=some m/\p.ae[m].args=[]:=by
 have h1:=h.name;have h2:=h.many;simp only [nameP,Zt] at h1;simp only [fu,Zt,decide_eq_false_iff_not] at h2
 cases hf:cV p eY with
 | none=>rw [hf] at h1;simp at h1
 | some m=>
  obtain ⟨hm,_⟩:=o9 hf;refine ⟨m,hm,rfl,?_⟩;have:=h2.1;rw [argsAt,hf] at this;simp only [abf,List.getD,YQ hm] at this;exact Y2 (by omega)
theorem May.call {p:Pg} (h:May p) {x:Nd} (hx:x∈p.nodes) (hk:x.kind=10\/x.kind=11):∃k,∃hk:k<p.ae.length,cV p x.name2=some k/\(x.kind=10->x.of.length=p.ae[k].args.length)/\(x.kind=11->p.ae[k].args.length=1):=by
 have h2:=h.many;simp only [fu,Zt,decide_eq_false_iff_not,Zl] at h2;have h1:=h.name;simp only [nameP,Zt,Zl] at h1;have h3:=h2.2 x hx;obtain ⟨o,ho⟩:∃o,(x,o)∈p.nodes.zip (aD p):=KI (dT p) hx;have h4:=h1.1.2 _ ho;simp only [ft,if_pos hk] at h4
 cases hf:cV p x.name2 with
 | none=>rw [hf] at h4;simp at h4
 | some k=>
  obtain ⟨hkl,_⟩:=o9 hf;refine ⟨k,hkl,rfl,fun h10=>?_,fun h11=>?_⟩
  ·simp [manyN,h10,argsAt,hf,hkl] at h3;exact h3
  ·simp [manyN,h11,argsAt,hf,hkl] at h3;exact h3
theorem KJ {p:Pg}:∀(l seen:List Str),jq p seen l=false->l.Nodup/\(∀a∈l,a∉seen)/\∀a∈l,aE p a=none
 | [],_,_=>⟨aa2,by simp,by simp⟩
 | a::r,seen,h=>by
  simp only [jq,Zt,decide_eq_false_iff_not] at h;obtain ⟨h1,h2,h3⟩:=KJ r (a::seen) h.2;refine ⟨aaM.2 ⟨fun hm=>h2 a hm (by simp),h1⟩,?_,?_⟩
  ·intro b hb
   rcases Y3.1 hb with rfl|hb
   ·exact h.1.2
   ·exact fun hs=>h2 b hb (by simp [hs])
  ·intro b hb
   rcases Y3.1 hb with rfl|hb
   ·simpa using h.1.1
   ·exact h3 b hb
def Loc (p:Pg) (a l:List Str):Prop:=(∃t,l=a++t)/\l.Nodup/\∀s∈l,aE p s=none
def FD (p:Pg) (ls:List (List Str)):Prop:=ls.length=p.ae.length/\∀(f:Nat) (h:f<p.ae.length),Loc p p.ae[f].args (ls.getD f [])
theorem FD.add {p:Pg} {ls:List (List Str)} (h:FD p ls) (f:Nat) (s:Str) (hs:aE p s=none):FD p (addLocal ls f s):=by
 unfold addLocal
 split
 ·exact h
 ·rename_i hm
  refine ⟨by simpa using h.1,fun g hg=>?_⟩;by_cases hgf:g=f
  ·subst hgf
   obtain ⟨⟨t,ht⟩,h2,h3⟩:=h.2 g hg;have e:(ls.set g (ls.getD g []++[s])).getD g []=ls.getD g []++[s]:=by simp [h.1,hg]
   rw [e];refine ⟨⟨t++[s],by rw [ht,Ze]⟩,?_,?_⟩
   ·rw [aay]
    exact ⟨h2,by simp,fun a ha b hb=>by simp at hb;subst hb;exact fun e=>hm (e ▸ ha)⟩
   ·intro b hb
    rcases Y7.1 hb with hb|hb
    ·exact h3 b hb
    ·simp at hb;subst hb;exact hs
  ·have e:(ls.set f (ls.getD f []++[s])).getD g []=ls.getD g []:=by simp [List.getD,ZU,Ne.symm hgf]
   rw [e];exact h.2 g hg
theorem FD.go {p:Pg}:∀(r:List (Nd×Int)) (ls:List (List Str)),FD p ls->FD p (dc p r ls)
 | [],ls,h=>h
 | (x,o)::r,ls,h=>by
  rw [dc];refine FD.go r _ ?_
  split
  ·rename_i hl
   refine h.add _ _ ?_;simp only [dA,YL] at hl;simpa using hl.2
  ·exact h
theorem May.wV {p:Pg} (h:May p):FD p (aj p):=by
 refine FD.go _ _ ⟨by simp,fun f hf=>?_⟩;obtain ⟨h1,_,h3⟩:=KJ _ _ (h.names.2.2 p.ae[f] (YT hf));have e:(p.ae.map (·.args)).getD f []=p.ae[f].args:=by simp [List.getD,hf]
 rw [e];exact ⟨⟨[],by simp⟩,h1,h3⟩
theorem May.lof {p:Pg} (h:May p) (k:Nat) (hk:k<p.ae.length):jG p k=(aj p).getD k []:=by
 rw [jG,if_neg (by simp [h.formed];omega)];simp
theorem May.locals {p:Pg} (h:May p) (k:Nat) (hk:k<p.ae.length):Loc p p.ae[k].args (jG p k)/\(jG p k).length<=16:=by
 rw [h.lof k hk];refine ⟨h.wV.2 k hk,?_⟩;have:=h.bound;simp only [dw,Zt,Zl] at this;have hl:k<(aj p).length:=by rw [h.wV.1];exact hk
 have:=this.1.2 (aj p)[k] (YT hl);have e:(aj p).getD k []=(aj p)[k]:=by simp [List.getD,hl]
 rw [e];simpa using this
theorem kU {p:Pg} {s:Str}:aE p s=none<->∀d∈p.decls,d.name≠s:=by
 simp [aE]
theorem Jq {p:Pg} (h:(p.decls.map (·.name)).Nodup) {d:Dec} (hd:d∈p.decls):aE p d.name=some d.kind:=by
 unfold aE
 cases hf:p.decls.find? fun e=>decide (e.name=d.name) with
 | none=>
  have:=List.find?_eq_none.1 hf d hd;simp at this
 | some e=>
  have h1:=List.mem_of_find?_eq_some hf;have h2:=List.find?_some hf;simp at h2;obtain ⟨i,hi,rfl⟩:=Y0.1 hd;obtain ⟨j,hj,rfl⟩:=Y0.1 h1;have:=o8 h (i:=j) (j:=i) (by simpa using hj) (by simpa using hi) (by simpa using h2);subst this;rfl
theorem xW {ns:List Nd}:∀{l:List Nd} {i:Nat},ez ns i l=true->∀x∈l,∀k∈x.of,0<=k/\k<i+l.length
 | [],_,_,x,hx,_,_=>by simp at hx
 | y::l,i,h,x,hx,k,hk=>by
  simp only [ez,YL] at h
  rcases Y3.1 hx with rfl|hx
  ·have h:=h.1
   simp only [mK,YL,Y1] at h;have:=h.1 k hk;simp at this ⊢;omega
  ·have:=xW h.2 x hx k hk
   simp at this ⊢;omega
theorem yO {p:Pg} (h:aY p=true):∀k∈eX p,0<=k/\k<p.nodes.length:=by
 simp only [aY,YL,Y1] at h;intro k hk
 rcases Y7.1 hk with hk|hk
 ·obtain ⟨x,hx,hk⟩:=aaU.1 hk
  have:=xW h.1.1 x hx k hk;simpa using this
 ·obtain ⟨f,hf,rfl⟩:=Zk.1 hk
  have:=h.1.2 f hf;simp [gQ] at this;omega
theorem lV {p:Pg} (h:aY p=true) (k:Nat) (hk:k<p.nodes.length):(eX p).count (k:Int)=1:=by
 simp only [aY,YL,Y1] at h;simpa using h.2 k (by simpa using hk)
end Uw.Tryz
namespace Uw.Tryz
open Go Uw
theorem vI {α:Type} {x:α}:∀{l:List α} {b i:Nat},(i,x)∈idx b l<->b<=i/\l[i - b]? = some x
 | [],b,i=>by simp [idx]
 | y::l,b,i=>by
  rw [idx,Y3,vI];constructor
  ·rintro (h|⟨h1,h2⟩)
   ·injection h with h1 h2;subst h1 h2;simp
   ·exact ⟨by omega,by rw [show i - b=(i - (b+1))+1 by omega,ZT];exact h2⟩
  ·rintro ⟨h1,h2⟩
   by_cases he:i=b
   ·subst he;simp at h2;subst h2;exact .inl rfl
   ·refine .inr ⟨by omega,?_⟩
    rw [show i - b=(i - (b+1))+1 by omega,ZT] at h2;exact h2
theorem KL {α:Type}:∀(l:List α) (b:Nat),(idx b l).Pairwise fun a c=>a.1<c.1
 | [],b=>List.Pairwise.nil
 | y::l,b=>by
  rw [idx];refine List.Pairwise.cons ?_ (KL l (b+1));rintro ⟨i,x⟩ h;have:=(vI.1 h).1;simp only;omega
theorem HS {α β:Type} (f:α->List β):∀(l:List α) (b:Nat),(idx b l).flatMap (fun y=>f y.2)=l.flatMap f
 | [],b=>rfl
 | y::l,b=>by rw [idx,Z3,Z3,HS f l]
theorem HT {n:Nat} (i:Nat):∀(l:List Int) (o:List Int),o.length=n->(∀k∈l,0<=k/\k<(i:Int))->i<n->∀(j:Nat),(l.foldl (fun o k=>o.set k.toNat (o.getD i 0)) o).getD j 0=if (j:Int)∈l then o.getD i 0 else o.getD j 0
 | [],o,ho,h,hi,j=>by simp
 | k::l,o,ho,h,hi,j=>by
  obtain ⟨h1,h2⟩:=h k (by simp);rw [Z5,HT i l _ (by simpa using ho) (fun k hk=>h k (by simp [hk])) hi j];have e:(o.set k.toNat (o.getD i 0)).getD i 0=o.getD i 0:=by
   simp only [List.getD,ZU];rw [if_neg (by omega)]
  rw [e];by_cases hj:(j:Int)∈l
  ·rw [if_pos hj,if_pos (by simp [hj])]
  ·rw [if_neg hj]
   by_cases hk:(j:Int)=k
   ·rw [if_pos (by simp [hk])]
    subst hk;simp only [List.getD,ZU,aaA,if_true];rw [if_pos (by omega)];rfl
   ·rw [if_neg (by simp [hk,hj])]
    simp only [List.getD,ZU];rw [if_neg (by omega)]
structure Down (n:Nat) (l:List (Nat×Nd)):Prop where
 dec:l.Pairwise fun a c=>c.1<a.1
 kid:∀y∈l,y.1<n/\∀k∈y.2.of,0<=k/\k<(y.1:Int)
 once:(l.flatMap fun y=>y.2.of).Nodup
theorem HU {n:Nat}:∀(l:List (Nat×Nd)) (o:List Int),o.length=n->Down n l->
  (∀j:Nat,(∀y∈l,(j:Int)∉y.2.of)->(eA l o).getD j 0=o.getD j 0)/\∀y∈l,∀j:Nat,(j:Int)∈y.2.of->(eA l o).getD j 0=(eA l o).getD y.1 0
 | [],o,ho,h=>⟨fun j _=>rfl,by simp⟩
 | (i,x)::r,o,ho,h=>by
  obtain ⟨hi,hx⟩:=h.kid (i,x) (by simp);simp only at hi hx;have hlen:(fV o i x).length=n:=by rw [fV,sA,ho]
  have hon:=h.once;rw [Z3,aay] at hon;have hd:=List.pairwise_cons.1 h.dec;have hr:Down n r:=⟨hd.2,fun y hy=>h.kid y (by simp [hy]),hon.2.1⟩
  obtain ⟨a1,a2⟩:=HU r (fV o i x) hlen hr;have hk:=HT i x.of o ho hx hi;have hki:(fV o i x).getD i 0=o.getD i 0:=by
   rw [fV,hk i,if_neg];intro hm;have:=hx _ hm;omega
  have hii:(eA r (fV o i x)).getD i 0=o.getD i 0:=by
   rw [a1 i ?_,hki];intro y hy hm;have h1:=(hr.kid y hy).2 _ hm;have h2:=hd.1 y hy;simp only at h2;omega
  refine ⟨fun j hj=>?_,fun y hy j hm=>?_⟩
  ·rw [eA,a1 j fun y hy=>hj y (by simp [hy]),fV,hk j,if_neg (hj (i,x) (by simp))]
  ·rw [eA]
   rcases Y3.1 hy with rfl|hy
   ·rw [hii,a1 j ?_,fV,hk j,if_pos hm]
    intro y hy hm2;exact hon.2.2 _ hm _ (aaU.2 ⟨y,hy,hm2⟩) rfl
   ·exact a2 y hy j hm
theorem Aj {p:Pg} (h:aY p=true):(eX p).Nodup:=by
 rw [List.nodup_iff_count];intro k;by_cases hk:k∈eX p
 ·obtain ⟨h1,h2⟩:=yO h k hk
  have:=lV h k.toNat (by omega);rw [show ((k.toNat:Nat):Int)=k by omega] at this;omega
 ·rw [List.count_eq_zero.2 hk];omega
theorem Ak:∀(fs:List Fu) (b:Nat) (o:List Int),(∀f∈fs,0<=f.body/\f.body<(o.length:Int))->(fs.map (·.body)).Nodup->∀(i:Nat) (hi:i<fs.length),(nW fs b o).getD fs[i].body.toNat 0=((b+i:Nat):Int)/\∀j:Nat,(∀f∈fs,f.body≠(j:Int))->(nW fs b o).getD j 0=o.getD j 0
 | [],b,o,_,_,i,hi=>by simp at hi
 | f::fs,b,o,h,hn,i,hi=>by
  rw [Zm,aaM] at hn;obtain ⟨h1,h2⟩:=h f (by simp);have hrest:∀g∈fs,0<=g.body/\g.body<((o.set f.body.toNat b).length:Int):=fun g hg=>by rw [aaw];exact h g (by simp [hg])
  have hno:∀j:Nat,(∀g∈fs,g.body≠(j:Int))->(nW fs (b+1) (o.set f.body.toNat b)).getD j 0=(o.set f.body.toNat b).getD j 0:=by
   intro j hj
   cases fs with
   | nil=>rfl
   | cons g fs=>exact (Ak (g::fs) (b+1) _ hrest hn.2 0 (by simp)).2 j hj
  refine ⟨?_,fun j hj=>?_⟩
  ·rw [nW]
   cases i with
   | zero=>
    rw [Z6,hno f.body.toNat fun g hg e=>hn.1 (Zk.2 ⟨g,hg,by rw [e];omega⟩)];simp only [List.getD,ZU];rw [if_pos trivial,if_pos (by omega)];simp
   | succ i=>
    rw [aaz,(Ak fs (b+1) _ hrest hn.2 i (by simpa using hi)).1];omega
  ·rw [nW,hno j fun g hg=>hj g (by simp [hg])]
   simp only [List.getD,ZU];have:=hj f (by simp);rw [if_neg (by omega)]
structure XA (p:Pg):Prop where
 body:∀(i:Nat) (h:i<p.ae.length),(aD p).getD p.ae[i].body.toNat 0=(i:Int)
 kid:∀(i:Nat) (h:i<p.nodes.length) (j:Nat),(j:Int)∈p.nodes[i].of->(aD p).getD j 0=(aD p).getD i 0
theorem owns {p:Pg} (h:aY p=true):XA p:=by
 have hn:=Aj h;rw [eX,aay] at hn;have Rh:∀(i:Nat) (hi:i<p.nodes.length) (k:Int),k∈p.nodes[i].of->0<=k/\k<(i:Int):=by
  intro i hi k hk;have h1:=h;simp only [aY,YL] at h1;have key:∀(l:List Nd) (b:Nat),ez p.nodes b l=true->∀(i:Nat) (hi:i<l.length) (k:Int),k∈l[i].of->0<=k/\k<((b+i:Nat):Int):=by
   intro l
   induction l with
   | nil=>intro b _ i hi;simp at hi
   | cons y l ih=>
    intro b hb i hi k hk;simp only [ez,YL] at hb
    cases i with
    | zero=>
     have h2:=hb.1;simp only [mK,YL,Y1] at h2;have:=h2.1 k hk;simpa using this
    | succ i=>
     have:=ih (b+1) hb.2 i (by simpa using hi) k hk;omega
  have:=key p.nodes 0 h1.1.1 i hi k hk;omega
 have jU:((idx 0 p.nodes).reverse.flatMap fun y=>y.2.of).Nodup:=by
  refine (List.Perm.nodup_iff (List.Perm.flatMap_right _ (List.reverse_perm _))).2 ?_;rw [HS (fun x:Nd=>x.of)];exact hn.1
 have hdown:Down p.nodes.length (idx 0 p.nodes).reverse:=by
  refine ⟨List.pairwise_reverse.2 (KL _ _),?_,jU⟩;rintro ⟨i,x⟩ hy;obtain ⟨_,h2⟩:=vI.1 (abg.1 hy);rw [aaV] at h2;obtain ⟨h3,rfl⟩:=Zi.1 h2;exact ⟨h3,fun k hk=>Rh i h3 k hk⟩
 have hlen:(nW p.ae 0 (List.replicate p.nodes.length 0)).length=p.nodes.length:=by rw [vH];simp
 obtain ⟨a1,a2⟩:=HU _ _ hlen hdown;refine ⟨fun i hi=>?_,fun i hi j hj=>?_⟩
 ·have hb:0<=p.ae[i].body:=(yO h _ (Y7.2 (.inr (Zk.2 ⟨_,YT hi,rfl⟩)))).1
  rw [aD,a1 _ ?_]
  ·rw [(Ak p.ae 0 _ (fun f hf=>by simpa using yO h _ (Y7.2 (.inr (Zk.2 ⟨_,hf,rfl⟩)))) hn.2.1 i hi).1]
   omega
  ·rintro ⟨m,x⟩ hy hm
   obtain ⟨_,h2⟩:=vI.1 (abg.1 hy);have hx:x∈p.nodes:=Y4 h2;simp only at hm;rw [show ((p.ae[i].body.toNat:Nat):Int)=p.ae[i].body by omega] at hm;exact hn.2.2 _ (aaU.2 ⟨x,hx,hm⟩) _ (Zk.2 ⟨_,YT hi,rfl⟩) rfl
 ·exact a2 (i,p.nodes[i]) (abg.2 (vI.2 ⟨ZP _,by simp⟩)) j hj
end Uw.Tryz
namespace Uw.Tryz
open Go Uw
theorem jm {p:Pg} (h:aY p=true) (i:Nat) (hi:i<p.nodes.length):(∀k∈p.nodes[i].of,0<=k/\k<(i:Int))/\dH p.nodes p.nodes[i]=true:=by
 have h1:=h;simp only [aY,YL] at h1;have key:∀(l:List Nd) (b:Nat),ez p.nodes b l=true->∀(i:Nat) (hi:i<l.length),(∀k∈l[i].of,0<=k/\k<((b+i:Nat):Int))/\dH p.nodes l[i]=true:=by
  intro l
  induction l with
  | nil=>intro b _ i hi;simp at hi
  | cons y l ih=>
   intro b hb i hi;simp only [ez,YL] at hb
   cases i with
   | zero=>
    have h2:=hb.1;simp only [mK,YL,Y1] at h2;exact ⟨fun k hk=>by simpa using h2.1 k hk,h2.2⟩
   | succ i=>
    obtain ⟨h3,h4⟩:=ih (b+1) hb.2 i (by simpa using hi);exact ⟨fun k hk=>by have:=h3 k hk;omega,h4⟩
 obtain ⟨h3,h4⟩:=key p.nodes 0 h1.1.1 i hi;exact ⟨fun k hk=>by have:=h3 k hk;omega,h4⟩
theorem nK {p:Pg} (h:aY p=true) (i:Nat) (hi:i<p.ae.length):0<=p.ae[i].body/\p.ae[i].body<p.nodes.length/\cU p.nodes p.ae[i].body=18:=by
 simp only [aY,YL,Y1] at h;have:=h.1.2 _ (YT hi);simp only [gQ,YL,decide_eq_true_eq] at this;exact ⟨this.1.1,this.1.2,this.2⟩
theorem DL {p:Pg} (h:aY p=true) (k:Nat) (hk:k<p.nodes.length) (hb:∀(i:Nat) (hi:i<p.ae.length),p.ae[i].body≠(k:Int)):∃i,∃hi:i<p.nodes.length,(k:Int)∈p.nodes[i].of:=by
 have h1:=lV h k hk;have h2:(k:Int)∈eX p:=List.count_pos_iff.1 (by omega)
 rcases Y7.1 h2 with h3|h3
 ·obtain ⟨x,hx,hk⟩:=aaU.1 h3
  obtain ⟨i,hi,rfl⟩:=Y0.1 hx;exact ⟨i,hi,hk⟩
 ·obtain ⟨f,hf,he⟩:=Zk.1 h3
  obtain ⟨i,hi,rfl⟩:=Y0.1 hf;exact absurd he (hb i hi)
structure Ups (p:Pg) (own:List Int):Prop where
 len:own.length=p.nodes.length
 body:∀(i:Nat) (h:i<p.ae.length) (k:Nat),k<p.nodes.length->p.ae[i].body=(k:Int)->own.getD k 0=(i:Int)
 kid:∀(i:Nat) (h:i<p.nodes.length) (k:Nat),(k:Int)∈p.nodes[i].of->own.getD k 0=own.getD i 0/\k<i
 up:∀(k:Nat),k<p.nodes.length->(∀(i:Nat) (hi:i<p.ae.length),p.ae[i].body≠(k:Int))->(∀(i:Nat) (hi:i<p.nodes.length),(k:Int)∉p.nodes[i].of)->False
theorem Am {p:Pg} (h:aY p=true):Ups p (aD p):=by
 have ho:=owns h;refine ⟨dT p,fun i hi k hk e=>?_,fun i hi k hm=>⟨ho.kid i hi k hm,?_⟩,fun k hk h1 h2=>?_⟩
 ·have:=ho.body i hi
  rw [e] at this;simpa using this
 ·have:=(jm h i hi).1 _ hm;omega
 ·obtain ⟨i,hi,hm⟩:=DL h k hk h1
  exact h2 i hi hm
theorem wX {p:Pg} (h:aY p=true):∀(d k:Nat),k<p.nodes.length->p.nodes.length - k<=d->0<=(aD p).getD k 0/\(aD p).getD k 0<p.ae.length
 | 0,k,hk,hd=>by omega
 | d+1,k,hk,hd=>by
  have hu:=Am h;by_cases hb:∃(i:Nat) (hi:i<p.ae.length),p.ae[i].body=(k:Int)
  ·obtain ⟨i,hi,e⟩:=hb
   rw [hu.body i hi k hk e];omega
  ·obtain ⟨i,hi,hm⟩:=DL h k hk fun i hi e=>hb ⟨i,hi,e⟩
   obtain ⟨e,hlt⟩:=hu.kid i hi k hm;rw [e];exact wX h d i hi (by omega)
def oe (p:Pg) (f:Int):List (Nd×Int)->List Str->List Str
 | [],l=>l
 | (x,o)::r,l=>oe p f r (if dA p x=true/\o=f/\x.name∉l then l++[x.name] else l)
theorem FG (ls:List (List Str)) (g f:Nat) (s:Str) (hf:f<ls.length):(addLocal ls g s).getD f []=if g=f/\s∉ls.getD f [] then ls.getD f []++[s] else ls.getD f []:=by
 unfold addLocal;by_cases hg:g=f
 ·subst hg
  by_cases hm:s∈ls.getD g []
  ·rw [if_pos hm,if_neg fun h=>h.2 hm]
  ·rw [if_neg hm,if_pos ⟨rfl,hm⟩]
   simp [List.getD,ZU,hf]
 ·rw [if_neg (fun h:g=f/\s∉ls.getD f []=>hg h.1)]
  split
  ·rfl
  ·simp [List.getD,ZU,hg]
theorem vJ (ls:List (List Str)) (g:Nat) (s:Str):(addLocal ls g s).length=ls.length:=by
 unfold addLocal
 split<;>simp
theorem ux {p:Pg} (f:Nat):∀(r:List (Nd×Int)) (ls:List (List Str)),f<ls.length->(∀y∈r,0<=y.2)->(dc p r ls).getD f []=oe p f r (ls.getD f [])
 | [],ls,_,_=>rfl
 | (x,o)::r,ls,hf,h=>by
  have h0:=h (x,o) (by simp);simp only at h0;rw [dc,oe];by_cases hl:dA p x=true
  ·rw [if_pos hl,ux f r _ (by rw [vJ];exact hf) fun y hy=>h y (by simp [hy]),FG _ _ _ _ hf]
   congr 1
   by_cases ho:o=(f:Int)
   ·subst ho;simp [hl]
   ·rw [if_neg (by omega),if_neg (by simp [ho])]
  ·rw [if_neg hl,if_neg (by simp [hl]),ux f r ls hf fun y hy=>h y (by simp [hy])]
theorem HV {p:Pg} (h:aY p=true) (f:Nat) (hf:f<p.ae.length):(aj p).getD f []=oe p f (p.nodes.zip (aD p)) p.ae[f].args:=by
 rw [aj,ux f _ _ (by simpa using hf)]
 ·simp [List.getD,hf]
 ·rintro ⟨x,o⟩ hy
  obtain ⟨i,hi,he⟩:=Y0.1 hy;rw [aav] at hi;have:=wX h _ i (by omega) (YN _);rw [aaG] at he;injection he with e1 e2
  rw [<- e2];have e:(aD p).getD i 0=(aD p)[i]'(by omega):=by simp [List.getD,show i<(aD p).length by omega]
  rw [e] at this;exact this.1
end Uw.Tryz
namespace Uw.Tryz
open Go Uw
abbrev MS:=List (m6×Dat)
theorem fG:∀(es:MS) (k x:m6) (d:Dat),bf (dK es k d) x=if x=k then some d else bf es x
 | [],k,x,d=>by
  simp only [dK,bf];by_cases h:x=k<;>simp [h]
 | (k0,v)::es,k,x,d=>by
  simp only [dK];by_cases h:k=k0
  ·subst h
   simp only [decide_true,bf];by_cases hx:x=k<;>simp [hx]
  ·simp only [decide_eq_false h,bf]
   by_cases hx:x=k0
   ·subst hx
    simp [Ne.symm h]
   ·simp only [decide_eq_false hx]
    exact fG es k x d
theorem An:∀(es:MS) (k:m6) (d:Dat),(dK es k d).length=es.length+if (bf es k).isSome then 0 else 1
 | [],k,d=>rfl
 | (k0,v)::es,k,d=>by
  simp only [dK,bf];by_cases h:k=k0
  ·subst h;simp
  ·simp only [decide_eq_false h,YR,An es k d];omega
def hP (es:MS) (d:Dec):MS:=if (bf es (.s d.name)).isSome then es else dK es (.s d.name) (I d.kind)
def thE (ds:List Dec):MS:=ds.foldl hP []
theorem OL (ds:List Dec) (d:Dec):thE (ds++[d])=hP (thE ds) d:=by rw [thE,aam];rfl
theorem Ao (es:MS) (d:Dec) (s:Str):bf (hP es d) (.s s)=(bf es (.s s)).or (if d.name=s then some (I d.kind) else none):=by
 unfold hP
 split
 ·rename_i h
  by_cases he:d.name=s
  ·subst he
   cases hm:bf es (.s d.name) with
   | none=>rw [hm] at h;cases h
   | some v=>rfl
  ·rw [if_neg he];simp
 ·rename_i h
  rw [fG];by_cases he:d.name=s
  ·subst he
   simp only [if_true]
   cases hm:bf es (.s d.name) with
   | none=>rfl
   | some v=>rw [hm] at h;simp at h
  ·rw [if_neg he,if_neg (by simp;exact fun e=>he e.symm)];simp
theorem Ap:∀(ds:List Dec) (es:MS) (s:Str),bf (ds.foldl hP es) (.s s)=(bf es (.s s)).or ((ds.find? fun d=>decide (d.name=s)).map fun d=>I d.kind)
 | [],es,s=>by simp
 | d::ds,es,s=>by
  rw [Z5,Ap ds,Ao,List.find?_cons];by_cases h:d.name=s
  ·simp [h]
  ·simp [h]
theorem wY (p:Pg) (s:Str):bf (thE p.decls) (.s s)=(aE p s).map I:=by
 rw [thE,Ap,aE]
 cases p.decls.find? fun d=>decide (d.name=s)<;>rfl
theorem Jr (es:MS) (d:Dec):(hP es d).length=es.length+if (bf es (.s d.name)).isSome then 0 else 1:=by
 unfold hP
 split
 ·simp
 ·rename_i h
  rw [An];simp [h]
theorem Aq:∀(ds:List Dec) (es:MS),(ds.foldl hP es).length<=es.length+ds.length/\((ds.foldl hP es).length=es.length+ds.length<->(ds.map (·.name)).Nodup/\∀d∈ds,bf es (.s d.name)=none)
 | [],es=>by simp
 | d::ds,es=>by
  obtain ⟨h1,h2⟩:=Aq ds (hP es d);rw [Z5];rw [Jr] at h1 h2
  cases hm:bf es (.s d.name) with
  | some v=>
   rw [hm] at h1 h2;simp only [Option.isSome_some,if_true,ZR] at h1 h2;refine ⟨by simp;omega,⟨fun h=>by simp at h;omega,fun h=>?_⟩⟩;have:=h.2 d (by simp);rw [hm] at this;cases this
  | none=>
   rw [hm] at h1 h2;simp only [Option.isSome_none,Y9,if_false] at h1 h2;refine ⟨by simp;omega,?_⟩;have e:(ds.foldl hP (hP es d)).length=es.length+(d::ds).length<->(ds.foldl hP (hP es d)).length=es.length+1+ds.length:=by simp;omega
   rw [e,h2,Zm,aaM];have hg:∀s,bf (hP es d) (.s s)=(bf es (.s s)).or (if d.name=s then some (I d.kind) else none):=Ao es d;constructor
   ·rintro ⟨g1,g2⟩
    refine ⟨⟨fun hmem=>?_,g1⟩,fun x hx=>?_⟩
    ·obtain ⟨x,hx,he⟩:=Zk.1 hmem
     have:=g2 x hx;rw [hg,he,if_pos rfl,hm] at this;cases this
    ·rcases Y3.1 hx with rfl|hx
     ·exact hm
     ·have:=g2 x hx
      rw [hg] at this
      cases hmx:bf es (.s x.name) with
      | none=>rfl
      | some v=>rw [hmx] at this;cases this
   ·rintro ⟨⟨g0,g1⟩,g2⟩
    refine ⟨g1,fun x hx=>?_⟩;rw [hg,g2 x (by simp [hx]),if_neg (fun e=>g0 (Zk.2 ⟨x,hx,e.symm⟩))];rfl
theorem mU (p:Pg) (hp:p.decls.length<100000):bm P0 rz [.agg [.d (.slice 3 (p.decls.map bM) false),.d (.slice 3 (p.ae.map fuL) false),.d (.slice 5 (p.nodes.map ndL) false)]] [] (.hnd 0) [.map none (thE p.decls)]:=by
 have hdl:(p.decls.map bM).length=p.decls.length:=by simp
 obtain ⟨E,hE⟩:∃E:Nat->MS,∀j,E j=thE (p.decls.take j):=⟨_,fun _=>rfl⟩
 have e0:([]:MS)=E 0:=by rw [hE];rfl
 have e1:thE p.decls=E p.decls.length:=by rw [hE,YW]
 have hel:∀(j:Nat) (h:j<p.decls.length),(p.decls.map bM)[(j:Int).toNat]? = some (bM p.decls[j]):=by intro j h;simp [h]
 have hst:∀(j:Nat) (h:j<p.decls.length),((∃v,bf (E j) (.s p.decls[j].name)=some (I v))/\E j=E (j+1))\/(bf (E j) (.s p.decls[j].name)=none/\dK (E j) (.s p.decls[j].name) (I p.decls[j].kind)=E (j+1)):=by
  intro j h;have e:E (j+1)=hP (E j) p.decls[j]:=by rw [hE,hE,YM h,OL]
  rw [e];unfold hP
  cases hm:bf (E j) (.s p.decls[j].name) with
  | some v=>
   have:=wY { p with decls:=p.decls.take j } p.decls[j].name;rw [<- hE] at this;rw [hm] at this
   cases ht:aE { p with decls:=p.decls.take j } p.decls[j].name with
   | none=>rw [ht] at this;cases this
   | some k=>rw [ht] at this;injection this with this;subst this;exact .inl ⟨⟨k,rfl⟩,by simp⟩
  | none=>exact .inr ⟨rfl,by simp⟩
 rw [e1];clear hE e1;refine aJ yw rfl ?_
 repeat refine aw ?_
 refine bn p.decls.length (fun j:Nat=>⟨[(12,.d (I j)),(11,.d (I ((p.decls.map bM).length:Nat))),(10,.d (.slice 3 (p.decls.map bM) false)),(3,.hnd 1)],[(1,.map none (E j))],2,[],0⟩) (fun _=>True) (by rw [<- e0];exact Uw.wM) (fun _=>?_) (fun j hj _=>?_)
 ·repeat refine aw ?_
  refine aA ?_
  repeat refine aw ?_
  exact aI 0 rfl rfl (Weak.eqs [(0,1)] rfl rfl rfl rfl rfl rfl rfl rfl rfl rfl)
 have he:=hel j hj;have hs:=hst j hj;clear hel hst;generalize p.decls[j]=d at *;obtain ⟨dk,ds,dn⟩:=d;have he:(p.decls.map bM)[(j:Int).toNat]? = some [I dk,.str ds,I dn]:=he;simp only at hs
 rcases hs with ⟨⟨v,hv⟩,h2⟩|⟨hv,h2⟩
 ·repeat (first|refine aw ?_|refine m1 ?_)
  exact ay j trivial (by exact Uw.wM)
 ·repeat (first|refine aw ?_|refine m1 ?_)
  exact ay j trivial (by exact Uw.wM)
end Uw.Tryz
namespace Go.Proofs
open Go.RowKit Go.Shelf
attribute [local go_sem] Oper.semAt_some
theorem Tryz.HW (l Bs b off len cap:Nat) (C:Nat->Value) (hreach:len<1000000) (J:Nat->World->Prop)
  (hY:∀k W1,J k W1->k<len->YieldAt Fence.wide 0 Tryz.prog l #[.int .i64 ((len - 1 - k:Nat):Int),.agg #[C ((len - 1 - k) * 5),C ((len - 1 - k) * 5+1),C ((len - 1 - k) * 5+2),C ((len - 1 - k) * 5+3),C ((len - 1 - k) * 5+4)]] W1 fun e W'=>e = .returned (.bool true)/\J (k+1) W')
  (hOK:∀k W1,J k W1->W1.cell? ⟨Bs,0,none⟩=some (.slice (some ⟨b,off,none⟩) len cap)/\∀m,m<len * 5->W1.cell? ⟨b,off+m,none⟩=some (C m))
  (W:World) (h0:J 0 W) :
  CallsIn Fence.wide 0 Tryz.prog 118 #[.func (.yield l) #[] #[],.pointer (some ⟨Bs,0,none⟩)] W fun e W'=>(∃v,e = .returned v)/\J len W':=by
 refine callsIn_of_wp Tryz.func118 rfl trivial ?_ rfl;simp only [Tryz.ntmps118,List.size_toArray,List.length_cons,List.length_nil,Nat.reduceAdd,Nat.reduceSub,Array.replicate_succ,Array.replicate_zero,List.push_toArray,List.append_toArray,List.nil_append,List.cons_append];have hB:=(hOK 0 W h0).1
 gi_wp2
 gi_loopw [3] (fun i wr=>∃k:Nat,k<=len/\i = .int .i64 ((len:Int) - 1 - k)/\J k wr) (fun i _=>(intOf i+1).toNat)
 case atStart=>exact ⟨0,Nat.zero_le _,by simp,h0⟩
 case round=>
  obtain ⟨k,hk,rfl,hJs⟩:=hrel;obtain ⟨hB2,hC⟩:=hOK k wr hJs;by_cases hlt:k<len
  ·obtain ⟨fn,tmps,assign,body,hy,hR⟩:=hY k wr hJs hlt
   have he:((len - 1 - k:Nat):Int)=(len:Int) - 1 - k:=by omega
   rw [he] at hy;have c0:wr.cell? ⟨b,off+(len - 1 - k) * 5,none⟩=some (C ((len - 1 - k) * 5)):=hC _ (by omega);have c1:wr.cell? ⟨b,off+(len - 1 - k) * 5+1,none⟩=some (C ((len - 1 - k) * 5+1)):=by have:=hC ((len - 1 - k) * 5+1) (by omega);rwa [<- Nat.add_assoc] at this
   have c2:wr.cell? ⟨b,off+(len - 1 - k) * 5+2,none⟩=some (C ((len - 1 - k) * 5+2)):=by have:=hC ((len - 1 - k) * 5+2) (by omega);rwa [<- Nat.add_assoc] at this
   have c3:wr.cell? ⟨b,off+(len - 1 - k) * 5+3,none⟩=some (C ((len - 1 - k) * 5+3)):=by have:=hC ((len - 1 - k) * 5+3) (by omega);rwa [<- Nat.add_assoc] at this
   have c4:wr.cell? ⟨b,off+(len - 1 - k) * 5+4,none⟩=some (C ((len - 1 - k) * 5+4)):=by have:=hC ((len - 1 - k) * 5+4) (by omega);rwa [<- Nat.add_assoc] at this
   gi_wp2
   refine ⟨rfl,hR.mono ?_⟩;rintro e W3 ⟨rfl,hJ3⟩
   gi_wp2
   go_roundw
   case rel=>exact ⟨k+1,by omega,by simp;omega,hJ3⟩
   case measure=>simp [intOf];omega
  ·obtain rfl:k=len:=by omega
   gi_wp2
   go_end0
   exact ⟨⟨_,rfl⟩,hJs⟩
theorem Tryz.FH (l Bs:Nat) (x:Option Addr) (J:Nat->World->Prop) (hOK:∀k W1,J k W1->W1.cell? ⟨Bs,0,none⟩=some (.slice x 0 0)) (W:World) (h0:J 0 W) :
  CallsIn Fence.wide 0 Tryz.prog 118 #[.func (.yield l) #[] #[],.pointer (some ⟨Bs,0,none⟩)] W fun e W'=>(∃v,e = .returned v)/\J 0 W':=by
 refine callsIn_of_wp Tryz.func118 rfl trivial ?_ rfl;simp only [Tryz.ntmps118,List.size_toArray,List.length_cons,List.length_nil,Nat.reduceAdd,Nat.reduceSub,Array.replicate_succ,Array.replicate_zero,List.push_toArray,List.append_toArray,List.nil_append,List.cons_append];have hB:=hOK 0 W h0
 gi_wp2
 gi_loopw [3] (fun i wr=>i = .int .i64 (-1)/\J 0 wr) (fun i _=>0)
 case atStart=>exact ⟨rfl,h0⟩
 case round=>
  obtain ⟨rfl,hJs⟩:=hrel
  gi_wp2
  go_end0
  exact ⟨⟨_,rfl⟩,hJs⟩
end Go.Proofs
namespace Uw.Tryz
open Go Uw Go.RowKit
theorem HY {w:World} {J:Nat->Nat->Prop} {b k:Nat}:∀{xs:List (List Dat)} {o:Nat},cv w J b k o xs->∀(i:Nat) (h:i<xs.length),dL w J b (o+i * k) xs[i]
 | x::xs,o,h,0,hi=>by simpa using h.2.1
 | x::xs,o,h,i+1,hi=>by
  have:=HY h.2.2 i (by simpa using hi);rw [show o+(i+1) * k=o+k+i * k by rw [Zh];omega];exact this
structure lW (ns:List Nd) (b off:Nat) (C:Nat->Value) (c:Cx):Prop where
 rel:∀(i:Nat) (h:i<ns.length),dL c.w (Imm c) b (off+i * 5) (ndL ns[i])
 cell:∀m,m<ns.length * 5->c.w.cell? ⟨b,off+m,none⟩=some (C m)
 imm:∀m,m<ns.length * 5->Imm c b (off+m)
theorem lW.of [Glob] {ns:List Nd} {b off:Nat} {c:Cx} (h:∀(i:Nat) (h:i<ns.length),dL c.w (Imm c) b (off+i * 5) (ndL ns[i])):lW ns b off (fun m=>(c.w.cell? ⟨b,off+m,none⟩).getD undef) c:=by
 have key:∀m,m<ns.length * 5->(∃v,c.w.cell? ⟨b,off+m,none⟩=some v)/\Imm c b (off+m):=by
  intro m hm;have hi:m / 5<ns.length:=by omega
  obtain ⟨⟨v0,a0,i0,_⟩,⟨v1,a1,i1,_⟩,⟨v2,a2,i2,_⟩,⟨v3,a3,i3,_⟩,⟨v4,a4,i4,_⟩,_⟩:=h (m / 5) hi;have hm5:m % 5=0\/m % 5=1\/m % 5=2\/m % 5=3\/m % 5=4:=by omega
  rcases hm5 with e|e|e|e|e
  ·rw [show off+m=off+m / 5 * 5 by omega];exact ⟨⟨v0,a0⟩,i0⟩
  ·rw [show off+m=off+m / 5 * 5+1 by omega];exact ⟨⟨v1,a1⟩,i1⟩
  ·rw [show off+m=off+m / 5 * 5+1+1 by omega];exact ⟨⟨v2,a2⟩,i2⟩
  ·rw [show off+m=off+m / 5 * 5+1+1+1 by omega];exact ⟨⟨v3,a3⟩,i3⟩
  ·rw [show off+m=off+m / 5 * 5+1+1+1+1 by omega];exact ⟨⟨v4,a4⟩,i4⟩
 refine ⟨h,fun m hm=>?_,fun m hm=>(key m hm).2⟩;obtain ⟨v,hv⟩:=(key m hm).1;rw [hv];rfl
theorem lW.agg [Glob] {ns:List Nd} {b off:Nat} {C:Nat->Value} {c:Cx} (h:lW ns b off C c) (i:Nat) (hi:i<ns.length):aK c.w (Imm c) (.agg (ndL ns[i])) (.agg #[C (i * 5),C (i * 5+1),C (i * 5+2),C (i * 5+3),C (i * 5+4)]):=by
 obtain ⟨⟨v0,a0,_,_,r0⟩,⟨v1,a1,_,_,r1⟩,⟨v2,a2,_,_,r2⟩,⟨v3,a3,_,_,r3⟩,⟨v4,a4,_,_,r4⟩,_⟩:=h.rel i hi;have e:∀(m:Nat) (v:Value),m<5->c.w.cell? ⟨b,off+i * 5+m,none⟩=some v->v=C (i * 5+m):=by
  intro m v hm hv;have:=h.cell (i * 5+m) (by omega);rw [<- ZG,hv] at this;injection this
 obtain rfl:=e 0 v0 (by omega) a0;obtain rfl:=e 1 v1 (by omega) a1;obtain rfl:=e 2 v2 (by omega) a2;obtain rfl:=e 3 v3 (by omega) a3;obtain rfl:=e 4 v4 (by omega) a4;exact ⟨_,rfl,_,_,rfl,r0,_,_,rfl,r1,_,_,rfl,r2,_,_,rfl,r3,_,_,rfl,r4,rfl⟩
def KN (ns:List Nd) (b off:Nat) (C:Nat->Value):Fr where
 K:=0
 p:=lW ns b off C
 ok:=fun c c' he h=>⟨fun i hi=>dL.keep he.keeps _ _ _ (h.rel i hi),fun m hm=>((he.keeps b _ (h.imm m hm)).2).trans (h.cell m hm),fun m hm=>(he.keeps b _ (h.imm m hm)).1⟩
end Uw.Tryz
namespace Uw.Tryz
open Go Uw Go.RowKit
abbrev pgV (p:Pg):Blk:=.var [.d (.slice 3 (p.decls.map bM) false),.d (.slice 3 (p.ae.map fuL) false),.d (bZ p.nodes)]
abbrev owR:fw:=[(3,.ptr 2 0),(1,.ptr 0 0)]
abbrev owH (p:Pg) (o:List (List Dat)):Heap:=[(2,.var [.ref 1 0 0 p.nodes.length]),(1,.mt 1 0 o),(0,pgV p)]
def owF (p:Pg) (j:Nat):List Int:=nW (p.ae.take j) 0 (List.replicate p.nodes.length 0)
theorem DN:∀(fs:List Fu) (f:Fu) (b:Nat) (o:List Int),nW (fs++[f]) b o=(nW fs b o).set f.body.toNat ((b+fs.length:Nat):Int)
 | [],f,b,o=>by simp [nW]
 | g::fs,f,b,o=>by
  rw [Za,nW,nW,DN fs f]
  congr 2
  simp;omega
theorem KO (p:Pg) (j:Nat):(owF p j).length=p.nodes.length:=by rw [owF,vH];simp
theorem OM (p:Pg) (j:Nat) (h:j<p.ae.length):owF p (j+1)=(owF p j).set p.ae[j].body.toNat (j:Int):=by
 rw [owF,owF,YM h,DN];simp;congr 1;omega
theorem FI {o:List Int} {k:Int} (h:k.toNat<o.length):∃c,(fx o)[0+k.toNat]? = some [I c]/\c=o.getD k.toNat 0:=by
 refine ⟨o.getD k.toNat 0,?_,rfl⟩;rw [YZ,fx,ZB,YQ h];simp [List.getD,h]
theorem HZ {o:List Int} {k:Nat} {c v:Int}:(fx o).set (0+k) (setAt [I c] 0 [I v])=fx (o.set k v):=by
 rw [YZ,fx,fx,aaX];rfl
def owK (p:Pg) (k:Nat):List Int:=eA ((idx 0 p.nodes).reverse.take k) (owF p p.ae.length)
theorem Ri (p:Pg) (k:Nat):(owK p k).length=p.nodes.length:=by rw [owK,rS,KO]
theorem vK:∀(l:List (Nat×Nd)) (y:Nat×Nd) (o:List Int),eA (l++[y]) o=fV (eA l o) y.1 y.2
 | [],y,o=>rfl
 | x::l,y,o=>by rw [Za,eA,eA,vK l]
theorem vL {α:Type}:∀(l:List α) (b:Nat),(idx b l).length=l.length
 | [],_=>rfl
 | x::l,b=>by rw [idx,YR,YR,vL l]
theorem KP {α:Type}:∀(l:List α) (b i:Nat) (h:i<l.length),(idx b l)[i]'(by rw [vL];exact h)=(b+i,l[i])
 | x::l,b,0,h=>rfl
 | x::l,b,i+1,h=>by
  have:=KP l (b+1) i (by simpa using h);simp only [idx,aaz];rw [this,show b+1+i=b+(i+1) by omega]
theorem OO (p:Pg) (k:Nat) (h:k<p.nodes.length):owK p (k+1)=fV (owK p k) (p.nodes.length - 1 - k) p.nodes[p.nodes.length - 1 - k]:=by
 have hl:((idx 0 p.nodes).reverse).length=p.nodes.length:=by rw [List.length_reverse,vL]
 rw [owK,owK,YM (by rw [hl];exact h),vK,List.getElem_reverse];have:=KP p.nodes 0 (p.nodes.length - 1 - k) (by omega);simp only [vL];rw [this];simp
theorem Rj (p:Pg):owK p p.nodes.length=aD p:=by
 rw [owK,aD,YU (by rw [List.length_reverse,vL];exact YN _),owF,YU (YN _)]
theorem XB (p:Pg):WT P0 (fun e s=>e = .normal/\Weak s ⟨[(1,.ptr 0 0)],[(0,pgV p)],1,[],0⟩) (exec nC (lj [pgD p]) Tree.done):=by
 repeat refine aw ?_
 refine bg ⟨rfl,?_⟩;exact Uw.wM
theorem XC (p:Pg) (hn:p.nodes.length<100000):WT P0 (fun e s=>e = .normal/\Weak s ⟨owR,owH p (fx (owF p 0)),3,[],0⟩) (exec nD ⟨[(1,.ptr 0 0)],[(0,pgV p)],1,[],0⟩ Tree.done):=by
 have hnl:(p.nodes.map ndL).length=p.nodes.length:=by simp
 have e0:List.replicate (((p.nodes.map ndL).length:Nat):Int).toNat [I 0]=fx (owF p 0):=by
  rw [owF,aa1,nW,fx,List.map_replicate,hnl];simp
 have hmk:(decide ((0:Int)<=((p.nodes.map ndL).length:Nat))&&decide ((((p.nodes.map ndL).length:Nat):Int)<=((p.nodes.map ndL).length:Nat))&&decide ((((p.nodes.map ndL).length:Nat):Int) * ((8:Nat):Int)<=70368744177664))=true:=by simp;omega
 generalize fx (owF p 0)=O at *
 repeat refine aw ?_
 refine bg ⟨rfl,?_⟩;rw [<- e0];exact Uw.wM
theorem XD (p:Pg) (hp:Lim p) (hb:∀(i:Nat) (h:i<p.ae.length),0<=p.ae[i].body/\p.ae[i].body<p.nodes.length):WT P0 (fun e s=>e = .normal/\Weak s ⟨owR,owH p (fx (owF p p.ae.length)),3,[],0⟩) (exec nE ⟨owR,owH p (fx (owF p 0)),3,[],0⟩ Tree.done):=by
 have hfl:(p.ae.map fuL).length=p.ae.length:=by simp
 have hF:=hp.ae;have hN:=hp.nodes;obtain ⟨O,hO⟩:∃O:Nat->List (List Dat),∀j,O j=fx (owF p j):=⟨_,fun _=>rfl⟩
 have hstep:∀(j:Nat) (h:j<p.ae.length),∃c:Int,(O j)[0+p.ae[j].body.toNat]? = some [I c]/\(O j).set (0+p.ae[j].body.toNat) (setAt [I c] 0 [I j])=O (j+1):=by
  intro j h;have:=hb j h;obtain ⟨c,g1,g2⟩:=FI (o:=owF p j) (k:=p.ae[j].body) (by rw [KO];omega);exact ⟨c,by rw [hO];exact g1,by rw [hO,hO,HZ,OM p j h]⟩
 have hel:∀(j:Nat) (h:j<p.ae.length),(p.ae.map fuL)[(j:Int).toNat]? = some (fuL p.ae[j]):=by intro j h;simp [h]
 rw [<- hO,<- hO]
 repeat refine aw ?_
 refine bn p.ae.length (fun j:Nat=>⟨[(17,.d (I j)),(16,.d (I ((p.ae.map fuL).length:Nat))),(15,.d (.slice 3 (p.ae.map fuL) false)),(3,.ptr 2 0),(1,.ptr 0 0)],owH p (O j),3,[],0⟩) (fun _=>True) (by exact Uw.wM) (fun _=>?_) (fun j hj _=>?_)
 ·repeat refine aw ?_
  refine aA ?_;refine bg ⟨rfl,?_⟩;exact Uw.wM
 have he:=hel j hj;have hs:=hstep j hj;have hbj:=hb j hj;clear hstep hel hO hb;generalize p.ae[j]=f at *;obtain ⟨fn,fa,fb⟩:=f;have he:(p.ae.map fuL)[(j:Int).toNat]? = some [.str fn,ei fa,I fb]:=he;obtain ⟨c,g1,g2⟩:=hs;simp only at *;obtain ⟨b1,b2⟩:=hbj
 repeat refine aw ?_
 exact ay j trivial (by exact Uw.wM)
theorem XE (p:Pg) (o:List (List Dat)):WT P0 (fun e s=>e = .normal/\Weak s ⟨[(30,.func dE [] [.ptr 3 0]),(3,.ptr 2 0),(1,.ptr 0 0)],(3,.var [.d (bZ p.nodes)])::owH p o,4,[],0⟩) (exec nG ⟨owR,owH p o,3,[],0⟩ Tree.done):=by
 repeat refine aw ?_
 refine dG uk rfl ?_
 repeat refine aw ?_
 refine dW rfl rfl ?_
 repeat refine aw ?_
 refine bg ⟨rfl,?_⟩;exact Uw.wM
end Uw.Tryz
namespace Uw.Tryz
open Go Uw Go.RowKit
abbrev owS (p:Pg) (k:Nat):St:=⟨owR,owH p (fx (owK p k)),3,[],0⟩
def owN (p:Pg) (k:Nat):Nd:=p.nodes.getD (p.nodes.length - 1 - k) default
abbrev owP (p:Pg) (k:Nat):fw:=[(32,.d (.agg (ndL (owN p k)))),(31,.d (I ((p.nodes.length - 1 - k:Nat):Int)))]
theorem XF (p:Pg) (hp:Lim p) (k:Nat) (hk:k<p.nodes.length) (hx:∀j∈(owN p k).of,0<=j/\j<((p.nodes.length - 1 - k:Nat):Int)) :
  WT P0 (fun e s=>e = .normal/\WT P0 (fun e s'=>e = .normal/\s'.defers=[]/\Weak ⟨owR,s'.heap,s'.next,[],0⟩ (owS p (k+1))) (exec gy s Tree.done)) (exec fc ⟨owP p k++owR,(owS p k).heap,(owS p k).next,[],(owS p k).next⟩ Tree.done):=by
 have hlim:=hp.of (owN p k) (by rw [owN];simp [List.getD,show p.nodes.length - 1 - k<p.nodes.length by omega]);have hN:=hp.nodes;obtain ⟨i,hi⟩:∃i,p.nodes.length - 1 - k=i:=⟨_,rfl⟩
 have hin:i<p.nodes.length:=by omega
 have hnext:owK p (k+1)=fV (owK p k) i (owN p k):=by
  rw [OO p k hk,owN];simp [List.getD,hi,hin]
 rw [hi] at hx;obtain ⟨B,hB⟩:∃B:Nat->List Int,∀j,B j=((owN p k).of.take j).foldl (fun o k=>o.set k.toNat (o.getD i 0)) (owK p k):=⟨_,fun _=>rfl⟩
 obtain ⟨O,hO⟩:∃O:Nat->List (List Dat),∀j,O j=fx (B j):=⟨_,fun _=>rfl⟩
 have hBl:∀j,(B j).length=p.nodes.length:=fun j=>by rw [hB,sA,Ri]
 have e0:fx (owK p k)=O 0:=by rw [hO,hB];rfl
 have e1:fx (owK p (k+1))=O (owN p k).of.length:=by rw [hO,hB,YW,hnext];rfl
 have hstep:∀(j:Nat) (h:j<(owN p k).of.length),∃u v:Int,(O j)[0+(i:Int).toNat]? = some [I u]/\(O j)[0+(owN p k).of[j].toNat]? = some [I v]/\(O j).set (0+(owN p k).of[j].toNat) (setAt [I v] 0 [I u])=O (j+1):=by
  intro j h;have h1:=hx _ (YT h);obtain ⟨u,u1,u2⟩:=FI (o:=B j) (k:=(i:Int)) (by rw [hBl];omega);obtain ⟨v,v1,v2⟩:=FI (o:=B j) (k:=(owN p k).of[j]) (by rw [hBl];omega);refine ⟨u,v,by rw [hO];exact u1,by rw [hO];exact v1,?_⟩;rw [hO,hO,HZ,hB (j+1),YM h,aam,<- hB,u2];rfl
 have hel:∀(j:Nat) (h:j<(owN p k).of.length),((owN p k).of.map fun i=>[I i])[(j:Int).toNat]? = some [I (owN p k).of[j]]:=by intro j h;simp [h]
 have hol:((owN p k).of.map fun i=>[I i]).length=(owN p k).of.length:=by simp
 have hlt:∀(j:Nat) (h:j<(owN p k).of.length),0<=(owN p k).of[j]/\(owN p k).of[j]<(i:Int):=fun j h=>hx _ (YT h);have goal2:∀T0 T1:List (List Dat),fx (owK p k)=T0->fx (owK p (k+1))=T1->(WT P0 (fun e s=>e = .normal/\WT P0 (fun e s'=>e = .normal/\s'.defers=[]/\Weak ⟨owR,s'.heap,s'.next,[],0⟩ ⟨owR,owH p T1,3,[],0⟩) (exec gy s Tree.done)) (exec fc ⟨[(32,.d (.agg (ndL (owN p k)))),(31,.d (I (i:Int)))]++owR,owH p T0,3,[],3⟩ Tree.done))->
   WT P0 (fun e s=>e = .normal/\WT P0 (fun e s'=>e = .normal/\s'.defers=[]/\Weak ⟨owR,s'.heap,s'.next,[],0⟩ (owS p (k+1))) (exec gy s Tree.done)) (exec fc ⟨owP p k++owR,(owS p k).heap,(owS p k).next,[],(owS p k).next⟩ Tree.done):=by
  intro T0 T1 h0 h1 h;rw [<- h0,<- h1,<- hi] at h;exact h
 refine goal2 _ _ e0 e1 ?_;clear goal2 hB hO hBl hnext hx e0 e1;generalize owN p k=x at *;obtain ⟨xk,xn,xs,xt,xo⟩:=x;simp only at *;show WT P0 _ (exec fc ⟨[(32,.d (.agg [I xk,I xn,.str xs,.str xt,cb xo])),(31,.d (I (i:Int)))]++owR,owH p (O 0),3,[],3⟩ Tree.done)
 repeat refine aw ?_
 refine bg ⟨rfl,?_⟩
 repeat refine aw ?_
 refine bn xo.length (fun j:Nat=>⟨[(36,.d (I j)),(35,.d (I ((xo.map fun i=>[I i]).length:Nat))),(34,.d (cb xo)),(6,.d (I i)),(3,.ptr 2 0),(1,.ptr 0 0)],owH p (O j),3,[],3⟩) (fun _=>True) (by exact Uw.wM) (fun _=>?_) (fun j hj _=>?_)
 ·repeat refine aw ?_
  refine aA ?_;refine bg ⟨rfl,rfl,?_⟩;exact Uw.wM
 have he:=hel j hj;have hs:=hstep j hj;have hbj:=hlt j hj;clear hstep hel hlt;generalize xo[j]=y at *;obtain ⟨u,v,g1,g2,g3⟩:=hs;obtain ⟨b1,b2⟩:=hbj
 repeat refine aw ?_
 exact ay j trivial (by exact Uw.wM)
theorem OP {c:Cx} {R:fw} {t:Array Value} {d:Nat} {v:V} {x:Value} (hr:lO c R t) (hd:d<t.size) (hv:aC c v x):lO c ((d,v)::R) (t.setIfInBounds d x):=by
 intro i u hu;rw [ai] at hu;by_cases hi:d=i
 ·subst hi
  rw [if_pos rfl] at hu;injection hu with hu;subst hu
  rw [ZM,Array.getElem?_setIfInBounds_self_of_lt hd];exact hv
 ·rw [if_neg hi] at hu
  rw [ZM,Array.getElem?_setIfInBounds_ne hi,<- ZM];exact hr i u hu
theorem H3 (p:Pg) (hf:aY p=true) (hp:Lim p) {c1:Cx} {w00:World} {a:Act} {gs:Fr} {Bs:Nat} {C:Nat->Value} {OK:World->Prop} (hg:a.eval (.tmp 30) = .func (.func dE) #[] #[.pointer (some ⟨Bs,0,none⟩)])
  (hgs:∀c:Cx,gs.p c->∀(i:Nat) (h:i<p.nodes.length),aK c.w (Imm c) (.agg (ndL p.nodes[i])) (.agg #[C (i * 5),C (i * 5+1),C (i * 5+2),C (i * 5+3),C (i * 5+4)]))
  (hOK:∀c:Cx,gs.p c->(∀b,c1.J0.X b->c.w.heap[b]? = c1.w.heap[b]?)->OK c.w)
  (hit:Iter P0 dE #[.pointer (some ⟨Bs,0,none⟩)] (fun k=>#[.int .i64 ((p.nodes.length - 1 - k:Nat):Int),.agg #[C ((p.nodes.length - 1 - k) * 5),C ((p.nodes.length - 1 - k) * 5+1),C ((p.nodes.length - 1 - k) * 5+2),C ((p.nodes.length - 1 - k) * 5+3),C ((p.nodes.length - 1 - k) * 5+4)]]) p.nodes.length OK)
  (r:Rel c1 w00 49 gs (owS p 0) a) {Q:Exit->Act->World->Prop} (hdone:∀(c:Cx),c.B=c1.B->c.J0=(c1.others fun b=>b=c1.w.heap.size\/b=c1.w.heap.size+1).J0->Rel c c.w 49 gs (owS p p.nodes.length) a->Below c1.B c1.w c.w->c.w.heap[c1.w.heap.size]? = some (.deferred (some []))->
   Q .normal { a with defers:={ target:=.collected c1.w.heap.size,args:=#[] }::a.defers } c.w):(Code.rangeFunc (.tmp 30) #[31,32] (cL (cL (cR (cL (cR (cR (cR (gK P0 bz)))))))) (cR (cL (cR (cL (cR (cR (cR (gK P0 bz))))))))).wp P0 Q a c1.w:=by
 have hN:=hp.nodes;have hat:∀(k:Nat) (h:k<p.nodes.length),owN p k=p.nodes[p.nodes.length - 1 - k]'(by omega):=fun k h=>by rw [owN];simp [List.getD,show p.nodes.length - 1 - k<p.nodes.length by omega]
 refine Ol hg (Go.Proofs.enters_of Go.Proofs.Tryz.func118 (by kernel_rfl) rfl) p.nodes.length _ (fun k=>rfl) owR 0 (owS p) (fun k=>⟨rfl,rfl,rfl⟩) r OK hOK hit vq vr (by kernel_rfl) (by kernel_rfl) (owP p) ?_ ?_ hdone
 ·intro k c hk hgp hr
  have hsz:a.tmps.size=49:=r.size;have h1:aC c (.d (I ((p.nodes.length - 1 - k:Nat):Int))) (.int .i64 ((p.nodes.length - 1 - k:Nat):Int)):=by
   show aK _ _ _ _;simp only [aK]
  have h2:=hgs c hgp (p.nodes.length - 1 - k) (by omega);rw [<- hat k hk] at h2;have he:∀(x1 x2:Value),(#[31,32].zip #[x1,x2]).foldl (fun t ((p,v):Nat×Value)=>t.setIfInBounds p v) a.tmps=(a.tmps.setIfInBounds 31 x1).setIfInBounds 32 x2:=fun _ _=>by simp only [List.zip_toArray,List.foldl_toArray];rfl
  show lO c (owP p k++owR) ((#[31,32].zip #[_,_]).foldl (fun t ((p,v):Nat×Value)=>t.setIfInBounds p v) a.tmps);rw [he];exact OP (OP hr (show 31<a.tmps.size by omega) h1) (show 32<(a.tmps.setIfInBounds 31 _).size by simp;omega) (v:=.d (.agg (ndL (owN p k)))) h2
 ·intro k hk
  refine XF p hp k hk ?_;rw [hat k hk];exact (jm hf _ (by omega)).1
theorem mV (p:Pg) (hf:aY p=true) (hp:Lim p):Ret P0 bz [pgD p] (cb (aD p)):=by
 have hN:=hp.nodes;refine LI yx (Y6 rfl) ?_;rintro fn w J c a hres hB hJ rfl hd r;refine yJ vm r _ (XB p) ?_;intro c2 a2 b2 j2 r2;refine yJ vn r2 _ (XC p hN) ?_;intro c3 a3 b3 j3 r3;refine yJ vo r3 _ (XD p hp fun i h=>⟨(nK hf i h).1,(nK hf i h).2.1⟩) ?_;intro c4 a4 b4 j4 r4;refine wp_seq (yJ vp r4 _ (XE p _) ?_);intro c5 a5 b5 j5 r5;have hB5:c5.B=c.w.heap.size:=b5.trans (b4.trans (b3.trans (b2.trans hB)));have hJ5:c5.J0=⟨J,fun _=>False⟩:=j5.trans (j4.trans (j3.trans (j2.trans hJ)));have hd5:a5.defers=[]:=r5.defers
 -- the iterator's value,and its box
 obtain ⟨us,vs,hfv,hus,hvs⟩:=r5.regs 30 (.func dE [] [.ptr 3 0]) rfl;obtain ⟨v,vs',rfl,⟨_,hv⟩,hvs'⟩:=hvs;simp only [aB] at hus hvs';subst hus hvs' hv;obtain ⟨ws,e,hbox,hbv⟩:=r5.hrel.blk 3 (.var [.d (bZ p.nodes)]) (by rw [r5.heap];rfl);obtain ⟨sv,ws',hws,hsv,WA⟩:=hbv;simp only [aB] at WA;subst WA;have hws:ws = #[sv]:=by rw [<- Array.toList_inj];exact hws
 subst hws
 -- the box is forgotten,and nobody's from here on
 have hwk:xI (dm []) ⟨[(30,.func dE [] [.ptr 3 0]),(3,.ptr 2 0),(1,.ptr 0 0)],(3,.var [.d (bZ p.nodes)])::owH p (fx (owF p p.ae.length)),4,[],0⟩ (owS p 0):=by
  refine xI.of ?_ ?_ rfl rfl ?_ rfl rfl<;>repeat' first|exact trivial|refine ⟨⟨_,rfl,?_⟩,?_⟩|exact Or.inl ⟨rfl,rfl⟩|exact dX rfl rfl|refine ⟨⟨Or.inl ⟨_,rfl,?_⟩,rfl⟩,?_⟩|refine And.intro ?_ ?_
 obtain ⟨r6,hgb⟩:=r5.forget hwk (id0:=3) rfl rfl;have hBs:(c5.pl 3).gb<c5.w.heap.size:=(ZV.1 hbox).1;have hBB:c5.B<=(c5.pl 3).gb:=by
  have:=r5.hrel.ge 3 (.var [.d (bZ p.nodes)]) (by rw [r5.heap];rfl) trivial;exact aao fun h=>this (.inl h)
 have r7:=r6.others (fun b=>b=(c5.pl 3).gb) (fun b hb=>by subst hb;exact hBs) (fun b hb id blk hl hp=>by subst hb;exact hgb id blk hl hp);generalize hBe:(c5.pl 3).gb=Bs at *;obtain ⟨c7,hc7⟩:∃c7,c7=(c5.weak (dm []) (owS p 0).heap).others (fun b=>b=Bs):=⟨_,rfl⟩
 rw [<- hc7] at r7;have hw7:c7.w=c5.w:=by rw [hc7];rfl
 have hB7:c7.B=c.w.heap.size:=by rw [hc7];exact hB5
 have hJ7:c7.J0=⟨fun b o=>J b o\/b=Bs,fun b=>False\/b=Bs⟩:=by
  rw [hc7];show (⟨fun b o=>c5.J0.J b o\/b=Bs,fun b=>c5.J0.X b\/b=Bs⟩:JX)=_;rw [hJ5]
 have XG:aK c7.w (Imm c7) (bZ p.nodes) sv:=by
  have h1:aK c5.w (Imm c5) (bZ p.nodes) sv:=hsv;have hk:Keeps c5.w c7.w (Imm c5) (Imm c7):=by
   intro b o hi;rw [hc7];have h2:=iZ (c:=c5) (ρ:=dm []) (h':=(owS p 0).heap) (by rw [r5.heap];exact hwk.heap) b o hi;exact (Evo.others (c:=c5.weak (dm []) (owS p 0).heap) (fun b=>b=Bs)).keeps b o h2.1
  exact aK.keep hk _ _ h1
 have S8:c7.w.heap[Bs]? = some (.cells #[sv] e (0,0)):=by rw [hw7];exact hbox
 rw [<- hw7];have hbel:Below c.w.heap.size c.w c7.w:=by
  have:=r5.hrel.below;rw [hB5] at this;rw [hw7];exact this
 have hfin:∀(gs:Fr) (cc:Cx),cc.B=c7.B->cc.J0=(c7.others fun b=>b=c7.w.heap.size\/b=c7.w.heap.size+1).J0->Rel cc cc.w 49 gs (owS p p.nodes.length) a5->Below c7.B c7.w cc.w->cc.w.heap[c7.w.heap.size]? = some (.deferred (some []))->
   Code.wp P0 (cR (cR (cR (cR (gK P0 bz))))) (bodyPostM Fence.wide 0 P0 fn (QZ c.w J (cb (aD p)))) { a5 with defers:={ target:=.collected c7.w.heap.size,args:=#[] }::a5.defers } cc.w:=by
  intro gs cc e1 e2 r8 e3 e4;have hX:∀b,cc.J0.X b->c.w.heap.size<=b:=by
   intro b hb;rw [e2] at hb;have hs7:=hbel.size
   rcases hb with hb|hb|hb
   ·rw [hJ7] at hb
    rcases hb with hb|hb
    ·exact hb.elim
    ·rw [hb,<- hB5];exact hBB
   ·rw [hb];exact hs7
   ·rw [hb];omega
  refine US hres vt r8 hd5 (e1.trans hB7) (by rw [e2];exact .inr (.inl rfl)) hX ?_ e4 (hbel.trans (by rw [hB7] at e3;exact e3)) ?_
  ·intro b o hb
   rw [e2] at hb ⊢
   rcases hb with hb|hb
   ·rw [hJ7] at hb
    rcases hb with hb|hb
    ·exact .inl hb
    ·exact .inr (.inl (by rw [hJ7];exact .inr hb))
   ·exact .inr (.inr hb)
  ·have hl:(List.drop 0 (fx (aD p))).take p.nodes.length=fx (aD p):=by
    rw [Zf,YU (by rw [fx,Y5,dT];exact YN _)]
   rw [<- Rj] at hl ⊢;show WT P0 (BG _ (.slice 1 (fx (owK p p.nodes.length)) false)) (exec nH ⟨owR,owH p (fx (owK p p.nodes.length)),3,[],0⟩ Tree.done);generalize fx (owK p p.nodes.length)=O at *
   repeat refine aw ?_
   refine al rfl rfl rfl rfl ?_;exact congrArg (fun l=>Dat.slice 1 l false) hl
 have hg:a5.eval (.tmp 30) = .func (.func dE) #[] #[.pointer (some ⟨Bs,0,none⟩)]:=hfv;refine wp_block ?_
 rcases XG with ⟨⟨x,hx,_⟩,hnil⟩|⟨b,off,cap,hx,hcap,_,hel⟩
 ·-- no nodes
  have hn0:p.nodes=[]:=by simpa using hnil
  refine H3 p hf hp (gs:=Fr.none) (C:=fun _=>undef) (OK:=fun W=>W.cell? ⟨Bs,0,none⟩=some (.slice x 0 0)) hg (fun c _ i h=>by rw [hn0] at h;simp at h) ?_ ?_ r7 ?_
  ·intro c' _ hX
   have:=hX Bs (by rw [hJ7];exact .inr rfl);rw [World.cell?_of_block this];unfold World.cell?;rw [S8,hx];rfl
  ·intro l J' W hY U0 h0
   rw [hn0];exact Go.Proofs.Tryz.FH l Bs x J' U0 W h0
  ·intro cc e1 e2 r8 e3 e4
   exact hfin _ cc e1 e2 r8 e3 e4
 ·have hlen:(p.nodes.map ndL).length=p.nodes.length:=by simp
  have hat:lW p.nodes b off (fun m=>(c7.w.cell? ⟨b,off+m,none⟩).getD undef) c7:=lW.of fun i h=>by
   have:=HY hel i (by rw [hlen];exact h);simpa using this
  generalize (fun m=>(c7.w.cell? ⟨b,off+m,none⟩).getD undef)=C at hat;have r8:Rel c7 c5.w 49 (KN p.nodes b off C) (owS p 0) a5:=by
   rw [<- hw7];exact ⟨r7.heap,by rw [hw7];exact r7.hrel,r7.size,r7.regs,hat,ZP _,r7.base,r7.defers⟩
  refine H3 p hf hp (gs:=KN p.nodes b off C) (C:=C) (OK:=fun W=>W.cell? ⟨Bs,0,none⟩=some (.slice (some ⟨b,off,none⟩) p.nodes.length cap)/\∀m,m<p.nodes.length * 5->W.cell? ⟨b,off+m,none⟩=some (C m)) hg (fun c h i hi=>lW.agg h i hi) ?_ ?_ r8 ?_
  ·intro c' hc' hX
   refine ⟨?_,fun m hm=>lW.cell hc' m hm⟩;have:=hX Bs (by rw [hJ7];exact .inr rfl);rw [World.cell?_of_block this];unfold World.cell?;rw [S8,hx,hlen];rfl
  ·intro l J' W hY U0 h0
   exact Go.Proofs.Tryz.HW l Bs b off p.nodes.length cap C (by omega) J' hY U0 W h0
  ·intro cc e1 e2 r9 e3 e4
   exact hfin _ cc e1 e2 r9 e3 e4
end Uw.Tryz
namespace Uw
open Go
mutual
theorem Rk:∀v:V,v.ren (dm [])=v
 | .ptr id o=>rfl
 | .mc id v i c=>rfl
 | .ref id v o l=>rfl
 | .agg cs=>by rw [V.ren,pa cs]
 | .func f fs cs=>by rw [V.ren,pa fs,pa cs]
 | .tuple cs=>by rw [V.ren,pa cs]
 | .d x=>rfl
 | .ro cs o=>rfl
 | .hnd id=>rfl
 | .row id len=>rfl
 | .undef=>rfl
theorem pa:∀l:List V,fK (dm []) l=l
 | []=>rfl
 | v::r=>by rw [fK,Rk v,pa r]
end
section
variable [Glob]
theorem Weak.looks {R R' : fw} {H H' : Heap} {n n' b:Nat} (h1:nV (dm []) R H H' R') (h2:∀id x,look H' id=some x->look H id=some x/\x.closed H' = true/\id<n') (h3:b<=n') (h4:∀id,id<b->(look H id).isSome=true->(look H' id).isSome=true):Weak ⟨R,H,n,[],b⟩ ⟨R',H',n',[],b⟩:=by
 refine ⟨dm [],fun i v h=>kc h1 i v h,fun i x h=>.inl ⟨x,(h2 i x h).1,dX ?_ (h2 i x h).2.1⟩,fun i x h=>(h2 i x h).2.2,rfl,h3,fun id hid=>⟨rfl,h4 id hid⟩,fun id id' _ _ he=>he,rfl,rfl⟩
 cases x with
 | var cs=>show Blk.var cs=Blk.var (fK (dm []) cs);rw [pa]
 | _=>rfl
theorem f1 {P:Program} {Q:aG->St->Prop} {t t' : Tree} (hgo' : WT P Q t') (h:WT P Q t'->WT P Q t:=by
  first
  | (show _->WT _ _ (Tree.BD _ _)
     first
     | exact yI _ (by assumption)
     | exact yI _ rfl)
  | (show _->WT _ _ (Tree.blk _ _)
     first
     | exact lk _ (by assumption)
     | exact lk _ rfl)):WT P Q t:=h hgo'
end
end Uw
namespace Uw.Tryz
open Go Uw
abbrev rowT (l:List Str):List (List Dat):=l.map fun s=>[.str s]
def jN (rid mid:Nat->Nat):Nat->List (List Str)->List MS->Heap
 | i,l::ls,m::ms=>(if l=[] then [] else [(rid i,Blk.arr 1 (rowT l))])++(mid i,Blk.map none m)::jN rid mid (i+1) ls ms
 | _,_,_=>[]
structure OS (rid mid:Nat->Nat) (n:Nat):Prop where
 rr:∀i j,i<n->j<n->rid i=rid j->i=j
 mm:∀i j,i<n->j<n->mid i=mid j->i=j
 rm:∀i j,i<n->j<n->rid i≠mid j
theorem kV {h g:Heap} {id:Nat}:look (h++g) id=match look h id with|some b=>some b|none=>look g id:=by
 induction h with
 | nil=>rfl
 | cons p h ih=>
  obtain ⟨j,x⟩:=p;rw [Za,ai,ai];by_cases hj:j=id
  ·rw [if_pos hj,if_pos hj]
  ·rw [if_neg hj,if_neg hj,ih]
theorem vM {rid mid:Nat->Nat}:∀{ls:List (List Str)} {ms:List MS} {i id:Nat} {b:Blk},look (jN rid mid i ls ms) id=some b->
  (∃k m,k<ls.length/\k<ms.length/\ms[k]? = some m/\id=mid (i+k)/\b = .map none m)\/(∃k l,k<ls.length/\k<ms.length/\ls[k]? = some l/\l≠[]/\id=rid (i+k)/\b = .arr 1 (rowT l))
 | [],_,i,id,b,h=>by simp [jN,look] at h
 | l::ls,[],i,id,b,h=>by simp [jN,look] at h
 | l::ls,m::ms,i,id,b,h=>by
  rw [jN] at h;by_cases hl:l=[]
  ·rw [if_pos hl,Z4] at h
   have h:look ((mid i,Blk.map none m)::jN rid mid (i+1) ls ms) id=some b:=h;rw [ai] at h;by_cases hm:mid i=id
   ·rw [if_pos hm] at h;injection h with h
    exact .inl ⟨0,m,by simp,by simp,rfl,hm.symm,h.symm⟩
   ·rw [if_neg hm] at h
    rcases vM h with ⟨k,m',h1,h2,h3,h4,h5⟩|⟨k,l',h1,h2,h3,h4,h5,h6⟩
    ·exact .inl ⟨k+1,m',by simpa using h1,by simpa using h2,by simpa using h3,by rw [h4];congr 1;omega,h5⟩
    ·exact .inr ⟨k+1,l',by simpa using h1,by simpa using h2,by simpa using h3,h4,by rw [h5];congr 1;omega,h6⟩
  ·rw [if_neg hl,Za,Z4,ai] at h
   by_cases hr:rid i=id
   ·rw [if_pos hr] at h;injection h with h
    exact .inr ⟨0,l,by simp,by simp,rfl,hl,hr.symm,h.symm⟩
   ·rw [if_neg hr] at h
    have h:look ((mid i,Blk.map none m)::jN rid mid (i+1) ls ms) id=some b:=h;rw [ai] at h;by_cases hm:mid i=id
    ·rw [if_pos hm] at h;injection h with h
     exact .inl ⟨0,m,by simp,by simp,rfl,hm.symm,h.symm⟩
    ·rw [if_neg hm] at h
     rcases vM h with ⟨k,m',h1,h2,h3,h4,h5⟩|⟨k,l',h1,h2,h3,h4,h5,h6⟩
     ·exact .inl ⟨k+1,m',by simpa using h1,by simpa using h2,by simpa using h3,by rw [h4];congr 1;omega,h5⟩
     ·exact .inr ⟨k+1,l',by simpa using h1,by simpa using h2,by simpa using h3,h4,by rw [h5];congr 1;omega,h6⟩
theorem pW {rid mid:Nat->Nat} {n:Nat} (hI:OS rid mid n):∀{ls:List (List Str)} {ms:List MS} {i k:Nat} {m:MS},i+ls.length<=n->k<ls.length->ms[k]? = some m->look (jN rid mid i ls ms) (mid (i+k))=some (.map none m)
 | [],ms,i,k,m,_,hk,_=>by simp at hk
 | l::ls,[],i,k,m,_,_,h=>by simp at h
 | l::ls,m0::ms,i,k,m,hn,hk,h=>by
  simp at hn hk;have h1:∀(y:Heap),look ((if l=[] then [] else [(rid i,Blk.arr 1 (rowT l))])++y) (mid (i+k))=look y (mid (i+k)):=by
   intro y
   split
   ·rfl
   ·rw [Za,ai,if_neg (hI.rm i (i+k) (by omega) (by omega))];rfl
  rw [jN,h1,ai]
  cases k with
  | zero=>rw [if_pos (show mid i=mid (i+0) from rfl)];simp at h;rw [h]
  | succ k=>
   rw [if_neg (fun e=>by have:=hI.mm _ _ (by omega) (by omega) e;omega),show i+(k+1)=i+1+k by omega];exact pW hI (by omega) (by omega) (by simpa using h)
theorem vN {rid mid:Nat->Nat} {n:Nat} (hI:OS rid mid n):∀{ls:List (List Str)} {ms:List MS} {i k:Nat} {l:List Str},i+ls.length<=n->k<ms.length->ls[k]? = some l->l≠[]->look (jN rid mid i ls ms) (rid (i+k))=some (.arr 1 (rowT l))
 | [],ms,i,k,l,_,_,h,_=>by simp at h
 | l0::ls,[],i,k,l,_,hk,_,_=>by simp at hk
 | l0::ls,m0::ms,i,k,l,hn,hk,h,hl=>by
  simp at hn hk;have hkl:k<(l0::ls).length:=by
   rcases Zg k (l0::ls).length with g|g
   ·exact g
   ·rw [YY g] at h;cases h
  simp at hkl;rw [jN]
  cases k with
  | zero=>
   simp at h;subst h;rw [if_neg hl,Za,ai,if_pos (by simp)]
  | succ k=>
   have h1:∀(y:Heap),look ((if l0=[] then [] else [(rid i,Blk.arr 1 (rowT l0))])++y) (rid (i+(k+1)))=look y (rid (i+(k+1))):=by
    intro y
    split
    ·rfl
    ·rw [Za,ai,if_neg (fun e=>by have:=hI.rr _ _ (by omega) (by omega) e;omega)];rfl
   rw [h1,ai,if_neg (fun e=>hI.rm (i+(k+1)) i (by omega) (by omega) e.symm),show i+(k+1)=i+1+k by omega];exact vN hI (by omega) (by omega) (by simpa using h) hl
def cn (rid:Nat->Nat):Nat->List (List Str)->List V
 | _,[]=>[]
 | i,l::ls=>(if l=[] then V.d (.slice 1 [] true) else .ref (rid i) 0 0 l.length)::cn rid (i+1) ls
def bT (mid:Nat->Nat):Nat->Nat->List V
 | _,0=>[]
 | i,n+1=>.hnd (mid i)::bT mid (i+1) n
theorem eH (rid:Nat->Nat):∀(ls:List (List Str)) (i:Nat),(cn rid i ls).length=ls.length
 | [],_=>rfl
 | l::ls,i=>by rw [cn,YR,eH rid ls,YR]
theorem dq (mid:Nat->Nat):∀(n i:Nat),(bT mid i n).length=n
 | 0,_=>rfl
 | n+1,i=>by rw [bT,YR,dq mid n]
theorem kl (rid:Nat->Nat):∀(ls:List (List Str)) (i k:Nat) (l:List Str),ls[k]? = some l->(cn rid i ls)[k]? = some (if l=[] then V.d (.slice 1 [] true) else .ref (rid (i+k)) 0 0 l.length)
 | [],i,k,l,h=>by simp at h
 | l0::ls,i,0,l,h=>by simp at h;subst h;rfl
 | l0::ls,i,k+1,l,h=>by
  rw [cn,ZT,kl rid ls (i+1) k l (by simpa using h),show i+1+k=i+(k+1) by omega]
theorem km (mid:Nat->Nat):∀(n i k:Nat),k<n->(bT mid i n)[k]? = some (.hnd (mid (i+k)))
 | 0,i,k,h=>by omega
 | n+1,i,0,h=>rfl
 | n+1,i,k+1,h=>by rw [bT,ZT,km mid n (i+1) k (by omega),show i+1+k=i+(k+1) by omega]
theorem uy (rid:Nat->Nat):∀(ls:List (List Str)) (l:List Str) (i:Nat),cn rid i (ls++[l])=cn rid i ls++[if l=[] then V.d (.slice 1 [] true) else .ref (rid (i+ls.length)) 0 0 l.length]
 | [],l,i=>rfl
 | l0::ls,l,i=>by rw [Za,cn,cn,uy rid ls,Za,YR,show i+1+ls.length=i+(ls.length+1) by omega]
theorem uz (mid:Nat->Nat):∀(n i:Nat),bT mid i (n+1)=bT mid i n++[.hnd (mid (i+n))]
 | 0,i=>rfl
 | n+1,i=>by rw [bT,uz mid n,bT,Za,show i+1+n=i+(n+1) by omega]
theorem xX {rid Rl : Nat->Nat}:∀(ls:List (List Str)) (i:Nat),(∀k l,ls[k]? = some l->l≠[]->rid (i+k)=Rl (i+k))->cn rid i ls=cn Rl i ls
 | [],_,_=>rfl
 | l::ls,i,h=>by
  have ih:cn rid (i+1) ls=cn Rl (i+1) ls:=xX ls (i+1) fun k l' hk hl=>by
   have:=h (k+1) l' (by simpa using hk) hl
   rwa [show i+(k+1)=i+1+k by omega] at this
  rw [cn,cn,ih];by_cases hl:l=[]
  ·rw [if_pos hl,if_pos hl]
  ·rw [if_neg hl,if_neg hl,show rid i=Rl i from h 0 l rfl hl]
theorem nM {mid mid' : Nat->Nat}:∀(n i:Nat),(∀k,k<n->mid (i+k)=mid' (i+k))->bT mid i n=bT mid' i n
 | 0,_,_=>rfl
 | n+1,i,h=>by
  have ih:bT mid (i+1) n=bT mid' (i+1) n:=nM n (i+1) fun k hk=>by
   have:=h (k+1) (by omega)
   rwa [show i+(k+1)=i+1+k by omega] at this
  rw [bT,bT,show mid i=mid' i from h 0 (by omega),ih]
end Uw.Tryz
namespace Uw
open Go
section
variable [Glob]
theorem Weak.OT (ρ:Nat->Nat) {R R' : fw} {H H' : Heap} {n n' : Nat} (h1:nV ρ R H H' R') (h2:∀id x,look H' id=some x->(∃y,look H (ρ id)=some y/\m8 ρ H H' y x)/\id<n')
  (h3:∀id id',(look H' id).isSome=true->(look H' id').isSome=true->ρ id=ρ id'->id=id'):Weak ⟨R,H,n,[],0⟩ ⟨R',H',n',[],0⟩:=
 ⟨ρ,fun i v h=>kc h1 i v h,fun i x h=>.inl (h2 i x h).1,fun i x h=>(h2 i x h).2,rfl,ZP _,fun id hid=>absurd hid (Z9 _),h3,rfl,rfl⟩
end
end Uw
namespace Uw.Tryz
open Go Uw
def cq (l:List Str):MS:=l.foldl (fun es s=>dK es (.s s) (.bool true)) []
theorem pX (l:List Str) (s:Str):cq (l++[s])=dK (cq l) (.s s) (.bool true):=by rw [cq,aam];rfl
theorem H4:∀(l:List Str) (es:MS) (s:Str),bf (l.foldl (fun es s=>dK es (.s s) (.bool true)) es) (.s s)=if s∈l then some (.bool true) else bf es (.s s)
 | [],es,s=>by simp
 | a::l,es,s=>by
  rw [Z5,H4 l,fG];by_cases h:s∈l
  ·rw [if_pos h,if_pos (by simp [h])]
  ·rw [if_neg h]
   by_cases ha:s=a
   ·subst ha;simp
   ·simp [ha,h]
theorem sB (l:List Str) (s:Str):bf (cq l) (.s s)=if s∈l then some (.bool true) else none:=H4 l [] s
def rid (i:Nat):Nat:=4+2 * i
def mid (i:Nat):Nat:=5+2 * i
theorem wZ (n:Nat):OS rid mid n:=⟨fun i j _ _ h=>by simp [rid] at h;omega,fun i j _ _ h=>by simp [mid] at h;omega,fun i j _ _ h=>by simp [rid,mid] at h;omega⟩
abbrev cM (ls:List (List Str)) (ms:List MS):Heap:=jN rid mid 0 ls ms
theorem fH {ls:List (List Str)} {ms:List MS} {id:Nat} {b:Blk} (h:look (cM ls ms) id=some b):4<=id/\id<4+2 * ls.length/\(∀H:Heap,b.closed H=true)/\∀ρ:Nat->Nat,b.ren ρ=b:=by
 rcases vM h with ⟨k,m,h1,_,_,rfl,rfl⟩|⟨k,l,h1,_,_,_,rfl,rfl⟩
 ·exact ⟨by simp [mid];omega,by simp [mid];omega,fun _=>rfl,fun _=>rfl⟩
 ·exact ⟨by simp [rid],by simp [rid];omega,fun _=>rfl,fun _=>rfl⟩
abbrev loH (p:Pg) (rv mv:List V) (fam:Heap):Heap:=(2,.var rv)::(3,.var mv)::(1,.map none (thE p.decls))::(0,pgV p)::fam
theorem KQ {p:Pg} {rv mv:List V} {fam:Heap} {id:Nat} (h:4<=id):look (loH p rv mv fam) id=look fam id:=by
 rw [ai,if_neg (by omega),ai,if_neg (by omega),ai,if_neg (by omega),ai,if_neg (by omega)]
theorem sC {p:Pg} {rv mv:List V} {fam:Heap} {id:Nat} {b:Blk} (h:look (loH p rv mv fam) id=some b):(id=2/\b = .var rv)\/(id=3/\b = .var mv)\/(id=1/\b = .map none (thE p.decls))\/(id=0/\b=pgV p)\/look fam id=some b:=by
 rw [ai] at h;by_cases h2:2=id
 ·rw [if_pos h2] at h;injection h with h;exact .inl ⟨h2.symm,h.symm⟩
 rw [if_neg h2,ai] at h;by_cases h3:3=id
 ·rw [if_pos h3] at h;injection h with h;exact .inr (.inl ⟨h3.symm,h.symm⟩)
 rw [if_neg h3,ai] at h;by_cases h1:1=id
 ·rw [if_pos h1] at h;injection h with h;exact .inr (.inr (.inl ⟨h1.symm,h.symm⟩))
 rw [if_neg h1,ai] at h;by_cases h0:0=id
 ·rw [if_pos h0] at h;injection h with h;exact .inr (.inr (.inr (.inl ⟨h0.symm,h.symm⟩)))
 rw [if_neg h0] at h;exact .inr (.inr (.inr (.inr h)))
theorem dU {H:Heap}:∀{l:List V},cF H l=true<->∀v∈l,v.closed H=true
 | []=>by simp [cF]
 | v::l=>by simp [cF,dU]
theorem nN {p:Pg} {ls:List (List Str)} {ms:List MS} {rv mv:List V} {r:Nat} (hms:ms.length=ls.length):cF (loH p rv mv (cM ls ms)) (cn rid 0 ls++List.replicate r (.d .nil))=true:=by
 rw [dU];intro v hv
 rcases Y7.1 hv with hv|hv
 ·obtain ⟨k,hk⟩:=Z8.1 hv
  have hkl:k<ls.length:=by
   rcases Zg k ls.length with h|h
   ·exact h
   ·rw [YY (by rw [eH];exact h)] at hk;cases hk
  rw [kl rid ls 0 k ls[k] (by simp [hkl])] at hk;injection hk with hk
  subst hk
  split
  ·rfl
  ·rename_i hne
   have:=vN (rid:=rid) (mid:=mid) (wZ ls.length) (ls:=ls) (ms:=ms) (i:=0) (k:=k) (l:=ls[k]) (by omega) (by omega) (by simp [hkl]) hne;show (look _ _).isSome=true;rw [KQ (by simp [rid])];show (look (jN rid mid 0 ls ms) _).isSome=true;rw [this];rfl
 ·rw [ZX] at hv
  rw [hv.2];rfl
theorem nO {p:Pg} {ls:List (List Str)} {ms:List MS} {rv mv:List V} {r n:Nat} (hms:ms.length=ls.length) (hn:n=ls.length):cF (loH p rv mv (cM ls ms)) (bT mid 0 n++List.replicate r (.d .aZ))=true:=by
 subst hn;rw [dU];intro v hv
 rcases Y7.1 hv with hv|hv
 ·obtain ⟨k,hk⟩:=Z8.1 hv
  have hkl:k<ls.length:=by
   rcases Zg k ls.length with h|h
   ·exact h
   ·rw [YY (by rw [dq];exact h)] at hk;cases hk
  rw [km mid ls.length 0 k hkl] at hk;injection hk with hk
  subst hk;have:=pW (rid:=rid) (mid:=mid) (wZ ls.length) (ls:=ls) (ms:=ms) (i:=0) (k:=k) (m:=ms[k]) (by omega) (by omega) (by simp [show k<ms.length by omega]);show (look _ _).isSome=true;rw [KQ (by simp [mid];omega)];show (look (jN rid mid 0 ls ms) _).isSome=true;rw [this];rfl
 ·rw [ZX] at hv
  rw [hv.2];rfl
theorem FK {p:Pg} {ls:List (List Str)} {ms:List MS} {R R' : fw} {H:Heap} {r r' n:Nat} (hms:ms.length=ls.length) (hl:ls.length<100000) (h1:nV (dm []) R H (loH p (cn rid 0 ls++List.replicate r (.d .nil)) (bT mid 0 ls.length++List.replicate r' (.d .aZ)) (cM ls ms)) R')
  (e2:look H 2=some (.var (cn rid 0 ls++List.replicate r (.d .nil)))) (e3:look H 3=some (.var (bT mid 0 ls.length++List.replicate r' (.d .aZ)))) (e1:look H 1=some (.map none (thE p.decls))) (e0:look H 0=some (pgV p))
  (hf:∀id x,look (cM ls ms) id=some x->look H id=some x):Weak ⟨R,H,n,[],0⟩ ⟨R',loH p (cn rid 0 ls++List.replicate r (.d .nil)) (bT mid 0 ls.length++List.replicate r' (.d .aZ)) (cM ls ms),1000000,[],0⟩:=by
 refine Weak.looks h1 ?_ (ZP _) (fun id h=>absurd h (Z9 _));intro id x hx
 rcases sC hx with ⟨rfl,rfl⟩|⟨rfl,rfl⟩|⟨rfl,rfl⟩|⟨rfl,rfl⟩|hx
 ·exact ⟨e2,nN hms,by omega⟩
 ·exact ⟨e3,nO hms rfl,by omega⟩
 ·exact ⟨e1,rfl,by omega⟩
 ·exact ⟨e0,rfl,by omega⟩
 ·obtain ⟨g1,g2,g3,_⟩:=fH hx
  exact ⟨hf _ _ hx,g3 _,by omega⟩
end Uw.Tryz
namespace Uw.Tryz
open Go Uw
def bX (l:List Dec) (k:Int):Nat:=l.countP fun d=>decide (d.kind=k)
theorem OU (l:List Dec) (k:Int):bX l k<=l.length:=aaE
theorem Js (l:List Dec) (k:Int) (j:Nat) (h:j<l.length):bX (l.take (j+1)) k=if l[j].kind=k then bX (l.take j) k+1 else bX (l.take j) k:=by
 rw [YM h,bX,aa8];by_cases e:l[j].kind=k
 ·rw [if_pos e];simp [e,bX]
 ·rw [if_neg e];simp [e,bX]
end Uw.Tryz
namespace Uw.Tryz
open Go Uw
structure In4 where
 op:Int
 a:Int
 b:Int
 c:Int
 deriving DecidableEq,Inhabited
def in4 (i:In4):List Dat:=[I i.op,I i.a,I i.b,I i.c]
structure Nms where
 things:Str->Option (Int×Int)
 ae:Str->Int
 helps:Str->Int
 wV:Str->Option Int
def Ar (s:Str):Int:=if s=LN then 1 else if s=LP then 2 else if s=LO then 3 else if s=DG then 4 else if s=LQ then 5 else if s=DI then 6 else if s=DJ then 7 else 0
def BX (N:Nms) (s:Str):Int:=(N.wV s).getD (-1)
def As (N:Nms) (s:Str):Int:=if s=[] then -1 else BX N s
def ja (N:Nms) (x:Nd):List In4:=
 if x.kind=1 then [⟨1,x.n,0,0⟩]
 else if x.kind=2 then [match N.things x.name with|some t=>⟨4,t.2,0,0⟩|none=>⟨2,BX N x.name,0,0⟩]
 else if 3<=x.kind/\x.kind<=7 then [⟨x.kind+3,0,0,0⟩]
 else if x.kind=8 then [⟨11,Ar x.name2,((N.things x.name).getD (0,0)).2,(x.of.length:Nat)⟩]
 else if x.kind=9 then [match N.things x.name with|some t=>⟨5,t.2,0,0⟩|none=>⟨3,BX N x.name,0,0⟩]
 else if x.kind=10 then [⟨13,N.ae x.name2,(x.of.length:Nat),As N x.name⟩]
 else if x.kind=11 then [⟨13,N.helps x.name2,2,As N x.name⟩]
 else if x.kind=12 then [⟨14,0,0,0⟩]
 else if x.kind=15 then [⟨17,0,0,0⟩]
 else if x.kind=16 then [⟨18,0,0,0⟩]
 else if x.kind=17 then [⟨12,0,0,0⟩]
 else []
def layAll (g:Int->Nat->List In4):List Int->Nat->List In4
 | [],_=>[]
 | k::r,at_=>g k at_++layAll g r (at_+(g k at_).length)
def iQ (ns:List Nd) (N:Nms):Nat->Int->Nat->List In4
 | 0,_,_=>[]
 | f+1,k,at_=>
  let x:=ns.getD k.toNat default
  if x.kind=13 then
   let t:=iQ ns N f (x.of.getD 0 0) at_
   let b:=iQ ns N f (x.of.getD 1 0) (at_+t.length+1)
   if x.of.length<3 then t++⟨16,(at_+t.length+1+b.length:Nat),0,0⟩::b
   else
    let o:=iQ ns N f (x.of.getD 2 0) (at_+t.length+1+b.length+1)
    t++⟨16,(at_+t.length+1+b.length+1:Nat),0,0⟩::(b++⟨15,(at_+t.length+1+b.length+1+o.length:Nat),0,0⟩::o)
  else if x.kind=14 then
   let t:=iQ ns N f (x.of.getD 0 0) at_
   let b:=iQ ns N f (x.of.getD 1 0) (at_+t.length+1)
   t++⟨16,(at_+t.length+1+b.length+1:Nat),0,0⟩::(b++[⟨15,(at_:Nat),0,0⟩])
  else layAll (iQ ns N f) x.of at_++ja N x
def OV (p:Pg) (s:Str):Nat:=match p.decls.findIdx? fun d=>decide (d.name=s) with
 | some i=>bX (p.decls.take i) ((aE p s).getD 0)
 | none=>0
def fj:List Nd->List Str->List Str
 | [],l=>l
 | x::r,l=>fj r (if x.kind=11/\x.name2∉l then l++[x.name2] else l)
def cS (p:Pg):List Str:=fj p.nodes []
def mW (l:List Str) (s:Str):Option Int:=(l.findIdx? fun t=>decide (t=s)).map fun (i:Nat)=>(i:Int)
def kn (p:Pg) (f:Nat):Nms:=⟨fun s=>(aE p s).map fun k=>(k,(OV p s:Nat)),fun s=>((cV p s).getD 0:Nat),fun s=>match mW (cS p) s with|some i=>(p.ae.length:Nat)+i|none=>0,fun s=>mW ((aj p).getD f []) s⟩
structure Bd where
 args:Int
 locals:Int
 ins:List In4
 deriving DecidableEq,Inhabited
def bdC (b:Bd):List Dat:=[I b.args,I b.locals,.slice 4 (b.ins.map in4) false]
structure Cd where
 ae:List Bd
 cells:List Int
 maps:Int
 stacks:Int
 chans:Int
 main:Int
 deriving DecidableEq,Inhabited
def cdD (c:Cd):Dat:=.agg [.slice 3 (c.ae.map bdC) false,cb c.cells,I c.maps,I c.stacks,I c.chans,I c.main]
def hQ (p:Pg) (f:Nat) (g:Fu):Bd:=⟨(g.args.length:Nat),(((aj p).getD f []).length:Nat),iQ p.nodes (kn p f) p.nodes.length g.body 0++[⟨1,0,0,0⟩,⟨17,0,0,0⟩]⟩
def xY (f own:Int):Bd:=⟨2,5,[⟨2,0,0,0⟩,⟨2,1,0,0⟩,⟨9,0,0,0⟩,⟨16,28,0,0⟩,⟨2,0,0,0⟩,⟨1,1,0,0⟩,⟨6,0,0,0⟩,⟨2,1,0,0⟩,⟨10,0,0,0⟩,⟨16,14,0,0⟩,⟨2,0,0,0⟩,⟨13,f,1,3⟩,⟨2,3,0,0⟩,⟨17,0,0,0⟩,⟨2,0,0,0⟩,⟨2,1,0,0⟩,⟨19,0,0,0⟩,⟨3,2,0,0⟩,⟨2,0,0,0⟩,⟨2,2,0,0⟩,⟨13,own,2,3⟩,⟨2,2,0,0⟩,⟨2,1,0,0⟩,⟨13,own,2,4⟩,⟨2,3,0,0⟩,⟨2,4,0,0⟩,⟨6,0,0,0⟩,⟨17,0,0,0⟩,⟨1,0,0,0⟩,⟨17,0,0,0⟩]⟩
def dJ (p:Pg):Nat->List Fu->List Bd
 | _,[]=>[]
 | i,g::r=>hQ p i g::dJ p (i+1) r
def hZ (p:Pg):Nat->List Str->List Bd
 | _,[]=>[]
 | i,s::r=>xY ((cV p s).getD 0:Nat) (i:Nat)::hZ p (i+1) r
def Jt (p:Pg):List Int:=(p.decls.filter fun d=>decide (d.kind=0)).map (·.n)
def Au (p:Pg):Cd:=⟨dJ p 0 p.ae++hZ p p.ae.length (cS p),Jt p,(bX p.decls 1:Nat),(bX p.decls 2:Nat),(bX p.decls 3:Nat),((cV p eY).getD 0:Nat)⟩
def BZ:Cd:=⟨[],[],0,0,0,0⟩
def ofP (p:Pg):Cd×Int:=if jT p≠0 then (BZ,jT p) else if (dJ p 0 p.ae).any fun b=>decide (400<b.ins.length) then (BZ,2) else (Au p,0)
end Uw.Tryz
namespace Uw.Tryz
open Go Uw
theorem pY {g g' : Int->Nat->List In4}:∀(l:List Int) (a:Nat),(∀k∈l,∀a,g k a=g' k a)->layAll g l a=layAll g' l a
 | [],_,_=>rfl
 | k::r,a,h=>by
  rw [layAll,layAll,h k (by simp),pY r _ fun k hk=>h k (by simp [hk])]
structure Lays (ns:List Nd):Prop where
 low:∀(i:Nat) (h:i<ns.length),∀k∈ns[i].of,0<=k/\k<(i:Int)
 ifs:∀(i:Nat) (h:i<ns.length),ns[i].kind=13->ns[i].of.length=2\/ns[i].of.length=3
 FM:∀(i:Nat) (h:i<ns.length),ns[i].kind=14->ns[i].of.length=2
theorem xZ {p:Pg} (h:aY p=true):Lays p.nodes:=by
 refine ⟨fun i hi=>(jm h i hi).1,fun i hi hk=>?_,fun i hi hk=>?_⟩
 ·have:=(jm h i hi).2
  have hl:(ct p.nodes p.nodes[i]).length=p.nodes[i].of.length:=by simp [ct]
  rw [dH,hk] at this;generalize ct p.nodes p.nodes[i]=so at *;have:so=[1,3]\/so=[1,3,3]:=by simpa [dY] using this
  rcases this with rfl|rfl
  ·exact .inl hl.symm
  ·exact .inr hl.symm
 ·have:=(jm h i hi).2
  have hl:(ct p.nodes p.nodes[i]).length=p.nodes[i].of.length:=by simp [ct]
  rw [dH,hk] at this;generalize ct p.nodes p.nodes[i]=so at *;have:so=[1,3]:=by simpa [dY] using this
  subst this;exact hl.symm
theorem getD_mem {l:List Int} {i:Nat} (h:i<l.length):l.getD i 0∈l:=by
 rw [List.getD,YQ h];exact YT h
theorem Av {ns:List Nd} (N:Nms) (h:Lays ns) (k:Nat):k<ns.length->∀(f a:Nat),k<f->iQ ns N f (k:Int) a=iQ ns N (k+1) (k:Int) a:=by
 induction k using Nat.strongRecOn with
 | ind k ih=>
  intro hk f a hf;obtain ⟨f,rfl⟩:∃g,f=g+1:=⟨f - 1,by omega⟩
  have hx:ns.getD (k:Int).toNat default=ns[k]:=by simp [List.getD,hk]
  have hc:∀c∈ns[k].of,∀a,iQ ns N f c a=iQ ns N k c a:=fun c hcm a=>by
   obtain ⟨h1,h2⟩:=h.low k hk c hcm;obtain ⟨m,rfl⟩:∃m:Nat,c=(m:Int):=⟨c.toNat,by omega⟩
   rw [ih m (by omega) (by omega) f a (by omega),ih m (by omega) (by omega) k a (by omega)]
  have h13:=h.ifs k hk;have h14:=h.FM k hk;rw [iQ,iQ,hx];generalize ns[k]=x at *;by_cases k13:x.kind=13
  ·have h13:=h13 k13
   simp only [if_pos k13];rw [hc _ (getD_mem (by omega))];simp only [hc _ (getD_mem (show 1<x.of.length by omega))];by_cases h3:x.of.length<3
   ·rw [if_pos h3,if_pos h3]
   ·rw [if_neg h3,if_neg h3]
    simp only [hc _ (getD_mem (show 2<x.of.length by omega))]
  ·simp only [if_neg k13]
   by_cases k14:x.kind=14
   ·have h14:=h14 k14
    simp only [if_pos k14];rw [hc _ (getD_mem (by omega))];simp only [hc _ (getD_mem (show 1<x.of.length by omega))]
   ·simp only [if_neg k14]
    rw [pY _ _ hc]
def lay (ns:List Nd) (N:Nms) (k:Int) (a:Nat):List In4:=iQ ns N ns.length k a
theorem OW {ns:List Nd} (N:Nms) (h:Lays ns) (k:Nat) (hk:k<ns.length) (a:Nat):lay ns N k a =
  if ns[k].kind=13 then
   if ns[k].of.length<3 then lay ns N (ns[k].of.getD 0 0) a++⟨16,(a+(lay ns N (ns[k].of.getD 0 0) a).length+1+(lay ns N (ns[k].of.getD 1 0) (a+(lay ns N (ns[k].of.getD 0 0) a).length+1)).length:Nat),0,0⟩::lay ns N (ns[k].of.getD 1 0) (a+(lay ns N (ns[k].of.getD 0 0) a).length+1)
   else lay ns N (ns[k].of.getD 0 0) a++⟨16,(a+(lay ns N (ns[k].of.getD 0 0) a).length+1+(lay ns N (ns[k].of.getD 1 0) (a+(lay ns N (ns[k].of.getD 0 0) a).length+1)).length+1:Nat),0,0⟩::(lay ns N (ns[k].of.getD 1 0) (a+(lay ns N (ns[k].of.getD 0 0) a).length+1)++⟨15,(a+(lay ns N (ns[k].of.getD 0 0) a).length+1+(lay ns N (ns[k].of.getD 1 0) (a+(lay ns N (ns[k].of.getD 0 0) a).length+1)).length+1+(lay ns N (ns[k].of.getD 2 0) (a+(lay ns N (ns[k].of.getD 0 0) a).length+1+(lay ns N (ns[k].of.getD 1 0) (a+(lay ns N (ns[k].of.getD 0 0) a).length+1)).length+1)).length:Nat),0,0⟩::lay ns N (ns[k].of.getD 2 0) (a+(lay ns N (ns[k].of.getD 0 0) a).length+1+(lay ns N (ns[k].of.getD 1 0) (a+(lay ns N (ns[k].of.getD 0 0) a).length+1)).length+1))
  else if ns[k].kind=14 then lay ns N (ns[k].of.getD 0 0) a++⟨16,(a+(lay ns N (ns[k].of.getD 0 0) a).length+1+(lay ns N (ns[k].of.getD 1 0) (a+(lay ns N (ns[k].of.getD 0 0) a).length+1)).length+1:Nat),0,0⟩::(lay ns N (ns[k].of.getD 1 0) (a+(lay ns N (ns[k].of.getD 0 0) a).length+1)++[⟨15,(a:Nat),0,0⟩])
  else layAll (lay ns N) ns[k].of a++ja N ns[k]:=by
 have hx:ns.getD (k:Int).toNat default=ns[k]:=by simp [List.getD,hk]
 have hc:∀c∈ns[k].of,∀a,iQ ns N k c a=lay ns N c a:=fun c hcm a=>by
  obtain ⟨h1,h2⟩:=h.low k hk c hcm;obtain ⟨m,rfl⟩:∃m:Nat,c=(m:Int):=⟨c.toNat,by omega⟩
  rw [lay,Av N h m (by omega) ns.length a (by omega),Av N h m (by omega) k a (by omega)]
 have h13:=h.ifs k hk;have h14:=h.FM k hk;rw [lay,Av N h k hk _ _ hk,iQ,hx];generalize ns[k]=x at *;by_cases k13:x.kind=13
 ·have h13:=h13 k13
  simp only [if_pos k13];rw [hc _ (getD_mem (by omega))];simp only [hc _ (getD_mem (show 1<x.of.length by omega))];by_cases h3:x.of.length<3
  ·rw [if_pos h3,if_pos h3]
  ·rw [if_neg h3,if_neg h3]
   simp only [hc _ (getD_mem (show 2<x.of.length by omega))]
 ·simp only [if_neg k13]
  by_cases k14:x.kind=14
  ·have h14:=h14 k14
   simp only [if_pos k14];rw [hc _ (getD_mem (by omega))];simp only [hc _ (getD_mem (show 1<x.of.length by omega))]
  ·simp only [if_neg k14]
   rw [pY _ _ hc]
end Uw.Tryz
namespace Uw.Tryz
open Go Uw
def om (i:In4):Int×Int:=
 if i.op=1\/i.op=2\/i.op=4 then (0,1)
 else if i.op=3\/i.op=5\/i.op=12\/i.op=16\/i.op=17\/i.op=18 then (1,0)
 else if (6<=i.op/\i.op<=10)\/i.op=19 then (2,1)
 else if i.op=11 then (i.c,1)
 else if i.op=13 then (i.b,0)
 else (0,0)
def onI (i:In4) (k:Int):List Int:=if i.op=15 then [i.a] else if i.op=16 then [k+1,i.a] else if i.op=17 then [] else [k+1]
structure Yh (ins:List In4) (H:Nat->Int):Prop where
 ops:∀i∈ins,1<=i.op/\i.op<=19
 zero:H 0=0
 pos:∀k,0<=H k
 step:∀(k:Nat) (h:k<ins.length),0<=(om ins[k]).1/\(om ins[k]).1<=H k/\∀t∈onI ins[k] (k:Int),0<=t/\t<ins.length/\H t.toNat=H k - (om ins[k]).1+(om ins[k]).2
structure Yi (n:Nat) (H:Nat->Int) (hi td:List Int):Prop where
 len:hi.length=n
 val:∀(k:Nat),k<n->hi.getD k 0 = -1\/hi.getD k 0=H k
 todo:∀t∈td,0<=t/\t<n/\hi.getD t.toNat 0=H t.toNat
end Uw.Tryz
namespace Uw.Tryz
open Go Uw
structure XH (E:Int->Int->Prop) (l:List In4) (a:Nat) (h h2:Int) (H:Nat->Int):Prop where
 pos:∀k,0<=H k
 bgn:H a=h
 fin:H (a+l.length)=h2
 ops:∀(j:Nat) (hj:j<l.length),1<=l[j].op/\l[j].op<=19/\(l[j].op=17->H (a+j)=1)
 step:∀(j:Nat) (hj:j<l.length),0<=(om l[j]).1/\(om l[j]).1<=H (a+j)/\∀t∈onI l[j] ((a+j:Nat):Int),((a:Int)<=t/\t<=((a+l.length:Nat):Int)/\H t.toNat=H (a+j) - (om l[j]).1+(om l[j]).2)\/E t (H (a+j) - (om l[j]).1+(om l[j]).2)
def vO (E:Int->Int->Prop) (l:List In4) (a:Nat) (h h2:Int):Prop:=∃H,XH E l a h h2 H
theorem vO.nil {E:Int->Int->Prop} {a:Nat} {h:Int} (hh:0<=h):vO E [] a h h:=
 ⟨fun _=>h,fun _=>hh,rfl,rfl,fun j hj=>absurd hj (Z9 j),fun j hj=>absurd hj (Z9 j)⟩
theorem vO.mono {E E2:Int->Int->Prop} (hE:∀t v,E t v->E2 t v) {l:List In4} {a:Nat} {h h2:Int}:vO E l a h h2->vO E2 l a h h2
 | ⟨H,s⟩=>⟨H,s.pos,s.bgn,s.fin,s.ops,fun j hj=>⟨(s.step j hj).1,(s.step j hj).2.1,fun t ht=>((s.step j hj).2.2 t ht).imp id (hE t _)⟩⟩
theorem vO.app {E:Int->Int->Prop} {l1 l2:List In4} {a:Nat} {h h1 h2:Int}:vO E l1 a h h1->vO E l2 (a+l1.length) h1 h2->vO E (l1++l2) a h h2
 | ⟨H1,s1⟩,⟨H2,s2⟩=>by
  have hl:∀k,k<=a+l1.length->(if k<a+l1.length then H1 k else H2 k)=H1 k:=fun k hk=>by
   by_cases e:k<a+l1.length
   ·rw [if_pos e]
   ·rw [if_neg e,show k=a+l1.length by omega,s1.fin,s2.bgn]
  have hr:∀k,a+l1.length<=k->(if k<a+l1.length then H1 k else H2 k)=H2 k:=fun k hk=>by rw [if_neg (by omega)]
  refine ⟨fun k=>if k<a+l1.length then H1 k else H2 k,fun k=>?_,?_,?_,fun j hj=>?_,fun j hj=>?_⟩
  ·show 0<=(if k<a+l1.length then H1 k else H2 k)
   split
   ·exact s1.pos k
   ·exact s2.pos k
  ·show (if a<a+l1.length then H1 a else H2 a)=h
   rw [hl a (by omega),s1.bgn]
  ·show (if a+(l1++l2).length<a+l1.length then H1 _ else H2 _)=h2
   rw [hr _ (by simp),YP,<- ZG,s2.fin]
  ·by_cases e:j<l1.length
   ·rw [aby e,hl _ (by omega)]
    exact s1.ops j e
   ·have hj2:j - l1.length<l2.length:=by rw [YP] at hj;omega
    have:=s2.ops (j - l1.length) hj2;rw [show a+l1.length+(j - l1.length)=a+j by omega] at this;rw [abu (by omega),hr _ (by omega)];exact this
  ·by_cases e:j<l1.length
   ·have h3:=s1.step j e
    rw [aby e,hl _ (by omega)];refine ⟨h3.1,h3.2.1,fun t ht=>?_⟩
    rcases h3.2.2 t ht with ⟨h4,h5,h6⟩|h4
    ·refine .inl ⟨h4,by rw [YP];omega,?_⟩
     rw [hl _ (by omega)];exact h6
    ·exact .inr h4
   ·have hj2:j - l1.length<l2.length:=by rw [YP] at hj;omega
    have h3:=s2.step (j - l1.length) hj2;rw [show a+l1.length+(j - l1.length)=a+j by omega] at h3;rw [abu (by omega),hr _ (by omega)];refine ⟨h3.1,h3.2.1,fun t ht=>?_⟩
    rcases h3.2.2 t ht with ⟨h4,h5,h6⟩|h4
    ·refine .inl ⟨by omega,by rw [YP];omega,?_⟩
     rw [hr _ (by omega)];exact h6
    ·exact .inr h4
theorem vO.one {E:Int->Int->Prop} (i:In4) (a:Nat) (h h2:Int) (ho:1<=i.op/\i.op<=19) (hr:i.op=17->h=1) (h0:0<=(om i).1) (h1:(om i).1<=h) (hh:0<=h2) (ht:∀t∈onI i (a:Int),(t=((a+1:Nat):Int)/\h2=h - (om i).1+(om i).2)\/E t (h - (om i).1+(om i).2)):vO E [i] a h h2:=by
 refine ⟨fun k=>if k=a then h else h2,fun k=>?_,if_pos rfl,if_neg (by simp),fun j hj=>?_,fun j hj=>?_⟩
 ·show 0<=(if k=a then h else h2)
  split<;>omega
 ·obtain rfl:j=0:=by simpa using hj
  simp only [Z6,ZR,if_true];exact ⟨ho.1,ho.2,hr⟩
 ·obtain rfl:j=0:=by simpa using hj
  simp only [Z6,ZR,if_true];refine ⟨h0,h1,fun t hm=>?_⟩
  rcases ht t hm with ⟨rfl,h3⟩|h3
  ·refine .inl ⟨by omega,by simp,?_⟩
   rw [aaA,if_neg (by omega),h3]
  ·exact .inr h3
theorem vO.plain {E:Int->Int->Prop} (i:In4) (a:Nat) (h:Int) (ho:1<=i.op/\i.op<=19) (hj:i.op≠15/\i.op≠16/\i.op≠17) (h0:0<=(om i).1) (h1:(om i).1<=h) (h2:0<=(om i).2):vO E [i] a h (h - (om i).1+(om i).2):=
 vO.one i a h _ ho (fun e=>absurd e hj.2.2) h0 h1 (by omega) fun t ht=>by
  rw [onI,if_neg hj.1,if_neg hj.2.1,if_neg hj.2.2] at ht;simp at ht;exact .inl ⟨by omega,rfl⟩
end Uw.Tryz
namespace Uw.Tryz
open Go Uw
end Uw.Tryz
namespace Uw.Tryz
open Go Uw
theorem pf {ρ:Nat->Nat}:∀(a b:List V),fK ρ (a++b)=fK ρ a++fK ρ b
 | [],b=>rfl
 | v::a,b=>by rw [Za,fK,pf a,fK,Za]
theorem mX {ρ:Nat->Nat} (x:Dat):∀r,fK ρ (List.replicate r (.d x))=List.replicate r (.d x)
 | 0=>rfl
 | r+1=>by rw [aas,fK,mX x r];rfl
theorem sD {ρ:Nat->Nat} (rid:Nat->Nat):∀(ls:List (List Str)) (i:Nat),fK ρ (cn rid i ls)=cn (fun k=>ρ (rid k)) i ls
 | [],i=>rfl
 | l::ls,i=>by
  rw [cn,fK,sD rid ls,cn]
  congr 1
  split<;>rfl
theorem sE {ρ:Nat->Nat} (mid:Nat->Nat):∀(n i:Nat),fK ρ (bT mid i n)=bT (fun k=>ρ (mid k)) i n
 | 0,i=>rfl
 | n+1,i=>by rw [bT,fK,sE mid n,bT];rfl
theorem FN {α:Type} (xs:List α) (d v:α) (r:Nat):(xs++List.replicate (r+1) d).set xs.length v=xs++[v]++List.replicate r d:=by
 rw [List.set_append_right _ _ (YN _),aaQ,aas,aax,Ze];rfl
theorem FO {ρ:Nat->Nat} {h h' : Heap}:∀{a a' b b' : List V},VWL ρ h h' a a'->VWL ρ h h' b b'->VWL ρ h h' (a++b) (a'++b')
 | [],[],_,_,_,h2=>h2
 | v::a,v'::a',_,_,h1,h2=>⟨h1.1,FO h1.2 h2⟩
 | [],_::_,_,_,h1,_=>h1.elim
 | _::_,[],_,_,h1,_=>h1.elim
def lp (j a b:Nat) (id:Nat):Nat:=if id=rid j then a else if id=mid j then b else id
def Over (fam H:Heap):Prop:=∀id,4<=id->id<1000000->look H id=look fam id
theorem bA {fam:Heap}:Over fam fam:=fun _ _ _=>rfl
theorem bB {fam H:Heap} {i:Nat} {b:Blk} (h:Over fam H) (hi:(Nat.blt i 4||Nat.ble 1000000 i)=true):Over fam ((i,b)::H):=fun id h1 h2=>by
 rw [ai,if_neg]
 ·exact h id h1 h2
 ·rintro rfl
  rw [Zj] at hi
  rcases hi with hi|hi
  ·rw [Nat.blt_eq] at hi;omega
  ·have:=Y6 hi;omega
theorem FP {p:Pg} {ls:List (List Str)} {ms:List MS} {l:List Str} {m:MS} {R R' : fw} {H:Heap} {r r' n a b:Nat} {v0:V} {rv' mv' : List V} (hms:ms.length=ls.length) (hl:ls.length<99999) (ha:1000000<=a) (hb:1000000<=b) (hab:a≠b)
  (h1:nV (lp ls.length a b) R H (loH p (cn rid 0 (ls++[l])++List.replicate r (.d .nil)) (bT mid 0 (ls.length+1)++List.replicate r' (.d .aZ)) (cM (ls++[l]) (ms++[m]))) R')
  (e2:look H 2=some (.var rv')) (hrv:rv' = cn rid 0 ls++[v0]++List.replicate r (.d .nil)) (hv0:v0=(if l=[] then V.d (.slice 1 [] true) else .ref a 0 0 l.length)\/(l=[]/\v0 = .d .nil)) (e3:look H 3=some (.var mv')) (hmv:mv' = bT mid 0 ls.length++[.hnd b]++List.replicate r' (.d .aZ))
  (e1:look H 1=some (.map none (thE p.decls))) (e0:look H 0=some (pgV p)) (ea:l≠[]->look H a=some (.arr 1 (rowT l))) (eb:look H b=some (.map none m))
  (ho:Over (cM ls ms) H) :
  Weak ⟨R,H,n,[],0⟩ ⟨R',loH p (cn rid 0 (ls++[l])++List.replicate r (.d .nil)) (bT mid 0 (ls.length+1)++List.replicate r' (.d .aZ)) (cM (ls++[l]) (ms++[m])),1000000,[],0⟩:=by
 subst hrv hmv;have hf:∀id x,look (cM ls ms) id=some x->look H id=some x:=fun id x h=>by
  have:=fH h;rw [ho id this.1 (by omega)];exact h
 have hr:∀k,k<ls.length->lp ls.length a b (rid k)=rid k:=fun k hk=>by
  unfold lp;rw [if_neg (by simp only [rid];omega),if_neg (by simp only [rid,mid];omega)]
 have hm:∀k,k<ls.length->lp ls.length a b (mid k)=mid k:=fun k hk=>by
  unfold lp;rw [if_neg (by simp only [rid,mid];omega),if_neg (by simp only [mid];omega)]
 have hrj:lp ls.length a b (rid ls.length)=a:=by unfold lp;rw [if_pos rfl]
 have hmj:lp ls.length a b (mid ls.length)=b:=by unfold lp;rw [if_neg (by simp only [rid,mid];omega),if_pos rfl]
 have hlow:∀k,k<4->lp ls.length a b k=k:=fun k hk=>by unfold lp;rw [if_neg (by simp only [rid];omega),if_neg (by simp only [mid];omega)]
 have hlen:(ls++[l]).length=ls.length+1:=by simp
 refine Weak.OT (lp ls.length a b) h1 ?_ ?_
 ·intro id x hx
  rcases sC hx with ⟨rfl,rfl⟩|⟨rfl,rfl⟩|⟨rfl,rfl⟩|⟨rfl,rfl⟩|hx
  ·refine ⟨⟨_,by rw [hlow 2 (by omega)];exact e2,?_⟩,by omega⟩
   have hcl:=nN (p:=p) (ls:=ls++[l]) (ms:=ms++[m]) (rv:=cn rid 0 (ls++[l])++List.replicate r (.d .nil)) (mv:=bT mid 0 (ls.length+1)++List.replicate r' (.d .aZ)) (r:=r) (by simp [hms]);have hc:cn (fun k=>lp ls.length a b (rid k)) 0 ls=cn rid 0 ls:=xX ls 0 fun k l' hk _=>by
    have hkl:k<ls.length:=by
     rcases Zg k ls.length with h|h
     ·exact h
     ·rw [YY h] at hk;cases hk
    simp only [YZ];exact hr k hkl
   have WB:fK (lp ls.length a b) (cn rid 0 (ls++[l])++List.replicate r (.d .nil))=cn rid 0 ls++[if l=[] then V.d (.slice 1 [] true) else .ref a 0 0 l.length]++List.replicate r (.d .nil):=by
    rw [pf,mX,sD,uy,hc];simp only [YZ];rw [hrj]
   rcases hv0 with rfl|⟨rfl,rfl⟩
   ·show VWL _ _ _ _ _
    rw [<- WB];exact su hcl
   ·have h3:=su (ρ:=lp ls.length a b) (h:=H) hcl
    rw [WB] at h3;show VWL _ _ _ (cn rid 0 ls++[V.d .nil]++List.replicate r (.d .nil)) (cn rid 0 (ls++[[]])++List.replicate r (.d .nil));rw [uy] at hcl ⊢;rw [if_pos rfl] at hcl ⊢;rw [dU] at hcl;refine FO (FO ?_ ⟨.inr (.inr (.inr (.inr (.inr ⟨rfl,1,true,rfl⟩)))),trivial⟩) ?_
    ·have:=su (ρ:=lp ls.length a b) (h:=H) (cs:=cn rid 0 ls) (dU.2 fun v hv=>hcl v (by simp [hv]))
     rw [sD,hc] at this;exact this
    ·have:=su (ρ:=lp ls.length a b) (h:=H) (cs:=List.replicate r (V.d .nil)) (dU.2 fun v hv=>hcl v (by simp [ZX] at hv ⊢;exact .inr (.inr hv)))
     rw [mX] at this;exact this
  ·refine ⟨⟨_,by rw [hlow 3 (by omega)];exact e3,dX ?_ ?_⟩,by omega⟩
   ·show _=Blk.var (fK _ _)
    have hc:bT (fun k=>lp ls.length a b (mid k)) 0 ls.length=bT mid 0 ls.length:=nM ls.length 0 fun k hk=>by simp only [YZ];exact hm k hk
    rw [pf,mX,sE,uz,hc];simp only [YZ];rw [hmj]
   ·show cF _ _=true
    exact nO (by simp [hms]) (by simp)
  ·exact ⟨⟨_,by rw [hlow 1 (by omega)];exact e1,dX rfl rfl⟩,by omega⟩
  ·exact ⟨⟨_,by rw [hlow 0 (by omega)];exact e0,dX rfl rfl⟩,by omega⟩
  ·obtain ⟨g1,g2,g3,g4⟩:=fH hx
   refine ⟨⟨x,?_,dX (g4 _).symm (g3 _)⟩,by rw [hlen] at g2;omega⟩
   rcases vM hx with ⟨k,m',k1,k2,k3,rfl,rfl⟩|⟨k,l',k1,k2,k3,k4,rfl,rfl⟩
   ·rw [YZ]
    by_cases hk:k<ls.length
    ·rw [hm k hk]
     refine hf _ _ ?_;have:=pW (wZ ls.length) (ls:=ls) (ms:=ms) (i:=0) (k:=k) (m:=m') (by omega) hk (by rwa [Zb (by omega)] at k3)
     rwa [YZ] at this
    ·rw [hlen] at k1
     obtain rfl:k=ls.length:=by omega
     rw [Zn (by omega),hms,aaQ] at k3;injection k3 with k3
     rw [hmj,<- k3];exact eb
   ·rw [YZ]
    by_cases hk:k<ls.length
    ·rw [hr k hk]
     refine hf _ _ ?_;have:=vN (wZ ls.length) (ls:=ls) (ms:=ms) (i:=0) (k:=k) (l:=l') (by omega) (by omega) (by rwa [Zb hk] at k3) k4
     rwa [YZ] at this
    ·rw [hlen] at k1
     obtain rfl:k=ls.length:=by omega
     rw [Zn (by omega),aaQ] at k3;injection k3 with k3
     rw [hrj];rw [<- k3] at k4 ⊢;exact ea k4
 ·intro id id' h h' he
  have bd:∀i,(look (loH p (cn rid 0 (ls++[l])++List.replicate r (.d .nil)) (bT mid 0 (ls.length+1)++List.replicate r' (.d .aZ)) (cM (ls++[l]) (ms++[m]))) i).isSome=true->i<1000000:=by
   intro i hi;obtain ⟨x,hx⟩:=aaf.1 hi
   rcases sC hx with ⟨rfl,rfl⟩|⟨rfl,rfl⟩|⟨rfl,rfl⟩|⟨rfl,rfl⟩|hx
   ·omega
   ·omega
   ·omega
   ·omega
   ·have:=(fH hx).2.1
    rw [hlen] at this;omega
  have b1:=bd id h;have b2:=bd id' h';unfold lp at he
  split at he
  ·split at he
   ·omega
   ·split at he<;>omega
  ·split at he
   ·split at he
    ·omega
    ·split at he<;>omega
   ·split at he
    ·omega
    ·split at he<;>omega
theorem S9 {p:Pg} {ls:List (List Str)} {ms:List MS} {m m' : MS} {rows:List (List Dat)} {R R' : fw} {H:Heap} {r r' n k:Nat} {rv' mv' : List V} (hms:ms.length=ls.length) (hl:ls.length<99999) (hrv:rv' = cn rid 0 ls++[V.ref 1000001 0 0 k]++List.replicate r (.d .nil)) (hmv:mv' = bT mid 0 ls.length++[.hnd 1000002]++List.replicate r' (.d .aZ))
  (h1:nV (dm []) R H ((1000002,.map none m')::(1000001,.arr 1 rows)::loH p rv' mv' (cM ls ms)) R') (e2:look H 2=some (.var rv')) (e3:look H 3=some (.var mv')) (e1:look H 1=some (.map none (thE p.decls))) (e0:look H 0=some (pgV p)) (ea:look H 1000001=some (.arr 1 rows)) (eb:look H 1000002=some (.map none m)) (hm:m=m')
  (ho:Over (cM ls ms) H):Weak ⟨R,H,n,[],0⟩ ⟨R',(1000002,.map none m')::(1000001,.arr 1 rows)::loH p rv' mv' (cM ls ms),1000003,[],0⟩:=by
 subst hm;have hup:∀(v:V),v.closed (loH p rv' mv' (cM ls ms))=true->∀(i:Nat),(v = .hnd i\/∃o l w,v = .ref i o l w)\/(∃x,v = .d x)->v.closed ((1000002,.map none m)::(1000001,.arr 1 rows)::loH p rv' mv' (cM ls ms))=true:=by
  intro v hv i hi;have hlk:∀i,(look (loH p rv' mv' (cM ls ms)) i).isSome=true->(look ((1000002,.map none m)::(1000001,.arr 1 rows)::loH p rv' mv' (cM ls ms)) i).isSome=true:=by
   intro i h;rw [ai]
   split
   ·rfl
   ·rw [ai]
    split
    ·rfl
    ·exact h
  rcases hi with (rfl|⟨o,l,w,rfl⟩)|⟨x,rfl⟩
  ·exact hlk i hv
  ·exact hlk i hv
  ·rfl
 refine Weak.looks h1 ?_ (ZP _) (fun id h=>absurd h (Z9 _));intro id x hx;rw [ai] at hx;by_cases h2:1000002=id
 ·rw [if_pos h2] at hx;injection hx with hx;subst h2 hx;exact ⟨eb,rfl,by omega⟩
 rw [if_neg h2,ai] at hx;by_cases h3:1000001=id
 ·rw [if_pos h3] at hx;injection hx with hx;subst h3 hx;exact ⟨ea,rfl,by omega⟩
 rw [if_neg h3] at hx
 rcases sC hx with ⟨rfl,rfl⟩|⟨rfl,rfl⟩|⟨rfl,rfl⟩|⟨rfl,rfl⟩|hx
 ·refine ⟨e2,?_,by omega⟩
  show cF _ _=true;have hc:=nN (p:=p) (ls:=ls) (ms:=ms) (rv:=rv') (mv:=mv') (r:=r) hms;rw [dU] at hc ⊢;intro v hv;rw [hrv] at hv
  rcases Y7.1 hv with hv|hv
  ·rcases Y7.1 hv with hv|hv
   ·obtain ⟨q,hq⟩:=Z8.1 hv
    have hql:q<ls.length:=by
     rcases Zg q ls.length with h|h
     ·exact h
     ·rw [YY (by rw [eH];exact h)] at hq;cases hq
    have hg:=kl rid ls 0 q ls[q] (by simp [hql]);rw [hq] at hg;injection hg with hg
    refine hup v (hc v (aa3 _ hv)) (rid (0+q)) ?_;rw [hg]
    split
    ·exact .inr ⟨_,rfl⟩
    ·exact .inl (.inr ⟨_,_,_,rfl⟩)
   ·simp at hv;subst hv;rfl
  ·exact hup v (hc v (abB _ hv)) 0 (.inr ⟨.nil,(ZX.1 hv).2⟩)
 ·refine ⟨e3,?_,by omega⟩
  show cF _ _=true;have hc:=nO (p:=p) (ls:=ls) (ms:=ms) (rv:=rv') (mv:=mv') (r:=r') hms rfl;rw [dU] at hc ⊢;intro v hv;rw [hmv] at hv
  rcases Y7.1 hv with hv|hv
  ·rcases Y7.1 hv with hv|hv
   ·obtain ⟨q,hq⟩:=Z8.1 hv
    have hql:q<ls.length:=by
     rcases Zg q ls.length with h|h
     ·exact h
     ·rw [YY (by rw [dq];exact h)] at hq;cases hq
    have hg:=km mid ls.length 0 q hql;rw [hq] at hg;injection hg with hg
    exact hup v (hc v (aa3 _ hv)) (mid (0+q)) (.inl (.inl hg))
   ·simp at hv;subst hv;rfl
  ·exact hup v (hc v (abB _ hv)) 0 (.inr ⟨.aZ,(ZX.1 hv).2⟩)
 ·exact ⟨e1,rfl,by omega⟩
 ·exact ⟨e0,rfl,by omega⟩
 ·obtain ⟨g1,g2,g3,_⟩:=fH hx
  exact ⟨by rw [ho id g1 (by omega)];exact hx,g3 _,by omega⟩
end Uw.Tryz
namespace Uw.Tryz
open Go Uw
abbrev nF (p:Pg):Nat:=(p.ae.map fuL).length
abbrev loR (p:Pg):fw:=[(6,.row 3 (nF p)),(5,.row 2 (nF p)),(4,.d (cb (aD p))),(3,.hnd 1),(1,.ptr 0 0)]
abbrev cN (p:Pg):List (List Str):=p.ae.map (·.args)
abbrev ia (ls:List (List Str)) (r:Nat):List V:=cn rid 0 ls++List.replicate r (.d .nil)
abbrev jO (n r:Nat):List V:=bT mid 0 n++List.replicate r (.d .aZ)
abbrev Ju (p:Pg) (j:Nat):St:=⟨(31,.d (I j))::(30,.d (I ((p.ae.map fuL).length:Nat)))::(29,.d (.slice 3 (p.ae.map fuL) false))::loR p,loH p (ia ((cN p).take j) (nF p - j)) (jO j (nF p - j)) (cM ((cN p).take j) (((cN p).take j).map cq)),1000000,[],0⟩
theorem U1 (p:Pg) (hf:aY p=true) (hp:Lim p) (hn0:p.ae=[]):aj p=[]/\Ret P0 jJ [pgD p] (.slice 1 [] true):=by
 have hth:=mU p hp.decls;have how:=mV p hf hp;have hfl:(p.ae.map fuL).length=p.ae.length:=by simp
 have XI:(decide (((p.ae.map fuL).length:Int)=((p.ae.map fuL).length:Nat))&&decide ((0:Int)<=((p.ae.map fuL).length:Nat))&&decide ((((p.ae.map fuL).length:Nat):Int) * ((24:Nat):Int)<=70368744177664))=true:=by rw [hn0];rfl
 have XJ:(decide (((p.ae.map fuL).length:Int)=((p.ae.map fuL).length:Nat))&&decide ((0:Int)<=((p.ae.map fuL).length:Nat))&&decide ((((p.ae.map fuL).length:Nat):Int) * ((8:Nat):Int)<=70368744177664))=true:=by rw [hn0];rfl
 have hf0:(p.ae.map fuL).length=0:=by rw [hn0];rfl
 have hns:p.nodes=[]:=by
  refine Classical.byContradiction fun hne=>?_;have hpos:0<p.nodes.length:=aat.2 hne;have:=wX hf _ 0 hpos (YN _);rw [hn0] at this;simp at this;omega
 have hn1:(p.nodes.map ndL).length=0:=by rw [hns];rfl
 refine ⟨by rw [aj,hns,hn0];rfl,?_⟩;refine aF qt rfl ?_
 repeat refine aw ?_
 refine ag 1 [] hth ?_
 repeat (first|refine aw ?_|refine f1 ?_)
 refine fB 1 ?_
 repeat (first|refine aw ?_|refine f1 ?_)
 refine oM ?_
 repeat (first|refine aw ?_|refine f1 ?_)
 refine fB 1 ?_
 repeat (first|refine aw ?_|refine f1 ?_)
 refine oM ?_
 repeat (first|refine aw ?_|refine f1 ?_)
 exact al rfl rfl rfl rfl rfl
theorem KR (a:Nat) (x y:Blk) (rest:Heap) (i:Nat):look ((a,x)::rest) i=look ((a,x)::(a,y)::rest) i:=by
 rw [ai,ai,ai]
 split<;>rfl
theorem cH {st S S' : St} [Glob] (h:S=S') (hw:Weak st S'):Weak st S:=by rw [h];exact hw
theorem Aw {j a b k:Nat} (hk:k<4):lp j a b k=k:=by unfold lp;rw [if_neg (by simp only [rid];omega),if_neg (by simp only [mid];omega)]
theorem KT {j a b k n:Nat} {h h' : Heap} (hk:k<4) (hc:(look h' k).isSome=true):VW (lp j a b) h h' (.row k n) (.row k n):=.inl ⟨by rw [V.ren,Aw hk],hc⟩
theorem Rm {j a b k:Nat} {h h' : Heap} (hk:k<4) (hc:(look h' k).isSome=true):VW (lp j a b) h h' (.hnd k) (.hnd k):=.inl ⟨by rw [V.ren,Aw hk],hc⟩
theorem Rn {j a b k o:Nat} {h h' : Heap} (hk:k<4) (hc:(look h' k).isSome=true):VW (lp j a b) h h' (.ptr k o) (.ptr k o):=.inl ⟨by rw [V.ren,Aw hk],hc⟩
theorem FQ {p:Pg} {j a b:Nat} {R:fw} {H:Heap} {rv mv:List V} {fam:Heap} (h6:look R 6=some (.row 3 (nF p))) (h5:look R 5=some (.row 2 (nF p))) (h4:look R 4=some (.d (cb (aD p)))) (h3:look R 3=some (.hnd 1)) (h1:look R 1=some (.ptr 0 0)) :
  nV (lp j a b) R H (loH p rv mv fam) (loR p):=
 ⟨⟨_,h6,KT (by omega) rfl⟩,⟨_,h5,KT (by omega) rfl⟩,⟨_,h4,.inl ⟨rfl,rfl⟩⟩,⟨_,h3,Rm (by omega) rfl⟩,⟨_,h1,Rn (by omega) rfl⟩,trivial⟩
def Ro (l:List Str):List Dat:=[if l=[] then .slice 1 [] true else .slice 1 (rowT l) false]
def qL:bN->bN
 | .seq x _=>x
 | .block _ x=>x
 | .loop x=>x
 | c=>c
def qR:bN->bN
 | .seq _ y=>y
 | c=>c
def XK:bN:=qL (qL (qR (qL (qR (qR (qR (qR (qR mL.code))))))))
theorem LS (p:Pg) (hp:Lim p) (j:Nat) (hj:j<nF p) (hpre:∀i,i<j->True) {QQ:aG->St->Prop}:WT P0 (gJ (Ju p) (sK (nF p) fun _=>True) (forM (nF p)) j QQ) (exec XK (Ju p j) Tree.done):=by
 have hfl:nF p=p.ae.length:=by simp
 have Rq:(p.ae.map fuL).length=p.ae.length:=by simp
 have hF:=hp.ae;have hal:(cN p).length=p.ae.length:=by simp
 have hel:∀(j:Nat) (h:j<p.ae.length),(p.ae.map fuL)[(j:Int).toNat]? = some (fuL p.ae[j]):=by intro j h;simp [h]
 have hlt:∀j,j<=p.ae.length->((cN p).take j).length=j:=fun j h=>by rw [Y8,hal];omega
 have hj2:j<p.ae.length:=by rw [<- hfl];exact hj
 have he:=hel j hj2;have hal2:(ia ((cN p).take j) (nF p - j)).length=nF p:=by rw [YP,eH,hlt j (by omega),ZL];omega
 have XL:(jO j (nF p - j)).length=nF p:=by rw [YP,dq,ZL];omega
 generalize hfe:p.ae[j]=f at *;obtain ⟨fn,fa,fb⟩:=f;have he:(p.ae.map fuL)[(j:Int).toNat]? = some [.str fn,ei fa,I fb]:=he;have hrl:(fa.map fun s=>[Dat.str s]).length=fa.length:=by simp
 have Yj:fa.length<100000:=by have:=hp.args _ (YT hj2);rw [hfe] at this;exact this
 have hby:decide ((fa.map fun s=>[Dat.str s]).length * 16<=70368744177664)=true:=by simp;omega
 have hsr:∀v,(ia ((cN p).take j) (nF p - j)).set ((j:Int).toNat * 1) v=cn rid 0 ((cN p).take j)++[v]++List.replicate (nF p - (j+1)) (.d .nil):=fun v=>by
  have:=FN (cn rid 0 ((cN p).take j)) (V.d .nil) v (nF p - (j+1));rw [eH,hlt j (by omega),show nF p - (j+1)+1=nF p - j by omega] at this;rw [show (j:Int).toNat * 1=j by omega];exact this
 have hsm:∀v,(jO j (nF p - j)).set ((j:Int).toNat * 1) v=bT mid 0 j++[v]++List.replicate (nF p - (j+1)) (.d .aZ):=fun v=>by
  have:=FN (bT mid 0 j) (V.d .aZ) v (nF p - (j+1));rw [dq,show nF p - (j+1)+1=nF p - j by omega] at this;rw [show (j:Int).toNat * 1=j by omega];exact this
 have U2:∀v,(jO j (nF p - j)).set ((j:Int).toNat * 1) v=bT mid 0 ((cN p).take j).length++[v]++List.replicate (nF p - (j+1)) (.d .aZ):=fun v=>by rw [hsm,hlt j (by omega)]
 have htk:(cN p).take (j+1)=(cN p).take j++[fa]:=by
  rw [YM (by rw [hal];exact hj2)];simp [cN,hfe]
 have hS:Ju p (j+1)=⟨(31,.d (I ((j+1:Nat):Int)))::(30,.d (I ((p.ae.map fuL).length:Nat)))::(29,.d (.slice 3 (p.ae.map fuL) false))::loR p,loH p (cn rid 0 ((cN p).take j++[fa])++List.replicate (nF p - (j+1)) (.d .nil)) (bT mid 0 (((cN p).take j).length+1)++List.replicate (nF p - (j+1)) (.d .aZ)) (cM ((cN p).take j++[fa]) (((cN p).take j).map cq++[cq fa])),1000000,[],0⟩:=by
  rw [Ju,htk,hlt j (by omega),ZO];rfl
 have hms:(((cN p).take j).map cq).length=((cN p).take j).length:=by simp
 have hl5:((cN p).take j).length<99999:=by rw [hlt j (by omega)];omega
 obtain ⟨E,hE⟩:∃E:Nat->MS,∀i,E i=cq (fa.take i):=⟨_,fun _=>rfl⟩
 have hE0:([]:MS)=E 0:=by rw [hE];rfl
 have hEn:E fa.length=cq fa:=by rw [hE,YW]
 have hEs:∀(i:Nat) (h:i<fa.length),dK (E i) (.s fa[i]) (.bool true)=E (i+1):=fun i h=>by rw [hE,hE,YM h,pX]
 have hge:∀(i:Nat) (h:i<fa.length),(fa.map fun s=>[Dat.str s])[(i:Int).toNat]? = some [.str fa[i]]:=fun i h=>by simp [h]
 obtain ⟨rv',hrv⟩:∃rv',rv' = cn rid 0 ((cN p).take j)++[V.ref 1000001 0 0 fa.length]++List.replicate (nF p - (j+1)) (.d .nil):=⟨_,rfl⟩
 obtain ⟨mv',hmv⟩:∃mv',mv' = bT mid 0 ((cN p).take j).length++[V.hnd 1000002]++List.replicate (nF p - (j+1)) (.d .aZ):=⟨_,rfl⟩
 have hmg:mv'[(j:Int).toNat * 1]? = some (.hnd 1000002):=by
  rw [hmv,hlt j (by omega),Ze,Zn (by rw [dq];omega),dq];simp
 have XM:(ia ((cN p).take j) (nF p - j)).set ((j:Int).toNat * 1) (V.ref 1000001 0 0 (fa.map fun s=>[Dat.str s]).length)=rv':=by rw [hsr,hrv,hrl]
 have OX:(jO j (nF p - j)).set ((j:Int).toNat * 1) (V.hnd 1000002)=mv':=by rw [U2,hmv]
 have XO:mv'.length=nF p:=by rw [<- OX,aaw];exact XL
 by_cases hfa:fa=[]
 ·subst hfa
  have hemp:(([]:List Str).map fun s=>[Dat.str s]).isEmpty=true:=rfl
  repeat (first|refine aw ?_|refine f1 ?_)
  refine dG qA rfl ?_
  repeat (first|refine aw ?_|refine f1 ?_)
  refine Kp ?_ ?_
  ·repeat (first|refine aw ?_|refine f1 ?_)
   refine dW rfl rfl ?_
   repeat (first|refine aw ?_|refine f1 ?_)
   refine fB 1 ?_;refine aw ?_;refine oM ?_
   repeat (first|refine aw ?_|refine f1 ?_)
   refine ay j trivial (cH hS ?_);exact FP (a:=1000005) (b:=1000001) (v0:=.d .nil) hms hl5 (by omega) (by omega) (by omega) ⟨⟨_,rfl,cT rfl⟩,⟨_,rfl,.inl ⟨rfl,rfl⟩⟩,⟨_,rfl,.inl ⟨rfl,rfl⟩⟩,FQ rfl rfl rfl rfl rfl⟩ rfl (hsr _) (.inr ⟨rfl,rfl⟩) rfl (U2 _) rfl rfl (fun h=>absurd rfl h) rfl (by (repeat refine bB ?_ rfl);exact bA)
  ·repeat (first|refine aw ?_|refine f1 ?_)
   refine dW rfl rfl ?_
   repeat (first|refine aw ?_|refine f1 ?_)
   refine fB 1 ?_;refine aw ?_;refine oM ?_
   repeat (first|refine aw ?_|refine f1 ?_)
   refine ay j trivial (cH hS ?_);exact FP (a:=1000005) (b:=1000001) (v0:=.d (.slice 1 [] true)) hms hl5 (by omega) (by omega) (by omega) ⟨⟨_,rfl,cT rfl⟩,⟨_,rfl,.inl ⟨rfl,rfl⟩⟩,⟨_,rfl,.inl ⟨rfl,rfl⟩⟩,FQ rfl rfl rfl rfl rfl⟩ rfl (hsr _) (.inl rfl) rfl (U2 _) rfl rfl (fun h=>absurd rfl h) rfl (by (repeat refine bB ?_ rfl);exact bA)
 have hemp:(fa.map fun s=>[Dat.str s]).isEmpty=false:=by cases fa<;>first|rfl|exact absurd rfl hfa
 repeat (first|refine aw ?_|refine f1 ?_)
 refine dG qA rfl ?_
 repeat (first|refine aw ?_|refine f1 ?_)
 refine dW rfl rfl ?_
 repeat (first|refine aw ?_|refine f1 ?_)
 refine bn fa.length (fun i:Nat=>⟨(49,.d (I i))::(48,.d (I ((fa.map fun s=>[Dat.str s]).length:Nat)))::(47,.d (ei fa))::(7,.d (I j))::(31,.d (I j))::(30,.d (I ((p.ae.map fuL).length:Nat)))::(29,.d (.slice 3 (p.ae.map fuL) false))::loR p,(1000002,.map none (E i))::(1000001,.arr 1 (rowT fa))::loH p rv' mv' (cM ((cN p).take j) (((cN p).take j).map cq)),1000003,[],0⟩) (fun _=>True) ?_ (fun _=>?_) (fun i hi _=>?_)
 ·refine S9 hms hl5 hrv hmv ?_ (by rw [<- XM];rfl) (by rw [<- OX];rfl) rfl rfl rfl rfl hE0 (by (repeat refine bB ?_ rfl);exact bA)
  repeat' first|exact trivial|refine ⟨⟨_,rfl,?_⟩,?_⟩|exact cT (by first|with_reducible rfl|omega)|exact Or.inl ⟨rfl,rfl⟩
 ·refine aw ?_
  refine aA ?_;refine aw ?_;refine ay j trivial (cH hS ?_);exact FP (a:=1000001) (b:=1000002) (v0:=.ref 1000001 0 0 fa.length) hms hl5 (by omega) (by omega) (by omega) ⟨⟨_,rfl,cT rfl⟩,⟨_,rfl,.inl ⟨rfl,rfl⟩⟩,⟨_,rfl,.inl ⟨rfl,rfl⟩⟩,FQ rfl rfl rfl rfl rfl⟩ rfl hrv (.inl (by rw [if_neg hfa])) rfl hmv rfl rfl (fun _=>rfl) (by rw [<- hEn];rfl) (by (repeat refine bB ?_ rfl);exact bA)
 have hg:=hge i hi;have hs:=hEs i hi;generalize fa[i]=nm at *
 repeat (first|refine aw ?_|refine f1 ?_)
 refine zn ((1000002,.map none (dK (E i) (.s nm) (.bool true)))::(1000001,.arr 1 (rowT fa))::loH p rv' mv' (cM ((cN p).take j) (((cN p).take j).map cq))) (KR _ _ _ _) ?_
 repeat (first|refine aw ?_|refine f1 ?_)
 refine ay i trivial ?_;refine S9 hms hl5 hrv hmv ?_ rfl rfl rfl rfl rfl rfl hs (by (repeat refine bB ?_ rfl);exact bA)
 repeat' first|exact trivial|refine ⟨⟨_,rfl,?_⟩,?_⟩|exact cT (by first|with_reducible rfl|omega)|exact Or.inl ⟨rfl,rfl⟩
end Uw.Tryz
namespace Uw.Tryz
open Go Uw
theorem H5 {rid mid:Nat->Nat} {n:Nat} (hI:OS rid mid n) (m:MS) (id:Nat):∀(ls:List (List Str)) (ms:List MS) (i k:Nat),i+ls.length<=n->k<ls.length->k<ms.length->look (jN rid mid i ls (ms.set k m)) id=if id=mid (i+k) then some (.map none m) else look (jN rid mid i ls ms) id
 | [],_,i,k,_,h,_=>by simp at h
 | l::ls,[],i,k,_,_,h=>by simp at h
 | l::ls,m0::ms,i,0,hn,_,_=>by
  simp only [YR] at hn;rw [aax,jN,jN,kV,kV];by_cases he:id=mid (i+0)
  ·rw [if_pos he]
   have h1:look (if l=[] then [] else [(rid i,Blk.arr 1 (rowT l))]) id=none:=by
    split
    ·rfl
    ·rw [ai,if_neg (fun e=>hI.rm i i (by omega) (by omega) (e.trans he))];rfl
   rw [h1,ai,if_pos (show mid i=id from he.symm)]
  ·rw [if_neg he,ai,ai,if_neg (show ¬mid i=id from fun e=>he e.symm)]
   simp only [if_neg (show ¬mid i=id from fun e=>he e.symm)]
 | l::ls,m0::ms,i,k+1,hn,hk,hm=>by
  simp only [YR] at hn hk hm;rw [aah,jN,jN,kV,kV,ai,ai,H5 hI m id ls ms (i+1) k (by omega) (by omega) (by omega),show i+1+k=i+(k+1) by omega];by_cases he:id=mid (i+(k+1))
  ·rw [if_pos he,if_pos he]
   have h1:look (if l=[] then [] else [(rid i,Blk.arr 1 (rowT l))]) id=none:=by
    split
    ·rfl
    ·rw [ai,if_neg (fun e=>hI.rm i (i+(k+1)) (by omega) (by omega) (e.trans he))];rfl
   rw [h1,if_neg (fun e=>by have:=hI.mm i (i+(k+1)) (by omega) (by omega) (e.trans he);omega)]
  ·rw [if_neg he,if_neg he]
theorem Ax {rid mid:Nat->Nat} {n:Nat} (hI:OS rid mid n) {l' : List Str} (hl' : l'≠[]) (id:Nat):∀(ls:List (List Str)) (ms:List MS) (i k:Nat),i+ls.length<=n->k<ls.length->k<ms.length->look (jN rid mid i (ls.set k l') ms) id=if id=rid (i+k) then some (.arr 1 (rowT l')) else look (jN rid mid i ls ms) id
 | [],_,i,k,_,h,_=>by simp at h
 | l::ls,[],i,k,_,_,h=>by simp at h
 | l::ls,m0::ms,i,0,hn,_,_=>by
  simp only [YR] at hn;rw [aax,jN,jN,if_neg hl',Za,ai];by_cases he:id=rid (i+0)
  ·rw [if_pos he,if_pos (show rid i=id from he.symm)]
  ·rw [if_neg he,if_neg (show ¬rid i=id from fun e=>he e.symm)]
   split
   ·rfl
   ·rw [Za,ai,if_neg (show ¬rid i=id from fun e=>he e.symm)]
 | l::ls,m0::ms,i,k+1,hn,hk,hm=>by
  simp only [YR] at hn hk hm;rw [aah,jN,jN,kV,kV,ai,ai,Ax hI hl' id ls ms (i+1) k (by omega) (by omega) (by omega),show i+1+k=i+(k+1) by omega];by_cases he:id=rid (i+(k+1))
  ·rw [if_pos he,if_pos he]
   have h1:look (if l=[] then [] else [(rid i,Blk.arr 1 (rowT l))]) id=none:=by
    split
    ·rfl
    ·rw [ai,if_neg (fun e=>by have:=hI.rr i (i+(k+1)) (by omega) (by omega) (e.trans he);omega)];rfl
   rw [h1,if_neg (fun e=>hI.rm (i+(k+1)) i (by omega) (by omega) (e.trans he).symm)]
  ·rw [if_neg he,if_neg he]
theorem DO (rid:Nat->Nat):∀(ls:List (List Str)) (i k:Nat) (l' : List Str),k<ls.length->(cn rid i ls).set k (if l' = [] then V.d (.slice 1 [] true) else .ref (rid (i+k)) 0 0 l'.length)=cn rid i (ls.set k l')
 | [],i,k,l',h=>by simp at h
 | l::ls,i,0,l',h=>rfl
 | l::ls,i,k+1,l',h=>by
  have:=DO rid ls (i+1) k l' (by simpa using h);rw [cn,aah,aah,cn,<- this,show i+1+k=i+(k+1) by omega]
theorem KU {c fam WC : Heap} {a:Nat} {x:Blk} (hc:∀q∈c,q.1≠a) (hf:∀id,look WC id=if id=a then some x else look fam id) (id:Nat):look (c++WC) id=look ((a,x)::(c++fam)) id:=by
 rw [ai,kV,kV,hf id];by_cases he:id=a
 ·subst he
  have:look c id=none:=by
   cases h:look c id with
   | none=>rfl
   | some b=>exact absurd rfl (hc _ (ra h))
  rw [if_pos rfl,if_pos rfl,this]
 ·rw [if_neg he,if_neg (fun e=>he e.symm)]
theorem vP {p:Pg} {ls:List (List Str)} {ms:List MS} {R R' : fw} {H:Heap} {r r' n:Nat} {rv' : List V} (hms:ms.length=ls.length) (hl:ls.length<100000) (h1:nV (dm []) R H (loH p (cn rid 0 ls++List.replicate r (.d .nil)) (bT mid 0 ls.length++List.replicate r' (.d .aZ)) (cM ls ms)) R')
  (e2:look H 2=some (.var rv')) (hrv:rv' = cn rid 0 ls++List.replicate r (.d .nil)) (e3:look H 3=some (.var (bT mid 0 ls.length++List.replicate r' (.d .aZ)))) (e1:look H 1=some (.map none (thE p.decls))) (e0:look H 0=some (pgV p))
  (ho:Over (cM ls ms) H):Weak ⟨R,H,n,[],0⟩ ⟨R',loH p (cn rid 0 ls++List.replicate r (.d .nil)) (bT mid 0 ls.length++List.replicate r' (.d .aZ)) (cM ls ms),1000000,[],0⟩:=by
 subst hrv;exact FK hms hl h1 e2 e3 e1 e0 (fun id x h=>by have:=fH h;rw [ho id this.1 (by omega)];exact h)
def pZ (j a:Nat) (id:Nat):Nat:=if id=rid j then a else id
theorem U3 {p:Pg} {ls:List (List Str)} {ms:List MS} {l:List Str} {R R' : fw} {H:Heap} {n k:Nat} {rv' : List V} (hms:ms.length=ls.length) (hl:ls.length<100000) (hk:k<ls.length) (hne:l≠[])
  (h1:nV (pZ k 1000001) R H (loH p (ia (ls.set k l) 0) (jO (ls.set k l).length 0) (cM (ls.set k l) ms)) R')
  (e2:look H 2=some (.var rv')) (hrv:rv' = (ia ls 0).set k (.ref 1000001 0 0 l.length)) (e3:look H 3=some (.var (jO ls.length 0))) (e1:look H 1=some (.map none (thE p.decls))) (e0:look H 0=some (pgV p)) (ea:look H 1000001=some (.arr 1 (rowT l)))
  (ho:Over (cM ls ms) H):Weak ⟨R,H,n,[],0⟩ ⟨R',loH p (ia (ls.set k l) 0) (jO (ls.set k l).length 0) (cM (ls.set k l) ms),1000000,[],0⟩:=by
 subst hrv;have hlen:(ls.set k l).length=ls.length:=by simp
 rw [hlen] at h1 ⊢;have hlow:∀i,i<4->pZ k 1000001 i=i:=fun i h=>by unfold pZ;rw [if_neg (by simp only [rid];omega)]
 have hm:∀i,pZ k 1000001 (mid i)=mid i:=fun i=>by unfold pZ;rw [if_neg (by simp only [rid,mid];omega)]
 have hr:∀i,i≠k->pZ k 1000001 (rid i)=rid i:=fun i h=>by unfold pZ;rw [if_neg (by simp only [rid];omega)]
 have hrk:pZ k 1000001 (rid k)=1000001:=by unfold pZ;rw [if_pos rfl]
 refine Weak.OT (pZ k 1000001) h1 ?_ ?_
 ·intro id x hx
  rcases sC hx with ⟨rfl,rfl⟩|⟨rfl,rfl⟩|⟨rfl,rfl⟩|⟨rfl,rfl⟩|hx
  ·refine ⟨⟨_,by rw [hlow 2 (by omega)];exact e2,dX ?_ (nN (by simp [hms]))⟩,by omega⟩
   show Blk.var _=Blk.var (fK _ _)
   congr 1
   rw [pf,mX,sD,List.set_append_left _ _ (by rw [eH];exact hk)]
   congr 1
   apply aad;intro i;by_cases hik:i=k
   ·subst hik
    rw [List.getElem?_set_self (by rw [eH];exact hk),kl _ _ 0 i l (by simp [hk]),if_neg hne];simp only [YZ];rw [hrk]
   ·rw [List.getElem?_set_ne (Ne.symm hik)]
    rcases Zg i ls.length with h|h
    ·rw [kl rid ls 0 i ls[i] (by simp [h]),kl _ _ 0 i ls[i] (by rw [List.getElem?_set_ne (Ne.symm hik)];simp [h])]
     simp only [YZ];rw [hr i hik]
    ·rw [YY (by rw [eH];exact h),YY (by rw [eH,hlen];exact h)]
  ·refine ⟨⟨_,by rw [hlow 3 (by omega)];exact e3,dX ?_ (nO (by simp [hms]) hlen.symm)⟩,by omega⟩
   show Blk.var _=Blk.var (fK _ _);rw [pf,mX,sE,nM (mid:=fun i=>pZ k 1000001 (mid i)) (mid':=mid) ls.length 0 fun i _=>hm _]
  ·exact ⟨⟨_,by rw [hlow 1 (by omega)];exact e1,dX rfl rfl⟩,by omega⟩
  ·exact ⟨⟨_,by rw [hlow 0 (by omega)];exact e0,dX rfl rfl⟩,by omega⟩
  ·obtain ⟨g1,g2,g3,g4⟩:=fH hx
   refine ⟨⟨x,?_,dX (g4 _).symm (g3 _)⟩,by rw [hlen] at g2;omega⟩;have hs:=Ax (wZ ls.length) hne id ls ms 0 k (by omega) hk (by omega);rw [show look (jN rid mid 0 (ls.set k l) ms) id=some x from hx,YZ] at hs;by_cases he:id=rid k
   ·rw [if_pos he] at hs
    injection hs with hs
    rw [he,hrk,hs];exact ea
   ·rw [if_neg he] at hs
    unfold pZ;rw [if_neg he,ho id g1 (by rw [hlen] at g2;omega)];exact hs.symm
 ·intro id id' h h' he
  have bd:∀i,(look (loH p (ia (ls.set k l) 0) (jO ls.length 0) (cM (ls.set k l) ms)) i).isSome=true->i<1000000:=by
   intro i hi;obtain ⟨x,hx⟩:=aaf.1 hi
   rcases sC hx with ⟨rfl,rfl⟩|⟨rfl,rfl⟩|⟨rfl,rfl⟩|⟨rfl,rfl⟩|hx
   ·omega
   ·omega
   ·omega
   ·omega
   ·have:=(fH hx).2.1
    rw [hlen] at this;omega
  have b1:=bd id h;have b2:=bd id' h';unfold pZ at he
  split at he<;>split at he<;>omega
theorem Az {j a k:Nat} (hk:k<4):pZ j a k=k:=by unfold pZ;rw [if_neg (by simp only [rid];omega)]
theorem KW {j a k n:Nat} {h h' : Heap} (hk:k<4) (hc:(look h' k).isSome=true):VW (pZ j a) h h' (.row k n) (.row k n):=.inl ⟨by rw [V.ren,Az hk],hc⟩
theorem Rt {j a k:Nat} {h h' : Heap} (hk:k<4) (hc:(look h' k).isSome=true):VW (pZ j a) h h' (.hnd k) (.hnd k):=.inl ⟨by rw [V.ren,Az hk],hc⟩
theorem Ru {j a k o:Nat} {h h' : Heap} (hk:k<4) (hc:(look h' k).isSome=true):VW (pZ j a) h h' (.ptr k o) (.ptr k o):=.inl ⟨by rw [V.ren,Az hk],hc⟩
theorem OY {p:Pg} {j a:Nat} {R:fw} {H:Heap} {rv mv:List V} {fam:Heap} (h6:look R 6=some (.row 3 (nF p))) (h5:look R 5=some (.row 2 (nF p))) (h4:look R 4=some (.d (cb (aD p)))) (h3:look R 3=some (.hnd 1)) (h1:look R 1=some (.ptr 0 0)) :
  nV (pZ j a) R H (loH p rv mv fam) (loR p):=
 ⟨⟨_,h6,KW (by omega) rfl⟩,⟨_,h5,KW (by omega) rfl⟩,⟨_,h4,.inl ⟨rfl,rfl⟩⟩,⟨_,h3,Rt (by omega) rfl⟩,⟨_,h1,Ru (by omega) rfl⟩,trivial⟩
def XP:bN:=qL (qL (qR (qL (qR (qR (qR (qR (qR (qR mL.code)))))))))
def qa (p:Pg) (k:Nat):List (List Str):=dc p ((p.nodes.zip (aD p)).take k) (cN p)
theorem tL (p:Pg):∀(r:List (Nd×Int)) (y:Nd×Int) (ls:List (List Str)),dc p (r++[y]) ls=(if dA p y.1 then addLocal (dc p r ls) y.2.toNat y.1.name else dc p r ls)
 | [],y,ls=>rfl
 | (x,o)::r,y,ls=>by rw [Za,dc,tL p r,dc]
theorem LU (p:Pg) (k:Nat) (h:k<p.nodes.length):qa p (k+1)=(if dA p p.nodes[k] then addLocal (qa p k) ((aD p).getD k 0).toNat p.nodes[k].name else qa p k):=by
 have h2:k<(aD p).length:=by rw [dT];exact h
 have hz:k<(p.nodes.zip (aD p)).length:=by rw [aav];omega
 rw [qa,qa,YM hz,tL,aaG];simp [List.getD,h2]
theorem AA (p:Pg) (k:Nat):(qa p k).length=p.ae.length:=by
 have:∀(r:List (Nd×Int)) (ls:List (List Str)),(dc p r ls).length=ls.length:=by
  intro r
  induction r with
  | nil=>intro ls;rfl
  | cons y r ih=>
   intro ls;obtain ⟨x,o⟩:=y;rw [dc,ih]
   split
   ·rw [vJ]
   ·rfl
 rw [qa,this];simp
theorem rT (p:Pg):qa p p.nodes.length=aj p:=by
 rw [qa,aj,YU (by rw [aav];omega)]
theorem uA (p:Pg) (hp:Lim p) (k f:Nat) (l:List Str) (h:(qa p k)[f]? = some l):l.length<=100000+k:=by
 have key:∀(r:List (Nd×Int)) (ls:List (List Str)) (b:Nat),(∀l∈ls,l.length<=b)->∀l∈dc p r ls,l.length<=b+r.length:=by
  intro r
  induction r with
  | nil=>intro ls b h l hl;exact h l hl
  | cons y r ih=>
   intro ls b h l hl;obtain ⟨x,o⟩:=y;rw [dc] at hl;have:=ih _ (b+1) ?_ l hl
   ·simp;omega
   ·intro l' hl'
    split at hl'
    ·unfold addLocal at hl'
     split at hl'
     ·have:=h l' hl';omega
     ·rcases ZW hl' with hl' | rfl
      ·have:=h l' hl';omega
      ·have hg:(ls.getD o.toNat []).length<=b:=by
        rw [List.getD]
        cases hq:ls[o.toNat]? with
        | none=>simp
        | some v=>exact h v (Y4 hq)
       rw [YP];show (ls.getD o.toNat []).length+1<=b+1;omega
    ·have:=h l' hl';omega
 have:=key ((p.nodes.zip (aD p)).take k) (cN p) 100000 (fun l hl=>by
  obtain ⟨f,hf,rfl⟩:=Zk.1 hl;exact Nat.le_of_lt (hp.args f hf)) l (Y4 h)
 have hl2:((p.nodes.zip (aD p)).take k).length<=k:=by simp;omega
 omega
abbrev yz (p:Pg) (k:Nat):St:=⟨(63,.d (I k))::(62,.d (I ((p.nodes.map ndL).length:Nat)))::(61,.d (bZ p.nodes))::loR p,loH p (ia (qa p k) 0) (jO (qa p k).length 0) (cM (qa p k) ((qa p k).map cq)),1000000,[],0⟩
end Uw.Tryz
namespace Uw.Tryz
open Go Uw
theorem LV (p:Pg) (hf:aY p=true) (hp:Lim p) (k:Nat) (hk:k<p.nodes.length) (hpre:∀i,i<k->True) {QQ:aG->St->Prop}:WT P0 (gJ (yz p) (sK p.nodes.length fun _=>True) (forM p.nodes.length) k QQ) (exec XP (yz p k) Tree.done):=by
 have hnl:(p.nodes.map ndL).length=p.nodes.length:=by simp
 have hfl:nF p=p.ae.length:=by simp
 have hN:=hp.nodes;have hF:=hp.ae;have he:(p.nodes.map ndL)[(k:Int).toNat]? = some (ndL p.nodes[k]):=by simp [hk]
 have hown:=wX hf _ k hk (YN _);have hoe:((aD p).map fun i=>[I i])[(k:Int).toNat]? = some [I ((aD p).getD k 0)]:=by
  have h2:k<(aD p).length:=by rw [dT];exact hk
  simp [List.getD,h2]
 have hol:((aD p).map fun i=>[I i]).length=p.nodes.length:=by rw [Y5,dT]
 have hsucc:=LU p k hk;have hlen:=AA p k;have hth:=wY p p.nodes[k].name;generalize (aD p).getD k 0=o at *;have hloc:∀x,dA p x=((decide (x.kind=9)||decide (x.kind=10)||decide (x.kind=11))&&!decide (x.name=[])&&(aE p x.name).isNone):=fun x=>rfl;rw [hloc] at hsucc;generalize p.nodes[k]=x at *;obtain ⟨xk,xn,xs,xt,xo⟩:=x;have he:(p.nodes.map ndL)[(k:Int).toNat]? = some [I xk,I xn,.str xs,.str xt,cb xo]:=he;simp only at hsucc hth;obtain ⟨ls,hls⟩:∃ls,qa p k=ls:=⟨_,rfl⟩
 rw [hls] at hsucc hlen;have hS:yz p k=⟨(63,.d (I k))::(62,.d (I ((p.nodes.map ndL).length:Nat)))::(61,.d (bZ p.nodes))::loR p,loH p (ia ls 0) (jO ls.length 0) (cM ls (ls.map cq)),1000000,[],0⟩:=by rw [yz,hls]
 have hS1:yz p (k+1)=⟨(63,.d (I ((k+1:Nat):Int)))::(62,.d (I ((p.nodes.map ndL).length:Nat)))::(61,.d (bZ p.nodes))::loR p,loH p (ia (qa p (k+1)) 0) (jO (qa p (k+1)).length 0) (cM (qa p (k+1)) ((qa p (k+1)).map cq)),1000000,[],0⟩:=rfl;rw [hsucc] at hS1;rw [hS];have hmg:(jO ls.length 0)[o.toNat * 1]? = some (.hnd (mid o.toNat)):=by
  rw [aa0,Zb (by rw [dq];omega),km mid ls.length 0 _ (by omega),YZ]
 have hml:(jO ls.length 0).length=nF p:=by rw [YP,dq,ZL];omega
 have hrl:(ia ls 0).length=nF p:=by rw [YP,eH,ZL];omega
 -- what a round comes to where nothing is added
 have tM:∀(R:fw) (H:Heap) (nx:Nat),(dA p ⟨xk,xn,xs,xt,xo⟩=true->xs∈ls.getD o.toNat [])->look H 2=some (.var (ia ls 0))->look H 3=some (.var (jO ls.length 0))->look H 1=some (.map none (thE p.decls))->look H 0=some (pgV p)->Over (cM ls (ls.map cq)) H->
   (∀rv mv fam,nV (dm []) R H (loH p rv mv fam) ((63,.d (I ((k+1:Nat):Int)))::(62,.d (I ((p.nodes.map ndL).length:Nat)))::(61,.d (bZ p.nodes))::loR p))->Weak ⟨R,H,nx,[],0⟩ (yz p (k+1)):=by
  intro R H nx h0 e2 e3 e1 e0 ho hR;have:(if ((decide (xk=9)||decide (xk=10)||decide (xk=11))&&!decide (xs=[])&&(aE p xs).isNone)=true then addLocal ls o.toNat xs else ls)=ls:=by
   split
   ·rename_i h
    have:=h0 h;rw [addLocal,if_pos this]
   ·rfl
  rw [hS1,this];exact FK (by simp) (by omega) (hR _ _ _) e2 e3 e1 e0 (fun id x h=>by have:=fH h;rw [ho id this.1 (by omega)];exact h)
 clear hS hsucc hloc;by_cases hkk:xk≠9/\xk≠10/\xk≠11
 ·obtain ⟨k9,k10,k11⟩:=hkk
  repeat (first|refine aw ?_|refine f1 ?_)
  refine ay k trivial (tM _ _ _ (fun h=>by simp [dA,k9,k10,k11] at h) rfl rfl rfl rfl (by (repeat refine bB ?_ rfl);exact bA) (fun rv mv fam=>?_))
  repeat' first|exact trivial|refine ⟨⟨_,rfl,?_⟩,?_⟩|exact cT (by first|with_reducible rfl|omega)|exact Or.inl ⟨rfl,rfl⟩
 have hk3:xk=9\/xk=10\/xk=11:=by omega
 cases ht:aE p xs with
 | some kd=>
  rw [ht] at hth;have hth:bf (thE p.decls) (.s xs)=some (I kd):=hth;by_cases hxs:xs=[]
  all_goals rcases hk3 with rfl|rfl|rfl
  all_goals (repeat (first|refine aw ?_|refine f1 ?_|refine m1 ?_))
  all_goals refine ay k trivial (tM _ _ _ (fun h=>by simp [dA,ht] at h) rfl rfl rfl rfl (by (repeat refine bB ?_ rfl);exact bA) (fun rv mv fam=>?_))
  all_goals (repeat' first|exact trivial|refine ⟨⟨_,rfl,?_⟩,?_⟩|exact cT (by first|with_reducible rfl|omega)|exact Or.inl ⟨rfl,rfl⟩)
 | none=>
  rw [ht] at hth;have hth:bf (thE p.decls) (.s xs)=none:=hth;by_cases hxs:xs=[]
  ·rcases hk3 with rfl|rfl|rfl
   all_goals (repeat (first|refine aw ?_|refine f1 ?_|refine m1 ?_))
   all_goals refine ay k trivial (tM _ _ _ (fun h=>by simp [dA,hxs] at h) rfl rfl rfl rfl (by (repeat refine bB ?_ rfl);exact bA) (fun rv mv fam=>?_))
   all_goals (repeat' first|exact trivial|refine ⟨⟨_,rfl,?_⟩,?_⟩|exact cT (by first|with_reducible rfl|omega)|exact Or.inl ⟨rfl,rfl⟩)
  obtain ⟨f,hfo⟩:∃f,o.toNat=f:=⟨_,rfl⟩
  have H6:f<ls.length:=by omega
  have hof:o=(f:Int):=by omega
  obtain ⟨l,hll⟩:∃l,ls[f]? = some l:=⟨ls[f],by simp [H6]⟩
  have hld:ls.getD o.toNat []=l:=by rw [hfo,List.getD,hll];rfl
  have WE:(ls.map cq).length=ls.length:=by simp
  have hlk:∀H,Over (cM ls (ls.map cq)) H->look H (mid o.toNat)=some (.map none (cq l)):=fun H ho=>by
   rw [ho _ (by simp only [mid];omega) (by simp only [mid];omega),hfo];have:=pW (wZ ls.length) (ls:=ls) (ms:=ls.map cq) (i:=0) (k:=f) (m:=cq l) (by omega) H6 (by simp [hll])
   rwa [YZ] at this
  by_cases hin:xs∈l
  ·have hsg:bf (cq l) (.s xs)=some (.bool true):=by rw [sB,if_pos hin]
   rcases hk3 with rfl|rfl|rfl
   all_goals (repeat (first|refine aw ?_|refine f1 ?_|refine m1 ?_))
   all_goals refine lk _ (hlk _ (by (repeat refine bB ?_ rfl);exact bA)) ?_
   all_goals (repeat (first|refine aw ?_|refine f1 ?_|refine m1 ?_))
   all_goals refine ay k trivial (tM _ _ _ (fun h=>by rw [hld];exact hin) rfl rfl rfl rfl (by (repeat refine bB ?_ rfl);exact bA) (fun rv mv fam=>?_))
   all_goals (repeat' first|exact trivial|refine ⟨⟨_,rfl,?_⟩,?_⟩|exact cT (by first|with_reducible rfl|omega)|exact Or.inl ⟨rfl,rfl⟩)
  have hsg:bf (cq l) (.s xs)=none:=by rw [sB,if_neg hin]
  -- what is added
  obtain ⟨ms,hms⟩:∃ms,ms=(ls.map cq).set f (dK (cq l) (.s xs) (.bool true)):=⟨_,rfl⟩
  have WG:ms.length=ls.length:=by rw [hms];simp
  have XQ:ms=(ls.set f (l++[xs])).map cq:=by rw [hms,aaX,pX]
  have Ta:∀b b0,∀id,look ((1000000,b)::(1000000,b0)::loH p (ia ls 0) (jO ls.length 0) (cM ls ms)) id=look ((mid o.toNat,.map none (dK (cq l) (.s xs) (.bool true)))::(1000000,b)::(1000000,b0)::loH p (ia ls 0) (jO ls.length 0) (cM ls (ls.map cq))) id:=fun b b0 id=>by
   refine KU (c:=[(1000000,b),(1000000,b0),(2,.var (ia ls 0)),(3,.var (jO ls.length 0)),(1,.map none (thE p.decls)),(0,pgV p)]) ?_ ?_ id
   ·intro q hq
    simp only [Y3,aaF,or_false] at hq
    rcases hq with rfl|rfl|rfl|rfl|rfl|rfl<;>simp only [mid]<;>omega
   ·intro id
    have:=H5 (wZ ls.length) (dK (cq l) (.s xs) (.bool true)) id ls (ls.map cq) 0 f (by omega) H6 (by omega);rw [YZ] at this;rw [hms,hfo];exact this
  have hlen2:(ls.set f (l++[xs])).length=ls.length:=by simp
  have hS2:yz p (k+1)=⟨(63,.d (I ((k+1:Nat):Int)))::(62,.d (I ((p.nodes.map ndL).length:Nat)))::(61,.d (bZ p.nodes))::loR p,loH p (ia (ls.set f (l++[xs])) 0) (jO ls.length 0) (cM (ls.set f (l++[xs])) ms),1000000,[],0⟩:=by
   have:(if ((decide (xk=9)||decide (xk=10)||decide (xk=11))&&!decide (xs=[])&&(aE p xs).isNone)=true then addLocal ls o.toNat xs else ls)=ls.set f (l++[xs]):=by
    rw [if_pos (by rcases hk3 with rfl|rfl|rfl<;>simp [hxs,ht]),addLocal,hld,if_neg hin,hfo]
   rw [hS1,this,hlen2,<- XQ]
  have hrg:(ia ls 0)[o.toNat * 1]? = some (if l=[] then V.d (.slice 1 [] true) else .ref (rid f) 0 0 l.length):=by
   rw [aa0,hfo,Zb (by rw [eH];exact H6),kl rid ls 0 f l hll,YZ]
  have Ye:l.length<300000:=by
   have:=uA p hp k f l (by rw [hls];exact hll);omega
  have hcap:(decide (l.length=(rowT l).length)&&decide ((l.length+((List.replicate 1 [Dat.str []]).set 0 [Dat.str xs]).length) * 16<=70368744177664))=true:=by simp;omega
  have hrk:∀H,Over (cM ls ms) H->l≠[]->look H (rid f)=some (.arr 1 (rowT l)):=fun H ho hne=>by
   rw [ho _ (by simp only [rid];omega) (by simp only [rid];omega)];have:=vN (wZ ls.length) (ls:=ls) (ms:=ms) (i:=0) (k:=f) (l:=l) (by omega) (by omega) hll hne
   rwa [YZ] at this
  have WH:∀b b0,∀id,look ((1000000,b)::(1000000,b0)::loH p (ia ls 0) (jO ls.length 0) (cM (ls.set f (l++[xs])) ms)) id=look ((rid f,.arr 1 (rowT l++(List.replicate 1 [Dat.str []]).set 0 [Dat.str xs]))::(1000000,b)::(1000000,b0)::loH p (ia ls 0) (jO ls.length 0) (cM ls ms)) id:=fun b b0 id=>by
   refine KU (c:=[(1000000,b),(1000000,b0),(2,.var (ia ls 0)),(3,.var (jO ls.length 0)),(1,.map none (thE p.decls)),(0,pgV p)]) ?_ ?_ id
   ·intro q hq
    simp only [Y3,aaF,or_false] at hq
    rcases hq with rfl|rfl|rfl|rfl|rfl|rfl<;>simp only [rid]<;>omega
   ·intro id
    have:=Ax (wZ ls.length) (l':=l++[xs]) (by simp) id ls ms 0 f (by omega) H6 (by omega);rw [YZ] at this;rw [this];have e:rowT (l++[xs])=rowT l++(List.replicate 1 [Dat.str []]).set 0 [Dat.str xs]:=by simp
    rw [e]
  have hset:(ia ls 0).set (o.toNat * 1) (.ref (rid f) 0 0 (l.length+((List.replicate 1 [Dat.str []]).set 0 [Dat.str xs]).length))=cn rid 0 (ls.set f (l++[xs]))++List.replicate 0 (.d .nil):=by
   have:=DO rid ls 0 f (l++[xs]) H6;rw [if_neg (by simp),YZ] at this;rw [<- this,aa0,hfo,List.set_append_left _ _ (by rw [eH];exact H6)];simp
  have WI:(ia ls 0).set (o.toNat * 1) (.ref 1000001 0 0 ((List.replicate 1 [Dat.str []]).set 0 [Dat.str xs]).length)=(ia ls 0).set f (.ref 1000001 0 0 ([]++[xs]).length):=by rw [aa0,hfo];rfl
  have hS3:yz p (k+1)=⟨(63,.d (I ((k+1:Nat):Int)))::(62,.d (I ((p.nodes.map ndL).length:Nat)))::(61,.d (bZ p.nodes))::loR p,loH p (ia (ls.set f (l++[xs])) 0) (jO (ls.set f (l++[xs])).length 0) (cM (ls.set f (l++[xs])) ms),1000000,[],0⟩:=by rw [hS2,hlen2]
  have U4:ms.length=(ls.set f (l++[xs])).length:=by rw [WG,hlen2]
  have hlen3:(ls.set f (l++[xs])).length<100000:=by rw [hlen2];omega
  have WJ:ls.length<100000:=by omega
  have XR:some (Blk.var (jO ls.length 0))=some (Blk.var (jO (ls.set f (l++[xs])).length 0)):=by rw [hlen2]
  by_cases hl0:l=[]
  ·subst hl0
   have hrg:(ia ls 0)[o.toNat * 1]? = some (V.d (.slice 1 [] true)):=hrg
   rcases hk3 with rfl|rfl|rfl
   all_goals (repeat (first|refine aw ?_|refine f1 ?_|refine m1 ?_))
   all_goals refine lk _ (hlk _ (by (repeat refine bB ?_ rfl);exact bA)) ?_
   all_goals (repeat (first|refine aw ?_|refine f1 ?_|refine m1 ?_))
   all_goals refine lk _ (hlk _ (by (repeat refine bB ?_ rfl);exact bA)) ?_
   all_goals refine zn _ (Ta _ _) ?_
   all_goals (repeat (first|refine aw ?_|refine f1 ?_|refine m1 ?_))
   all_goals refine b9 ⟨(63,.d (I k))::(62,.d (I ((p.nodes.map ndL).length:Nat)))::(61,.d (bZ p.nodes))::loR p,loH p (ia (ls.set f ([]++[xs])) 0) (jO (ls.set f ([]++[xs])).length 0) (cM (ls.set f ([]++[xs])) ms),1000000,[],0⟩ ?_ (by
    refine aw ?_;refine ay k trivial (cH hS3 ?_);refine vP (ls:=ls.set f ([]++[xs])) (ms:=ms) (r:=0) (r':=0) U4 hlen3 ?_ rfl rfl rfl rfl rfl (by (repeat refine bB ?_ rfl);exact bA)
    repeat' first|exact trivial|refine ⟨⟨_,rfl,?_⟩,?_⟩|exact cT (by first|with_reducible rfl|omega)|exact Or.inl ⟨rfl,rfl⟩)
   all_goals (repeat (first|refine aw ?_|refine f1 ?_|refine m1 ?_))
   all_goals refine bg (.inl ⟨rfl,?_⟩)
   all_goals refine U3 (p:=p) (ls:=ls) (ms:=ms) (k:=f) (l:=[]++[xs]) WG WJ H6 (by simp) ⟨⟨_,rfl,cT rfl⟩,⟨_,rfl,.inl ⟨rfl,rfl⟩⟩,⟨_,rfl,.inl ⟨rfl,rfl⟩⟩,OY rfl rfl rfl rfl rfl⟩ ?_ WI ?_ ?_ ?_ ?_ ?_
   all_goals first|exact rfl|((repeat refine bB ?_ rfl);exact bA)
  have hrg2:(ia ls 0)[o.toNat * 1]? = some (.ref (rid f) 0 0 l.length):=by rw [hrg,if_neg hl0]
  clear hrg
  rcases hk3 with rfl|rfl|rfl
  all_goals (repeat (first|refine aw ?_|refine f1 ?_|refine m1 ?_))
  all_goals refine lk _ (hlk _ (by (repeat refine bB ?_ rfl);exact bA)) ?_
  all_goals (repeat (first|refine aw ?_|refine f1 ?_|refine m1 ?_))
  all_goals refine lk _ (hlk _ (by (repeat refine bB ?_ rfl);exact bA)) ?_
  all_goals refine zn _ (Ta _ _) ?_
  all_goals (repeat (first|refine aw ?_|refine f1 ?_|refine m1 ?_))
  all_goals refine b9 ⟨(63,.d (I k))::(62,.d (I ((p.nodes.map ndL).length:Nat)))::(61,.d (bZ p.nodes))::loR p,loH p (ia (ls.set f (l++[xs])) 0) (jO (ls.set f (l++[xs])).length 0) (cM (ls.set f (l++[xs])) ms),1000000,[],0⟩ ?_ (by
   refine aw ?_;refine ay k trivial (cH hS3 ?_);refine vP (ls:=ls.set f (l++[xs])) (ms:=ms) (r:=0) (r':=0) U4 hlen3 ?_ rfl rfl rfl rfl rfl (by (repeat refine bB ?_ rfl);exact bA)
   repeat' first|exact trivial|refine ⟨⟨_,rfl,?_⟩,?_⟩|exact cT (by first|with_reducible rfl|omega)|exact Or.inl ⟨rfl,rfl⟩)
  all_goals (repeat (first|refine aw ?_|refine f1 ?_|refine m1 ?_))
  all_goals refine lk _ (hrk _ (by (repeat refine bB ?_ rfl);exact bA) hl0) ?_
  all_goals (repeat (first|refine aw ?_|refine f1 ?_|refine m1 ?_))
  all_goals refine zn _ (WH _ _) ?_
  all_goals (repeat (first|refine aw ?_|refine f1 ?_|refine m1 ?_))
  all_goals refine bg (.inl ⟨rfl,?_⟩)
  all_goals refine vP (p:=p) (ls:=ls.set f (l++[xs])) (ms:=ms) (r:=0) (r':=0) U4 hlen3 ⟨⟨_,rfl,cT rfl⟩,⟨_,rfl,.inl ⟨rfl,rfl⟩⟩,⟨_,rfl,.inl ⟨rfl,rfl⟩⟩,⟨_,rfl,.inl ⟨rfl,rfl⟩⟩,⟨_,rfl,.inl ⟨rfl,rfl⟩⟩,⟨_,rfl,.inl ⟨rfl,rfl⟩⟩,⟨_,rfl,.inl ⟨rfl,rfl⟩⟩,⟨_,rfl,.inl ⟨rfl,rfl⟩⟩,trivial⟩ ?_ hset ?_ ?_ ?_ ?_
  all_goals first|exact rfl|exact XR|((repeat refine bB ?_ rfl);exact bA)|skip
end Uw.Tryz
namespace Uw.Tryz
open Go Uw
theorem tN {H:Heap}:∀(ls:List (List Str)) (i:Nat),(∀j l,ls[j]? = some l->l≠[]->look H (rid (i+j))=some (.arr 1 (rowT l)))->iL H (cn rid i ls)=some (ls.map fun l=>if l=[] then .slice 1 [] true else .slice 1 (rowT l) false)
 | [],i,h=>rfl
 | l::ls,i,h=>by
  have ih:=tN ls (i+1) (fun j l' hj hne=>by
   have:=h (j+1) l' (by simpa using hj) hne
   rwa [show i+(j+1)=i+1+j by omega] at this)
  rw [cn,iL,ih];by_cases hl:l=[]
  ·subst hl;rfl
  ·have:=h 0 l rfl hl
   rw [if_neg hl,Zm,if_neg hl,V.dat,show rid i=rid (i+0) from rfl,this];have e:(List.drop 0 (rowT l)).take l.length=rowT l:=by rw [Zf,YU (by simp)]
   simp only [e];rfl
theorem OZ {H:Heap} {p:Pg} {ls:List (List Str)} {ms:List MS} {mv:List V} (hms:ms.length=ls.length) (hl:ls.length<100000) (hH:H=loH p (ia ls 0) mv (cM ls ms)):dQ H [.row 2 ls.length]=some [.slice 1 (ls.map Ro) false]:=by
 have h1:iL H (ia ls 0)=some (ls.map fun l=>if l=[] then .slice 1 [] true else .slice 1 (rowT l) false):=by
  show iL H (cn rid 0 ls++[])=_;rw [ZA];refine tN ls 0 fun j l hj hne=>?_;have hjl:j<ls.length:=by
   rcases Zg j ls.length with h|h
   ·exact h
   ·rw [YY h] at hj;cases hj
  have hov:Over (cM ls ms) H:=by rw [hH];(repeat refine bB ?_ rfl);exact bA
  rw [hov _ (by simp only [rid];omega) (by simp only [rid];omega)];have:=vN (wZ ls.length) (ls:=ls) (ms:=ms) (i:=0) (k:=j) (l:=l) (by omega) (by omega) hj hne
  rwa [YZ] at this ⊢
 have h2:look H 2=some (.var (ia ls 0)):=by rw [hH];rfl
 have h3:Nat.beq (ia ls 0).length ls.length=true:=by
  rw [YP,eH,ZL];exact aaW _
 simp only [dQ,V.uW,h2,h1,h3,aaq];rfl
theorem U5 (p:Pg) (hf:aY p=true) (hp:Lim p) (hn0:p.ae≠[]):Ret P0 jJ [pgD p] (.slice 1 ((aj p).map Ro) false):=by
 have hth:=mU p hp.decls;have how:=mV p hf hp;have hfl:nF p=p.ae.length:=by simp
 have Rq:(p.ae.map fuL).length=p.ae.length:=by simp
 have hF:=hp.ae;have hN:=hp.nodes;have hnl:(p.nodes.map ndL).length=p.nodes.length:=by simp
 have XI:(decide (((p.ae.map fuL).length:Int)=((p.ae.map fuL).length:Nat))&&decide ((0:Int)<=((p.ae.map fuL).length:Nat))&&decide ((((p.ae.map fuL).length:Nat):Int) * ((24:Nat):Int)<=70368744177664))=true:=by simp at hfl ⊢;omega
 have XJ:(decide (((p.ae.map fuL).length:Int)=((p.ae.map fuL).length:Nat))&&decide ((0:Int)<=((p.ae.map fuL).length:Nat))&&decide ((((p.ae.map fuL).length:Nat):Int) * ((8:Nat):Int)<=70368744177664))=true:=by simp;omega
 have hpos:0<(p.ae.map fuL).length:=by show 0<nF p;rw [hfl];exact aat.2 hn0
 have hpi:(0:Int)<((p.ae.map fuL).length:Nat):=by omega
 have hal:(cN p).length=p.ae.length:=by simp
 have hAl:(cN p).length<100000:=by rw [hal];exact hF
 have hS0:yz p 0=⟨(63,.d (I ((0:Nat):Int)))::(62,.d (I ((p.nodes.map ndL).length:Nat)))::(61,.d (bZ p.nodes))::loR p,loH p (cn rid 0 (cN p)++List.replicate 0 (.d .nil)) (bT mid 0 (cN p).length++List.replicate 0 (.d .aZ)) (cM (cN p) ((cN p).map cq)),1000000,[],0⟩:=rfl;have hSn:Ju p (nF p)=⟨(31,.d (I (nF p:Nat)))::(30,.d (I ((p.ae.map fuL).length:Nat)))::(29,.d (.slice 3 (p.ae.map fuL) false))::loR p,loH p (cn rid 0 (cN p)++List.replicate 0 (.d .nil)) (bT mid 0 (cN p).length++List.replicate 0 (.d .aZ)) (cM (cN p) ((cN p).map cq)),1000000,[],0⟩:=by
  have e:(cN p).take (nF p)=cN p:=YU (by rw [hal,hfl];omega);rw [Ju,e,aaQ,show nF p=(cN p).length by rw [hal,hfl]]
 have hSe:yz p p.nodes.length=⟨(63,.d (I (p.nodes.length:Nat)))::(62,.d (I ((p.nodes.map ndL).length:Nat)))::(61,.d (bZ p.nodes))::loR p,loH p (ia (aj p) 0) (jO (aj p).length 0) (cM (aj p) ((aj p).map cq)),1000000,[],0⟩:=by
  rw [yz,rT]
 have hll:(aj p).length=nF p:=by rw [<- rT,AA,hfl]
 have hdat:∀H,H=loH p (ia (aj p) 0) (jO (aj p).length 0) (cM (aj p) ((aj p).map cq))->dQ H [.row 2 (nF p)]=some [.slice 1 ((aj p).map Ro) false]:=fun H h=>by
  have:=OZ (by simp) (by rw [hll,hfl];exact hF) h
  rwa [hll] at this
 have hms:((cN p).map cq).length=(cN p).length:=by simp
 refine aF qt rfl ?_
 repeat refine aw ?_
 refine ag 1 [] hth ?_
 repeat (first|refine aw ?_|refine f1 ?_)
 refine bn (nF p) (Ju p) (fun _=>True) ?_ (fun _=>?_) (fun j hj hpre=>?_)
 ·refine FK (ls:=[]) (ms:=[]) (r:=nF p - 0) (r':=nF p - 0) rfl (by simp) ?_ ?_ ?_ rfl rfl (fun id x h=>by simp [jN,look] at h)
  ·repeat' first|exact trivial|refine ⟨⟨_,rfl,?_⟩,?_⟩|exact cT (by first|with_reducible rfl|omega)|exact Or.inl ⟨rfl,rfl⟩
  ·rfl
  ·rfl
 ·rw [hSn]
  repeat (first|refine aw ?_|refine f1 ?_)
  refine aA ?_
  repeat (first|refine aw ?_|refine f1 ?_)
  refine bn p.nodes.length (yz p) (fun _=>True) (cH hS0 ?_) (fun _=>?_) (fun k hk hpre=>?_)
  ·refine vP (ls:=cN p) (ms:=(cN p).map cq) (r:=0) (r':=0) hms hAl ?_ rfl rfl rfl rfl rfl (by (repeat refine bB ?_ rfl);exact bA)
   repeat' first|exact trivial|refine ⟨⟨_,rfl,?_⟩,?_⟩|exact cT (by first|with_reducible rfl|omega)|exact Or.inl ⟨rfl,rfl⟩
  ·rw [hSe]
   repeat (first|refine aw ?_|refine f1 ?_)
   refine aA ?_
   repeat (first|refine aw ?_|refine f1 ?_)
   exact al rfl rfl (hdat _ rfl) rfl rfl
  ·exact LV p hf hp k hk hpre
 ·exact LS p hp j (by omega) hpre
theorem Rw (l:List Str):u3 (Ro l) [ei l]:=by
 refine .cons ?_ (.refl _)
 split
 ·rename_i h;subst h;exact .slice (.refl _)
 ·exact .refl _
abbrev rU (ls:List (List Str)):Dat:=.slice 1 (ls.map fun l=>[ei l]) false
theorem rV (p:Pg) (hf:aY p=true) (hp:Lim p):Ret P0 jJ [pgD p] (rU (aj p)):=by
 by_cases hn0:p.ae=[]
 ·obtain ⟨h1,h2⟩:=U1 p hf hp hn0
  rw [h1];exact h2.res (.slice (.refl _))
 ·refine (U5 p hf hp hn0).res (.slice ?_)
  generalize aj p=ls
  induction ls with
  | nil=>exact .refl _
  | cons l ls ih=>exact .cons (Rw l) ih
end Uw.Tryz
namespace Uw.Tryz
open Go Uw
theorem fP (p:Pg):(aj p).length=p.ae.length:=by rw [<- rT,AA]
theorem AB (p:Pg) (hp:Lim p) (f:Int):Ret P0 mM [pgD p,I f] (ei (jG p f)):=by
 have hfm:=rR p hp;have hlo:=fun h=>rV p h hp;have hfl:(p.ae.map fuL).length=p.ae.length:=by simp
 have hll:=fP p;by_cases hbad:f<0\/(p.ae.length:Int)<=f\/aY p=false
 ·have hr:jG p f=[]:=by rw [jG,if_pos hbad]
  rw [hr];refine Ret.res (r:=.nil) ?_ (.nil 1);refine aF qu rfl ?_;by_cases h1:f<0
  ·repeat refine aw ?_
   exact al rfl rfl rfl rfl rfl
  by_cases h2:(p.ae.length:Int)<=f
  ·repeat refine aw ?_
   exact al rfl rfl rfl rfl rfl
  ·have h3:aY p=false:=by rcases hbad with h|h|h;exact absurd h h1;exact absurd h h2;exact h
   rw [h3] at hfm
   repeat refine aw ?_
   exact al rfl rfl rfl rfl rfl
 ·have h1:¬f<0:=fun h=>hbad (.inl h)
  have h2:f<(p.ae.length:Int):=by omega
  have h3:aY p=true:=by
   cases h:aY p with
   | true=>rfl
   | false=>exact absurd (.inr (.inr h)) hbad
  rw [h3] at hfm;have hlo:=hlo h3;have hr:jG p f=(aj p).getD f.toNat []:=by rw [jG,if_neg hbad]
  obtain ⟨l,hl⟩:∃l,(aj p)[f.toNat]? = some l:=⟨(aj p)[f.toNat]'(by omega),by simp⟩
  have hel:((aj p).map fun l=>[ei l])[f.toNat]? = some [ei l]:=by simp [hl]
  have hml:((aj p).map fun l=>[ei l]).length=p.ae.length:=by simp [hll]
  rw [hr,List.getD,hl];refine aF qu rfl ?_
  repeat refine aw ?_
  exact al rfl rfl rfl rfl rfl
def lq (k:Int) (s:Str):Dat:=.tuple [I ((cX k s).getD 0),.bool (cX k s).isSome]
theorem oq (k:Int) (s:Str):Ret P0 tK [I k,.str s] (lq k s):=by
 by_cases k1:k=1
 ·subst k1
  by_cases a1:s=LN
  ·subst a1;refine aF cK rfl ?_;repeat refine aw ?_
   exact al rfl rfl rfl rfl rfl
  by_cases a2:s=LO
  ·subst a2;refine aF cK rfl ?_;repeat refine aw ?_
   exact al rfl rfl rfl rfl rfl
  by_cases a3:s=LP
  ·subst a3;refine aF cK rfl ?_;repeat refine aw ?_
   exact al rfl rfl rfl rfl rfl
  have e:lq 1 s = .tuple [I 0,.bool false]:=by simp [lq,cX,a1,a2,a3]
  rw [e];have b1:¬s=[103,101,116]:=a1;have b2:¬s=[100,101,108]:=a2;have b3:¬s=[112,117,116]:=a3;refine aF cK rfl ?_;repeat refine aw ?_
  exact al rfl rfl rfl rfl rfl
 by_cases k2:k=2
 ·subst k2
  by_cases a1:s=DG
  ·subst a1;refine aF cK rfl ?_;repeat refine aw ?_
   exact al rfl rfl rfl rfl rfl
  by_cases a2:s=LQ
  ·subst a2;refine aF cK rfl ?_;repeat refine aw ?_
   exact al rfl rfl rfl rfl rfl
  have e:lq 2 s = .tuple [I 0,.bool false]:=by simp [lq,cX,a1,a2]
  rw [e];have b1:¬s=[112,117,115,104]:=a1;have b2:¬s=[112,111,112]:=a2;refine aF cK rfl ?_;repeat refine aw ?_
  exact al rfl rfl rfl rfl rfl
 by_cases k3:k=3
 ·subst k3
  by_cases a1:s=DI
  ·subst a1;refine aF cK rfl ?_;repeat refine aw ?_
   exact al rfl rfl rfl rfl rfl
  by_cases a2:s=DJ
  ·subst a2;refine aF cK rfl ?_;repeat refine aw ?_
   exact al rfl rfl rfl rfl rfl
  have e:lq 3 s = .tuple [I 0,.bool false]:=by simp [lq,cX,a1,a2]
  rw [e];have b1:¬s=[115,101,110,100]:=a1;have b2:¬s=[114,101,99,118]:=a2;refine aF cK rfl ?_;repeat refine aw ?_
  exact al rfl rfl rfl rfl rfl
 have e:lq k s = .tuple [I 0,.bool false]:=by simp [lq,cX,k1,k2,k3]
 rw [e];refine aF cK rfl ?_;repeat refine aw ?_
 exact al rfl rfl rfl rfl rfl
end Uw.Tryz
namespace Uw.Tryz
open Go Uw
def qO:Nat->List Fu->MS->MS
 | _,[],es=>es
 | i,f::r,es=>qO (i+1) r (if (bf es (.s f.name)).isSome then es else dK es (.s f.name) (I i))
def fnE (fs:List Fu):MS:=qO 0 fs []
theorem AE (s:Str):∀(fs:List Fu) (i:Nat) (es:MS),bf (qO i fs es) (.s s)=(bf es (.s s)).or ((fs.findIdx? fun f=>decide (f.name=s)).map fun j=>I ((i+j:Nat):Int))
 | [],i,es=>by simp [qO]
 | f::fs,i,es=>by
  rw [qO,AE s fs,aa7];have h1:bf (if (bf es (.s f.name)).isSome=true then es else dK es (.s f.name) (I i)) (.s s)=(bf es (.s s)).or (if f.name=s then some (I i) else none):=by
   split
   ·rename_i h
    by_cases he:f.name=s
    ·subst he
     cases hm:bf es (.s f.name) with
     | none=>rw [hm] at h;cases h
     | some v=>rfl
    ·rw [if_neg he];simp
   ·rename_i h
    rw [fG];by_cases he:f.name=s
    ·subst he
     simp only [if_true]
     cases hm:bf es (.s f.name) with
     | none=>rfl
     | some v=>rw [hm] at h;simp at h
    ·rw [if_neg he,if_neg (by simp;exact fun e=>he e.symm)];simp
  rw [h1];by_cases he:f.name=s
  ·rw [if_pos he]
   simp only [he,decide_true,if_true]
   cases bf es (.s s)<;>simp
  ·rw [if_neg he]
   simp only [he,decide_false]
   cases bf es (.s s) with
   | some v=>simp
   | none=>
    simp only [Option.or_none,abp]
    cases fs.findIdx? fun f=>decide (f.name=s) with
    | none=>rfl
    | some j=>simp;omega
theorem FR (p:Pg) (s:Str):bf (fnE p.ae) (.s s)=(cV p s).map fun (j:Nat)=>I ((j:Nat):Int):=by
 rw [fnE,AE];simp only [bf,abp,YZ];rfl
abbrev sCs (p:Pg):List V:=[.d (.slice 3 (p.decls.map bM) false),.d (.slice 3 (p.ae.map fuL) false),.d (bZ p.nodes),.hnd 0,.hnd 1,.d (cb (aD p)),.d (rU (aj p))]
abbrev sBs (p:Pg):List Blk:=[.map none (thE p.decls),.map none (fnE p.ae)]
abbrev sHp (p:Pg):Heap:=[(2,.var (sCs p)),(0,.map none (thE p.decls)),(1,.map none (fnE p.ae))]
theorem B0 (p:Pg) (hp:Lim p):bm P0 lA [.agg (sCs p)] (sBs p) (.d (.bool (gx p))) (sBs p):=by
 have hN:=hp.nodes;have hnl:(p.nodes.map ndL).length=p.nodes.length:=by simp
 have hall:(∀(j:Nat) (h:j<p.nodes.length),iN p p.nodes[j]=false)->gx p=false:=fun h=>by
  rw [gx,Zl];intro x hx;obtain ⟨j,hj,rfl⟩:=Y0.1 hx;rw [h j hj];simp
 have hone:∀(j:Nat) (h:j<p.nodes.length),iN p p.nodes[j]=true->gx p=true:=fun j h e=>by
  rw [gx,Zv];exact ⟨_,YT h,e⟩
 generalize gx p=R at *;refine aJ rC rfl ?_
 repeat refine aw ?_
 refine bn p.nodes.length (fun j:Nat=>⟨[(13,.d (I j)),(12,.d (I ((p.nodes.map ndL).length:Nat))),(11,.d (bZ p.nodes)),(1,.ptr 2 0)],sHp p,3,[],2⟩) (fun j=>∀h:j<p.nodes.length,iN p p.nodes[j]=false) (by exact Uw.wM) (fun hg=>?_) (fun j hj hg=>?_)
 ·rw [hall (fun j h=>hg j h h)]
  repeat refine aw ?_
  refine aA ?_
  repeat refine aw ?_
  refine aI 2 rfl rfl ?_;exact Uw.wM
 have he:(p.nodes.map ndL)[(j:Int).toNat]? = some (ndL p.nodes[j]):=by simp [hj]
 have hone:=hone j hj;have hth:=wY p p.nodes[j].name;clear hall;have hG:iN p p.nodes[j]=false->(fun j=>∀h:j<p.nodes.length,iN p p.nodes[j]=false) j:=fun h _=>h;have hd:∀x,iN p x=(if x.kind=2\/x.kind=9 then (match aE p x.name with|some k=>!decide (k=0)|none=>false)
  else if x.kind=10\/x.kind=11 then (aE p x.name).isSome
  else if x.kind=8 then (cX ((aE p x.name).getD 0) x.name2).isNone
  else false):=fun x=>rfl
 rw [hd] at hone hG;clear hd;generalize p.nodes[j]=x at *;obtain ⟨xk,xn,xs,xt,xo⟩:=x;have he:(p.nodes.map ndL)[(j:Int).toNat]? = some [I xk,I xn,.str xs,.str xt,cb xo]:=he;simp only at hone hG hth
 cases ht:aE p xs with
 | none=>
  rw [ht] at hth hone hG;have hth:bf (thE p.decls) (.s xs)=none:=hth;by_cases k8:xk=8
  ·subst k8
   have hne:=oq 0 xt;rw [lq] at hne
   cases hq:cX 0 xt with
   | some c=>
    rw [hq] at hne;have hG1:=hG (by simp [hq])
    repeat (first|refine aw ?_|refine f1 ?_|refine m1 ?_)
    exact ay j hG1 (by exact Uw.wM)
   | none=>
    rw [hq] at hne;rw [hone (by simp [hq])]
    repeat (first|refine aw ?_|refine f1 ?_|refine m1 ?_)
    refine aN (aI 2 rfl rfl ?_);exact Uw.wM
  have hG1:=hG (by simp [k8]);by_cases h:xk=2\/xk=9\/xk=10\/xk=11
  ·rcases h with rfl|rfl|rfl|rfl
   all_goals repeat (first|refine aw ?_|refine f1 ?_|refine m1 ?_)
   all_goals exact ay j hG1 (by exact Uw.wM)
  obtain ⟨k2,k9,k10,k11⟩:xk≠2/\xk≠9/\xk≠10/\xk≠11:=by omega
  repeat (first|refine aw ?_|refine f1 ?_|refine m1 ?_)
  exact ay j hG1 (by exact Uw.wM)
 | some kd=>
  rw [ht] at hth hone hG;have hth:bf (thE p.decls) (.s xs)=some (I kd):=hth;by_cases k8:xk=8
  ·subst k8
   have hne:=oq kd xt;rw [lq] at hne
   cases hq:cX kd xt with
   | some c=>
    rw [hq] at hne;have hG1:=hG (by simp [hq])
    repeat (first|refine aw ?_|refine f1 ?_|refine m1 ?_)
    exact ay j hG1 (by exact Uw.wM)
   | none=>
    rw [hq] at hne;rw [hone (by simp [hq])]
    repeat (first|refine aw ?_|refine f1 ?_|refine m1 ?_)
    refine aN (aI 2 rfl rfl ?_);exact Uw.wM
  by_cases h2:xk=2\/xk=9
  ·by_cases hk:kd=0
   ·have hG1:=hG (by rw [if_pos h2];simp [hk])
    rcases h2 with rfl|rfl
    all_goals repeat (first|refine aw ?_|refine f1 ?_|refine m1 ?_)
    all_goals exact ay j hG1 (by exact Uw.wM)
   ·rw [hone (by rw [if_pos h2];simp [hk])]
    rcases h2 with rfl|rfl
    all_goals repeat (first|refine aw ?_|refine f1 ?_|refine m1 ?_)
    all_goals refine aN (aI 2 rfl rfl ?_)
    all_goals exact Uw.wM
  by_cases h1:xk=10\/xk=11
  ·rw [hone (by rw [if_neg h2,if_pos h1];rfl)]
   rcases h1 with rfl|rfl
   all_goals repeat (first|refine aw ?_|refine f1 ?_|refine m1 ?_)
   all_goals refine aN (aI 2 rfl rfl ?_)
   all_goals exact Uw.wM
  have hG1:=hG (by rw [if_neg h2,if_neg h1,if_neg k8]);obtain ⟨k2,k9,k10,k11⟩:xk≠2/\xk≠9/\xk≠10/\xk≠11:=by omega
  repeat (first|refine aw ?_|refine f1 ?_|refine m1 ?_)
  exact ay j hG1 (by exact Uw.wM)
end Uw.Tryz
