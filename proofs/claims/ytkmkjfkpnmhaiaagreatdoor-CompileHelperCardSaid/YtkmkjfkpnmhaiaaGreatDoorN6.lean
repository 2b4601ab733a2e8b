/- N6: Cd Ce Cf Cb Da Db Ck Cg Ch Ci Cj Cl Cm Ck0 Fa Fb Cn Co Cp Cq Cr Cs Ct Cu Cv Cw Cx Fc Ff Fg Fh Ga Gb Gc Gd Ge Gf Cy Cz (merged by merge2.py from the working texts). -/
import Derived.Test.YtkmkjfkpnmhaiaaGreatDoorN4
import Derived.Test.YtkmkjfkpnmhaiaaGreatDoorN5
import Derived.Test.YtkmkjfkpnmhaiaaGreatDoorN3
import Derived.RangeFuncBound
import Derived.Shelf.Abstract
import Derived.OwnWalkIn
import Derived.TacticsInMore
import Derived.LoopNIn
import Derived.LoopIn
set_option maxRecDepth 4000
set_option maxHeartbeats 2000000
set_option linter.unusedSimpArgs false
set_option linter.unnecessarySimpa false
set_option linter.unusedVariables false
set_option linter.unusedSectionVars false
namespace Uw.Tryz
open Go Uw
theorem Dz (k:Int):Ret P0 vf [I k] (I (cU k)):=by
 refine az AQ rfl ?_
 repeat' first|refine aw ?_|refine bw (fun _=>?_) fun _=>?_
 all_goals refine ak rfl rfl rfl rfl ?_
 all_goals simp only [lI,cU]
 all_goals first|(rw [if_pos (by omega)];done)|(rw [if_neg (by omega),if_pos (by omega)];done)|(rw [if_neg (by omega),if_neg (by omega),if_pos (by omega)];done)|(rw [if_neg (by omega),if_neg (by omega),if_neg (by omega)];done)
theorem DC {a b:List Int} {j:Nat} (ha:j<a.length) (hb:j<b.length) (h:a.take j=b.take j):a.take (j+1)=b.take (j+1)<->a[j]=b[j]:=by
 rw [List.take_succ_eq_append_getElem ha,List.take_succ_eq_append_getElem hb,h];constructor
 ·intro e;simpa using List.append_cancel_left e
 ·intro e;rw [e]
theorem vj (a b:List Int) (hs:a.length<1000000) (z z' : Bool):Ret P0 m9 [.slice 1 (a.map fun i=>[I i]) z,.slice 1 (b.map fun i=>[I i]) z'] (.bool (decide (a=b))):=by
 have ha:(a.map fun i=>[I i]).length=a.length:=by simp
 have hb:(b.map fun i=>[I i]).length=b.length:=by simp
 by_cases hl:a.length=b.length
 rotate_left
 ·have:a≠b:=fun e=>hl (e ▸ rfl)
  rw [decide_eq_false this];refine az ef rfl ?_
  repeat' first|refine aw ?_|refine bw (fun _=>?_) fun _=>?_
  exact ak rfl rfl rfl rfl rfl
 have hend:a.take a.length=b.take a.length->a=b:=fun e=>by rw [List.take_length,hl,List.take_length] at e;exact e
 have hbad:∀(j:Nat) (h1:j<a.length) (h2:j<b.length),¬a[j]=b[j]->decide (a=b)=false:=fun j h1 h2 h=>decide_eq_false fun e=>h (by subst e;rfl);refine az ef rfl ?_
 repeat' first|refine aw ?_|refine bw (fun _=>?_) fun _=>?_
 refine dG (fun j:Nat=>⟨[(13,.d (I j)),(12,.d (I (↑(List.map (fun i=>[I i]) a).length))),(0,.d (Dat.slice 1 (List.map (fun i=>[I i]) a) z)),(1,.d (Dat.slice 1 (List.map (fun i=>[I i]) b) z'))],[],0,[],0⟩)
  (fun j=>j<=a.length/\a.take j=b.take j) (fun j=>a.length - j) 0 (by exact Uw.wW) ⟨by omega,rfl⟩ ?_
 rintro j ⟨h1,h2⟩;refine IA (fun h3=>?_) (fun h3=>?_)
 ·have h4:j<b.length:=by omega
  have h6:=(DC h3 h4 h2).2;have h7:=hbad j h3 h4;have e1:(a.map fun i=>[I i])[(j:Int).toNat]? = some [I a[j]]:=by simp [h3]
  have e2:(b.map fun i=>[I i])[(j:Int).toNat]? = some [I b[j]]:=by simp [h4]
  generalize a[j]=x at *;generalize b[j]=y at *;by_cases h5:x=y
  ·have h6:=h6 h5
   repeat refine aw ?_
   exact cv (j+1) ⟨by omega,h6⟩ (by omega) (by exact Uw.wW)
  ·rw [h7 h5]
   repeat refine aw ?_
   exact bj (ak rfl rfl rfl rfl rfl)
 ·rw [decide_eq_true (hend (by rw [<- show j=a.length by omega];exact h2))]
  repeat refine aw ?_
  refine aC ?_
  repeat refine aw ?_
  exact ak rfl rfl rfl rfl rfl
def Row1 (x:Dat) (a:List Int):Prop:=(x = .nil/\a=[])\/∃z,x = .slice 1 (a.map fun i=>[I i]) z
theorem zo (x y:Dat) (a b:List Int) (hs:a.length<1000000) (hx:Row1 x a) (hy:Row1 y b):Ret P0 m9 [x,y] (.bool (decide (a=b))):=by
 rcases hx with ⟨rfl,rfl⟩|⟨z,rfl⟩<;>rcases hy with ⟨rfl,rfl⟩|⟨z',rfl⟩
 ·rw [decide_eq_true rfl]
  refine az ef rfl ?_
  repeat refine aw ?_
  refine dG (fun j:Nat=>⟨[(13,.d (I 0)),(12,.d (I 0)),(0,.d .nil),(1,.d .nil)],[],0,[],0⟩) (fun j=>j=0) (fun j=>0) 0 (by exact Uw.wW) rfl ?_;rintro j rfl
  repeat refine aw ?_
  refine aC ?_
  repeat refine aw ?_
  exact ak rfl rfl rfl rfl rfl
 ·cases b with
  | nil=>
   rw [decide_eq_true rfl];refine az ef rfl ?_
   repeat refine aw ?_
   refine dG (fun j:Nat=>⟨[(13,.d (I 0)),(12,.d (I 0)),(0,.d .nil),(1,.d (.slice 1 [] z'))],[],0,[],0⟩) (fun j=>j=0) (fun j=>0) 0 (by exact Uw.wW) rfl ?_;rintro j rfl
   repeat refine aw ?_
   refine aC ?_
   repeat refine aw ?_
   exact ak rfl rfl rfl rfl rfl
  | cons c b=>
   rw [decide_eq_false (by simp)];have hb:((c::b).map fun i=>[I i]).length=b.length+1:=by simp
   generalize (c::b).map (fun i=>[I i])=B at *;refine az ef rfl ?_
   repeat refine aw ?_
   exact ak rfl rfl rfl rfl rfl
 ·cases a with
  | nil=>
   rw [decide_eq_true rfl];refine az ef rfl ?_
   repeat refine aw ?_
   refine dG (fun j:Nat=>⟨[(13,.d (I 0)),(12,.d (I 0)),(0,.d (.slice 1 [] z)),(1,.d .nil)],[],0,[],0⟩) (fun j=>j=0) (fun j=>0) 0 (by exact Uw.wW) rfl ?_;rintro j rfl
   repeat refine aw ?_
   refine aC ?_
   repeat refine aw ?_
   exact ak rfl rfl rfl rfl rfl
  | cons c b=>
   rw [decide_eq_false (by simp)];have hb:((c::b).map fun i=>[I i]).length=b.length+1:=by simp
   generalize (c::b).map (fun i=>[I i])=B at *;refine az ef rfl ?_
   repeat refine aw ?_
   exact ak rfl rfl rfl rfl rfl
 ·exact vj a b hs z z'
def ofB (a:List Int):List Blk:=[.var [.ref 1 0 0 a.length],.arr 1 (a.map fun i=>[I i])]
theorem FG (x:Dat) (a b:List Int) (hs:a.length<1000000) (hx:Row1 x b):bk P0 kr [.d x,.ptr 0 0] (ofB a) (.d (.bool (decide (a=b)))) (ofB a):=by
 have h1:=zo (.slice 1 (a.map fun i=>[I i]) false) x a b hs (.inr ⟨_,rfl⟩) hx;have ha:(List.drop 0 (a.map fun i=>[I i])).take a.length=a.map fun i=>[I i]:=by rw [List.drop_zero];exact List.take_of_length_le (by simp)
 rw [<- ha] at h1;refine aG vg rfl ?_
 repeat' first|refine aw ?_|refine bw (fun _=>?_) fun _=>?_
 exact aF 2 rfl rfl (by exact Uw.wW)
theorem FH (s:Int) (a:List Int) (hs:a.length<1000000):bk P0 kt [.d (I s),.ptr 0 0] (ofB a) (.d (.bool (a.all fun x=>decide (x=s)))) (ofB a):=by
 have ha:(a.map fun i=>[I i]).length=a.length:=by simp
 have hget:∀(j:Nat) (h:j<a.length),(a.map fun i=>[I i])[0+(j:Int).toNat]? = some [I a[j]]:=by intro j h;simp [h]
 have hall:(∀x∈a.take a.length,x=s)->(a.all fun x=>decide (x=s))=true:=by
  intro h;rw [List.take_length] at h;simpa using h
 have hnot:∀(j:Nat) (h:j<a.length),¬a[j]=s->(a.all fun x=>decide (x=s))=false:=by
  intro j h hn;rw [Bool.eq_false_iff];intro he;exact hn (by simpa using List.all_eq_true.1 he a[j] (List.getElem_mem h))
 have hsucc:∀(j:Nat) (h:j<a.length),(∀x∈a.take j,x=s)->a[j]=s->∀x∈a.take (j+1),x=s:=by
  intro j h h1 h2 x hx;rw [List.take_succ_eq_append_getElem h] at hx
  rcases List.mem_append.1 hx with hx|hx
  ·exact h1 x hx
  ·simp at hx;rw [hx];exact h2
 generalize (a.all fun x=>decide (x=s))=R at *;refine aG vh rfl ?_
 repeat' first|refine aw ?_|refine bw (fun _=>?_) fun _=>?_
 refine dF pZ rfl ?_
 repeat' first|refine aw ?_|refine bw (fun _=>?_) fun _=>?_
 refine dF sK rfl ?_
 repeat' first|refine aw ?_|refine bw (fun _=>?_) fun _=>?_
 refine dG (fun j:Nat=>⟨[(8,.d (I j)),(7,.d (I ↑a.length)),(0,.ref 1 0 0 a.length),(1,V.func na [] [V.ptr 2 0])],[(2,.var [.d (I s)]),(1,.arr 1 (List.map (fun i=>[I i]) a)),(0,.var [.ref 1 0 0 a.length])],3,[],3⟩)
  (fun j=>j<=a.length/\∀x∈a.take j,x=s) (fun j=>a.length - j) 0 (by exact Uw.wW) ⟨by omega,by simp⟩ ?_
 rintro j ⟨h1,h2⟩;by_cases h3:j<a.length
 ·have e1:=hget j h3
  have h4:=hnot j h3;have h5:=hsucc j h3 h2;generalize a[j]=x at *;by_cases h6:x=s
  ·have h7:=h5 h6
   repeat refine aw ?_
   refine dF lQ rfl ?_
   repeat refine aw ?_
   refine dX rfl rfl ?_
   repeat refine aw ?_
   exact cv (j+1) ⟨by omega,h7⟩ (by omega) (by exact Uw.wW)
  ·have h8:R=(!decide ((0:Int)<=(j:Int))):=by rw [h4 h6];simp
   rw [h8]
   repeat refine aw ?_
   refine dF lQ rfl ?_
   repeat refine aw ?_
   refine dX rfl rfl ?_
   repeat refine aw ?_
   refine bj (dX rfl rfl ?_)
   repeat refine aw ?_
   refine dX rfl rfl ?_
   repeat refine aw ?_
   exact aF 2 rfl rfl (by exact Uw.wW)
 ·rw [hall (by rw [<- show j=a.length by omega];exact h2)]
  repeat refine aw ?_
  refine aC ?_
  repeat refine aw ?_
  refine dX rfl rfl ?_
  repeat refine aw ?_
  refine dX rfl rfl ?_
  repeat refine aw ?_
  exact aF 2 rfl rfl (by exact Uw.wW)
end Uw.Tryz
namespace Uw.Tryz
open Go Uw
def bN (ns:List Nd):Dat:=.slice 5 (ns.map ndL) false
theorem fG (ns:List Nd) (x:Nd):(dx ns x).length=x.of.length:=by simp [dx]
theorem JK (ns:List Nd) (x:Nd) (hk:∀k∈x.of,0<=k/\k<ns.length):∃A:Nat->List (List Dat),A 0=[]/\
  (∀(j:Nat) (h:j<x.of.length),∃(k:Int) (y:Nd),(x.of.map fun i=>[I i])[(j:Int).toNat]? = some [I k]/\0<=k/\k<ns.length/\(ns.map ndL)[k.toNat]? = some (ndL y)/\A j++[[I (cU y.kind)]]=A (j+1)/\(A j).length=j)/\
  A x.of.length=(dx ns x).map fun i=>[I i]:=by
 refine ⟨fun j=>((dx ns x).take j).map fun i=>[I i],rfl,fun j h=>?_,by dsimp only;rw [<- fG ns x,List.take_length]⟩;obtain ⟨h1,h2⟩:=hk x.of[j] (List.getElem_mem h);have h3:x.of[j].toNat<ns.length:=by omega
 refine ⟨x.of[j],ns[x.of[j].toNat],by simp [h],h1,h2,by simp [h3],?_,by simp [fG];omega⟩;have h4:j<(dx ns x).length:=by rw [fG];exact h
 dsimp only;rw [List.take_succ_eq_append_getElem h4,List.map_append];simp [dx,cq,List.getD,h3]
set_option maxRecDepth 4000 in
set_option maxHeartbeats 4000000 in
theorem zp (ns:List Nd) (x:Nd) (hk:∀k∈x.of,0<=k/\k<ns.length) (hl:x.of.length<1000000):Ret P0 m8 [bN ns,.agg (ndL x)] (.bool (ew ns x)):=by
 have hoE:bT x.of = .slice 1 (x.of.map fun i=>[I i]) false:=rfl;have ho:(x.of.map fun i=>[I i]).length=x.of.length:=by simp
 have hnl:(ns.map ndL).length=ns.length:=by simp
 obtain ⟨A,hA0,hA1,hA2⟩:=JK ns x hk;have FI:∀(d:Dat) (b:List Int),Row1 d b->bk P0 kr [.d d,.ptr 0 0] [.var [.ref 1 0 0 x.of.length],.arr 1 (A x.of.length)] (.d (.bool (decide (dx ns x=b)))) [.var [.ref 1 0 0 x.of.length],.arr 1 (A x.of.length)]:=by
  intro d b h;have:=FG d (dx ns x) b (by rw [fG];exact hl) h;rw [ofB,fG,<- hA2] at this;exact this
 have hall:∀(s:Int),bk P0 kt [.d (I s),.ptr 0 0] [.var [.ref 1 0 0 x.of.length],.arr 1 (A x.of.length)] (.d (.bool ((dx ns x).all fun x=>decide (x=s)))) [.var [.ref 1 0 0 x.of.length],.arr 1 (A x.of.length)]:=by
  intro s;have:=FH s (dx ns x) (by rw [fG];exact hl);rw [ofB,fG,<- hA2] at this;exact this
 have hsort:=Dz;have hR:ew ns x=dy x.kind x.n (dx ns x) (cq ns (x.of.headD 0)):=rfl;rw [hR];have h17:dx ns x=[1]->∃(k:Int) (y:Nd),(x.of.map fun i=>[I i])[(0:Int).toNat]? = some [I k]/\0<=k/\k<ns.length/\0<x.of.length/\(ns.map ndL)[k.toNat]? = some (ndL y)/\cq ns (x.of.headD 0)=y.kind:=by
  intro h;have hlen:=fG ns x;rw [h] at hlen
  cases hof:x.of with
  | nil=>rw [hof] at hlen;cases hlen
  | cons k r=>
   obtain ⟨h1,h2⟩:=hk k (by rw [hof];simp);have h3:k.toNat<ns.length:=by omega
   exact ⟨k,ns[k.toNat],rfl,h1,h2,by simp,by simp [h3],by simp [cq,List.getD,h3]⟩
 have h17:∃(k:Int) (y:Nd),dx ns x=[1]->((x.of.map fun i=>[I i])[(0:Int).toNat]? = some [I k]/\0<=k/\k<ns.length/\0<x.of.length/\(ns.map ndL)[k.toNat]? = some (ndL y)/\cq ns (x.of.headD 0)=y.kind):=by
  by_cases h:dx ns x=[1]
  ·obtain ⟨k,y,h⟩:=h17 h
   exact ⟨k,y,fun _=>h⟩
  ·exact ⟨0,default,fun e=>absurd e h⟩
 obtain ⟨k7,y7,h17⟩:=h17;generalize dx ns x=so at *;generalize cq ns (x.of.headD 0)=k0 at *;obtain ⟨kind,n,name,name2,of⟩:=x;simp only at *;clear hk hR hA2;show Ret P0 m8 [bN ns,.agg [I kind,I n,.str name,.str name2,.slice 1 (of.map fun i=>[I i]) false]] _;clear hoE;generalize of.length=L at *;generalize (of.map fun i=>[I i])=O at *;refine az xN rfl ?_
 repeat refine aw ?_
 refine dG (fun j:Nat=>⟨[(13,.d (I j)),(12,.d (I (O.length))),(11,.d (.slice 1 O false)),(5,.ptr 1 0),(3,.ptr 0 0),(0,.d (bN ns))],[(2,.arr 1 (A j)),(1,.var [.ref 2 0 0 j]),(0,.var [.d (I kind),.d (I n),.d (.str name),.d (.str name2),.d (.slice 1 O false)])],3,[],0⟩)
  (fun j=>j<=L) (fun j=>L - j) 0 (by rw [hA0];exact Uw.wW) (by omega) ?_
 intro j hj;by_cases h1:j<L
 ·obtain ⟨k,y,e1,h2,h3,e2,e3,e4⟩:=hA1 j h1
  have hs:=hsort y.kind;have h8:(decide (j=(A j).length)&&decide ((j+((List.replicate 1 [Dat.int IntKind.i64 0]).set 0 [I (cU y.kind)]).length) * 8<=70368744177664))=true:=by simp [e4];omega
  repeat refine aw ?_
  exact cv (j+1) (by omega) (by omega) (by exact Uw.wW)
 ·obtain rfl:j=L:=by omega
  repeat refine aw ?_
  refine aC ?_
  repeat' first|refine aw ?_|refine bw (fun _=>?_) fun _=>?_
  ·rename_i h
   refine ag 3 [1,2] (FI .nil [] (.inl ⟨rfl,rfl⟩)) ?_;subst h
   repeat' first|refine aw ?_|refine bw (fun _=>?_) fun _=>?_
   all_goals refine ak rfl rfl rfl rfl ?_
   all_goals first|(simp_all [dy,lI];done)|(simp_all [dy,lI];omega)
  iterate 2
   ·rename_i h
    refine ag 3 [1,2] (FI .nil [] (.inl ⟨rfl,rfl⟩)) ?_
    repeat refine aw ?_
    refine ak rfl rfl rfl rfl ?_;subst h;rfl
  iterate 6
   ·rename_i h
    refine ag 3 [1,2] (FI _ [1,1] (.inr ⟨true,rfl⟩)) ?_
    repeat refine aw ?_
    refine ak rfl rfl rfl rfl ?_;subst h;rfl
  iterate 2
   ·rename_i h
    refine ag 3 [1,2] (hall 1) ?_
    repeat refine aw ?_
    refine ak rfl rfl rfl rfl ?_;subst h;rfl
  iterate 3
   ·rename_i h
    refine ag 3 [1,2] (FI _ [1] (.inr ⟨true,rfl⟩)) ?_
    repeat refine aw ?_
    refine ak rfl rfl rfl rfl ?_;subst h;rfl
  ·rename_i h
   refine ag 3 [1,2] (FI _ [1] (.inr ⟨true,rfl⟩)) ?_;by_cases h5:so=[1]
   ·have e1:=(h17 h5).1
    have e2:=(h17 h5).2.1;have e3:=(h17 h5).2.2.1;have e4:=(h17 h5).2.2.2.1;have e5:=(h17 h5).2.2.2.2.1;have e6:=(h17 h5).2.2.2.2.2
    repeat refine aw ?_
    refine ak rfl rfl rfl rfl ?_;rw [h,h5,e6];rfl
   ·repeat refine aw ?_
    refine ak rfl rfl rfl rfl ?_;rw [h];show Dat.bool false=Dat.bool (decide (so=[1])&&_);rw [decide_eq_false h5];rfl
  ·rename_i h
   refine ag 3 [1,2] (FI _ [1,3] (.inr ⟨true,rfl⟩)) ?_;by_cases h5:so=[1,3]
   ·repeat refine aw ?_
    refine ak rfl rfl rfl rfl ?_;rw [h];show Dat.bool true=Dat.bool (decide (so=[1,3])||_);rw [decide_eq_true h5];rfl
   ·repeat refine aw ?_
    refine ag 3 [1,2] (FI _ [1,3,3] (.inr ⟨true,rfl⟩)) ?_
    repeat refine aw ?_
    refine ak rfl rfl rfl rfl ?_;rw [h];show Dat.bool (decide (so=[1,3,3]))=Dat.bool (decide (so=[1,3])||_);rw [decide_eq_false h5];rfl
  ·rename_i h
   refine ag 3 [1,2] (FI _ [1,3] (.inr ⟨true,rfl⟩)) ?_
   repeat refine aw ?_
   refine ak rfl rfl rfl rfl ?_;subst h;rfl
  ·rename_i h
   refine ag 3 [1,2] (hall 2) ?_
   repeat refine aw ?_
   refine ak rfl rfl rfl rfl ?_;subst h;rfl
  ·refine ak rfl rfl rfl rfl ?_
   show Dat.bool false=_;rw [dy,if_neg (by omega),if_neg (by omega),if_neg (by omega),if_neg (by omega),if_neg (by omega),if_neg (by omega),if_neg (by omega),if_neg (by omega),if_neg (by omega)]
end Uw.Tryz
namespace Uw.Tryz
open Go Uw
structure Lim (p:Pg):Prop where
 nodes:p.nodes.length<100000
 ae:p.ae.length<100000
 decls:p.decls.length<100000
 of:∀x∈p.nodes,x.of.length<100000
 args:∀f∈p.ae,f.args.length<100000
def oJ (L:List Int) (n:Nat):List Int:=(List.range n).map fun (k:Nat)=>((L.count (k:Int):Nat):Int)
theorem yd (L:List Int) (n:Nat):(oJ L n).length=n:=by simp [oJ]
theorem DF (L:List Int) (n k:Nat) (h:k<n):(oJ L n)[k]'(by rw [yd];exact h)=(L.count (k:Int):Nat):=by simp [oJ]
theorem OV (L:List Int) (n:Nat) (k:Int) (h0:0<=k) (h:k<n):(oJ L n).set k.toNat (((L.count k:Nat):Int)+1)=oJ (L++[k]) n:=by
 have hk:k.toNat<n:=by omega
 have hkk:((k.toNat:Nat):Int)=k:=by omega
 apply List.ext_getElem
 ·simp [oJ]
 ·intro i h1 h2
  have hi:i<n:=by rw [yd] at h2;exact h2
  rw [DF _ _ _ hi,List.count_append];by_cases he:i=k.toNat
  ·subst he
   rw [List.getElem_set_self,hkk];simp
  ·rw [List.getElem_set_ne (Ne.symm he),DF _ _ _ hi]
   have:¬k=(i:Int):=by omega
   simp [List.count_cons,this]
theorem OW (n:Nat):oJ [] n=List.replicate n 0:=by
 apply List.ext_getElem
 ·simp [oJ]
 ·intro i h1 h2;simp [oJ]
def fj (l:List Int):List (List Dat):=l.map fun i=>[I i]
theorem L6 {L:List Int} {n:Nat} {k:Int} (h0:0<=k) (h:k<n):(fj (oJ L n))[k.toNat]? = some [I (L.count k:Nat)]:=by
 have hk:k.toNat<n:=by omega
 have hkk:((k.toNat:Nat):Int)=k:=by omega
 rw [fj,List.getElem?_map,List.getElem?_eq_getElem (by rw [yd];exact hk),DF _ _ _ hk,hkk];rfl
theorem OX {L:List Int} {n:Nat} {k:Int} (h0:0<=k) (h:k<n):(fj (oJ L n)).set k.toNat [I (((L.count k:Nat):Int)+1)]=fj (oJ (L++[k]) n):=by
 rw [<- OV L n k h0 h,fj,fj,List.map_set]
theorem OY (L:List Int) (n:Nat):(fj (oJ L n)).length=n:=by rw [fj,List.length_map,yd]
theorem IK {l:List Nd} (h:∀x∈l,x.of.length<100000):(l.flatMap (·.of)).length<=l.length * 100000:=by
 induction l with
 | nil=>simp
 | cons x l ih=>
  have h1:=h x (by simp);have h2:=ih fun y hy=>h y (by simp [hy]);rw [List.flatMap_cons,List.length_append,List.length_cons,Nat.add_mul];omega
theorem L8 {p:Pg} (hp:Lim p):(iW p).length<100000000000:=by
 have h1:=IK hp.of;have h2:=hp.nodes;have h3:=hp.ae;rw [iW,List.length_append,List.length_map];omega
def ly (ns:List Nd) (i:Nat):List Int:=(ns.take i).flatMap (·.of)
theorem FK {ns:List Nd} {i:Nat} (h:i<ns.length):ly ns (i+1)=ly ns i++ns[i].of:=by
 rw [ly,List.take_succ_eq_append_getElem h,List.flatMap_append];simp [ly]
theorem zq {ns:List Nd}:∀{l:List Nd} {b:Nat},jQ ns b l=true<->∀(i:Nat) (h:i<l.length),rn ns (b+i) l[i]=true
 | [],b=>by simp [jQ]
 | x::l,b=>by
  simp only [jQ,Bool.and_eq_true];rw [zq];constructor
  ·rintro ⟨h1,h2⟩ i hi
   cases i with
   | zero=>exact h1
   | succ i=>have:=h2 i (by simpa using hi);rw [show b+(i+1)=b+1+i by omega];exact this
  ·intro h
   refine ⟨h 0 (by simp),fun i hi=>?_⟩;have:=h (i+1) (by simpa using hi);rw [show b+1+i=b+(i+1) by omega];exact this
theorem IL (U:List Int) (n:Nat) (k:Int) (h0:0<=k) (h:k<n):∃c:Int,(fj (oJ U n))[0+k.toNat]? = some [I c]/\(fj (oJ U n)).set (0+k.toNat) (setAt [I c] 0 [I (c+1)])=fj (oJ (U++[k]) n)/\0<=c/\c<=U.length:=by
 refine ⟨(U.count k:Nat),by rw [Nat.zero_add];exact L6 h0 h,by rw [Nat.zero_add];exact OX h0 h,by omega,?_⟩;have:=List.count_le_length (a:=k) (l:=U);omega
theorem zr {p:Pg} (hp:Lim p) (i:Nat):(ly p.nodes i).length<10000000000:=by
 have h1:=IK (l:=p.nodes.take i) fun x hx=>hp.of x (List.mem_of_mem_take hx);have h2:=hp.nodes;have h3:(p.nodes.take i).length<=p.nodes.length:=by simp;omega
 unfold ly;omega
structure FM (p:Pg) (R:Bool):Prop where
 kid:∀(i:Nat) (h:i<p.nodes.length) (k:Int),k∈p.nodes[i].of->¬(0<=k/\k<i)->R=false
 shape:∀(i:Nat) (h:i<p.nodes.length),ew p.nodes p.nodes[i]=false->R=false
 body:∀(i:Nat) (h:i<p.ae.length),mY p.nodes p.ae[i]=false->R=false
 time:∀(k:Nat),k<p.nodes.length->(iW p).count (k:Int)≠1->R=false
 all:(∀(i:Nat) (h:i<p.nodes.length),(∀k∈p.nodes[i].of,0<=k/\k<i)/\ew p.nodes p.nodes[i]=true)->(∀(i:Nat) (h:i<p.ae.length),mY p.nodes p.ae[i]=true)->(∀(k:Nat),k<p.nodes.length->(iW p).count (k:Int)=1)->R=true
theorem DG (p:Pg):FM p (bE p):=by
 have key:bE p=true<->(∀(i:Nat) (h:i<p.nodes.length),rn p.nodes i p.nodes[i]=true)/\(∀f∈p.ae,mY p.nodes f=true)/\∀(k:Nat),k<p.nodes.length->(iW p).count (k:Int)=1:=by
  simp only [bE,Bool.and_eq_true,zq,List.all_eq_true,and_assoc,Nat.zero_add,decide_eq_true_eq,List.mem_range]
 have hno:∀(i:Nat) (h:i<p.nodes.length),rn p.nodes i p.nodes[i]=true<->(∀k∈p.nodes[i].of,0<=k/\k<i)/\ew p.nodes p.nodes[i]=true:=by
  intro i h;simp [rn,Bool.and_eq_true,List.all_eq_true]
 have no:∀{P:Prop},(bE p=true->P)->¬P->bE p=false:=fun h1 h2=>by
  rw [Bool.eq_false_iff];exact fun e=>h2 (h1 e)
 refine ⟨fun i h k hk hb=>no (fun e=>((hno i h).1 ((key.1 e).1 i h)).1 k hk) hb,fun i h hs=>no (fun e=>((hno i h).1 ((key.1 e).1 i h)).2) (by simp [hs]),fun i h hs=>no (fun e=>(key.1 e).2.1 _ (List.getElem_mem h)) (by simp [hs]),fun k hk hc=>no (fun e=>(key.1 e).2.2 k hk) hc,fun h1 h2 h3=>key.2 ⟨fun i h=>(hno i h).2 (h1 i h),fun f hf=>?_,h3⟩⟩;obtain ⟨i,hi,rfl⟩:=List.mem_iff_getElem.1 hf;exact h2 i hi
set_option maxRecDepth 4000 in
set_option maxHeartbeats 4000000 in
theorem rM (p:Pg) (hp:Lim p):Ret P0 rx [pgD p] (.bool (bE p)):=by
 have hF:=DG p;have hfew:=L8 hp;have hN:=hp.nodes;have hFl:=hp.ae;generalize bE p=R at *;have hnl:(p.nodes.map ndL).length=p.nodes.length:=by simp
 have hfl:(p.ae.map fuL).length=p.ae.length:=by simp
 obtain ⟨T,hT⟩:∃T:Nat->List (List Dat),∀i,T i=fj (oJ (ly p.nodes i) p.nodes.length):=⟨_,fun _=>rfl⟩
 have e0:List.replicate (((p.nodes.map ndL).length:Nat):Int).toNat [I 0]=T 0:=by
  rw [hT,show ly p.nodes 0=[] from rfl,OW,fj,List.map_replicate,hnl];simp
 have hmk:(decide ((0:Int)<=((p.nodes.map ndL).length:Nat))&&decide ((((p.nodes.map ndL).length:Nat):Int)<=((p.nodes.map ndL).length:Nat))&&decide ((((p.nodes.map ndL).length:Nat):Int) * ((8:Nat):Int)<=70368744177664))=true:=by simp;omega
 refine az xI rfl ?_
 repeat refine aw ?_
 refine dG (fun i:Nat=>⟨[(19,.d (I i)),(18,.d (I ((p.nodes.map ndL).length:Nat))),(17,.d (bN p.nodes)),(3,.ref 1 0 0 p.nodes.length),(1,.ptr 0 0)],[(1,.mt 1 0 (T i)),(0,.var [.d (.slice 3 (p.decls.map cI) false),.d (.slice 3 (p.ae.map fuL) false),.d (bN p.nodes)])],2,[],0⟩)
  (fun i=>i<=p.nodes.length/\∀(j:Nat) (h:j<p.nodes.length),j<i->(∀k∈p.nodes[j].of,0<=k/\k<j)/\ew p.nodes p.nodes[j]=true) (fun i=>p.nodes.length - i) 0 (by exact Uw.wM) ⟨by omega,fun j _ h=>by omega⟩ ?_
 rintro i ⟨hi,hok⟩;by_cases hlt:i<p.nodes.length
 rotate_left
 ·repeat refine aw ?_
  refine aC ?_
  repeat refine aw ?_
  have hok2:∀(j:Nat) (h:j<p.nodes.length),(∀k∈p.nodes[j].of,0<=k/\k<j)/\ew p.nodes p.nodes[j]=true:=fun j h=>hok j h (by omega);obtain rfl:i=p.nodes.length:=by omega
  have hU:ly p.nodes p.nodes.length=p.nodes.flatMap (·.of):=by rw [ly,List.take_length]
  obtain ⟨T3,hT3⟩:∃T3:Nat->List (List Dat),∀j,T3 j=fj (oJ (p.nodes.flatMap (·.of)++(p.ae.map (·.body)).take j) p.nodes.length):=⟨_,fun _=>rfl⟩
  have e3:T p.nodes.length=T3 0:=by rw [hT,hT3,hU];simp
  have e4:T3 p.ae.length=fj (oJ (iW p) p.nodes.length):=by
   rw [hT3,iW,List.take_of_length_le (by simp)]
  have hstep:∀(j:Nat) (h:j<p.ae.length),0<=p.ae[j].body->p.ae[j].body<p.nodes.length->∃c:Int,(T3 j)[0+p.ae[j].body.toNat]? = some [I c]/\(T3 j).set (0+p.ae[j].body.toNat) (setAt [I c] 0 [I (c+1)])=T3 (j+1)/\0<=c/\c<100000000000:=by
   intro j h h0 h1;obtain ⟨c,g1,g2,g3,g4⟩:=IL (p.nodes.flatMap (·.of)++(p.ae.map (·.body)).take j) p.nodes.length _ h0 h1;refine ⟨c,by rw [hT3];exact g1,?_,g3,?_⟩
   ·rw [hT3,hT3,g2,List.take_succ_eq_append_getElem (by simpa using h),List.append_assoc,List.getElem_map]
   ·have:=zr hp p.nodes.length
    rw [hU] at this;simp only [List.length_append,List.length_take,List.length_map] at g4;omega
  have hbody:=hF.body;have SG:∀(j:Nat) (h:j<p.ae.length),(p.ae.map fuL)[(j:Int).toNat]? = some (fuL p.ae[j]):=by intro j h;simp [h]
  have SH:∀(k:Int),0<=k->k<p.nodes.length->∃y:Nd,(p.nodes.map ndL)[k.toNat]? = some (ndL y)/\cq p.nodes k=y.kind:=by
   intro k h0 h1;have h3:k.toNat<p.nodes.length:=by omega
   exact ⟨p.nodes[k.toNat],by simp [h3],by simp [cq,List.getD,h3]⟩
  clear hT e0 hT3 hi;rw [e3];refine cb p.ae.length (fun j:Nat=>⟨[(54,.d (I j)),(53,.d (I ((p.ae.map fuL).length:Nat))),(52,.d (.slice 3 (p.ae.map fuL) false)),(3,.ref 1 0 0 p.nodes.length),(1,.ptr 0 0)],[(1,.mt 1 0 (T3 j)),(0,.var [.d (.slice 3 (p.decls.map cI) false),.d (.slice 3 (p.ae.map fuL) false),.d (bN p.nodes)])],2,[],0⟩)
   (fun j=>∀h:j<p.ae.length,mY p.nodes p.ae[j]=true) (by exact Uw.wM) (fun hbd=>?_) (fun j hj hbd=>?_)
  ·have hbd:∀(j:Nat) (h:j<p.ae.length),mY p.nodes p.ae[j]=true:=fun j h=>hbd j h h
   have hR:=hF.all hok2 hbd;have UX:=hF.time;have VP:∀(k:Nat) (h:k<p.nodes.length),(T3 p.ae.length)[0+(k:Int).toNat]? = some [I ((iW p).count (k:Int):Nat)]:=by
    intro k h;rw [e4,Nat.zero_add];exact L6 (by omega) (by omega)
   have hTl:(T3 p.ae.length).length=p.nodes.length:=by rw [e4,OY]
   repeat refine aw ?_
   refine aC ?_
   repeat refine aw ?_
   clear hF hok hok2 hbd SG SH hbody hstep;refine cb p.nodes.length (fun k:Nat=>⟨[(89,.d (I k)),(88,.d (I (p.nodes.length:Nat))),(87,.ref 1 0 0 p.nodes.length)],[(1,.mt 1 0 (T3 p.ae.length))],2,[],0⟩)
    (fun k=>(iW p).count (k:Int)=1) (by exact Uw.wM) (fun hc=>?_) (fun k hk hc=>?_)
   ·rw [hR hc]
    repeat refine aw ?_
    refine aC ?_
    repeat refine aw ?_
    exact ak rfl rfl rfl rfl rfl
   have hel:=VP k hk;have hti:=UX k hk;by_cases h1:(iW p).count (k:Int)=1
   ·rw [h1] at hel
    repeat refine aw ?_
    exact aJ k h1 (by exact Uw.wM)
   ·rw [hti h1]
    have h2:¬(((iW p).count (k:Int):Nat):Int)=1:=by omega
    clear hti;generalize (((iW p).count (k:Int):Nat):Int)=c at *
    repeat refine aw ?_
    refine bj ?_;exact ak rfl rfl rfl rfl rfl
  have hb:=hbody j hj;have hs:=hstep j hj;have he:=SG j hj;have hN2:=SH p.ae[j].body;have hbk:mY p.nodes p.ae[j]=(decide (0<=p.ae[j].body)&&decide (p.ae[j].body<p.nodes.length)&&decide (cq p.nodes p.ae[j].body=18)):=rfl;have hnext:mY p.nodes p.ae[j]=true->∀h:j<p.ae.length,mY p.nodes p.ae[j]=true:=fun h _=>h;rw [hbk] at hb hnext;clear hbk hbody hstep SG SH;generalize p.ae[j]=f at *;obtain ⟨fn,fa,fb⟩:=f;have he:(p.ae.map fuL)[(j:Int).toNat]? = some [.str fn,fY fa,I fb]:=he;simp only at *;by_cases h0:fb<0
  ·rw [hb (by rw [decide_eq_false (by omega)];rfl)]
   repeat refine aw ?_
   refine bj ?_;exact ak rfl rfl rfl rfl rfl
  by_cases h1:(p.nodes.length:Int)<=fb
  ·rw [hb (by rw [decide_eq_false (show ¬fb<p.nodes.length by omega),Bool.and_false];rfl)]
   repeat refine aw ?_
   refine bj ?_;exact ak rfl rfl rfl rfl rfl
  obtain ⟨y,k1,k2⟩:=hN2 (by omega) (by omega);rw [k2,decide_eq_true (show 0<=fb by omega),decide_eq_true (show fb<p.nodes.length by omega)] at hb hnext;by_cases h2:y.kind=18
  rotate_left
  ·rw [hb (by rw [decide_eq_false h2];rfl)]
   repeat refine aw ?_
   refine bj ?_;exact ak rfl rfl rfl rfl rfl
  have hnext:=hnext (by rw [decide_eq_true h2];rfl);obtain ⟨c,g1,g2,g3,g4⟩:=hs (by omega) (by omega)
  repeat refine aw ?_
  exact aJ j hnext (by exact Uw.wM)
 have hx:=hp.of p.nodes[i] (List.getElem_mem hlt);have OZ:=hF.kid i hlt;have VQ:=hF.shape i hlt;have hsh:=fun (hh:∀k∈p.nodes[i].of,0<=k/\k<(p.nodes.length:Int))=>zp p.nodes p.nodes[i] hh (by omega);have hnew:(∀k∈p.nodes[i].of,0<=k/\k<(i:Int))->ew p.nodes p.nodes[i]=true->∀(j:Nat) (h:j<p.nodes.length),j<i+1->(∀k∈p.nodes[j].of,0<=k/\k<(j:Int))/\ew p.nodes p.nodes[j]=true:=by
  intro h1 h2 j h hj;by_cases he:j=i
  ·subst he;exact ⟨h1,h2⟩
  ·exact hok j h (by omega)
 obtain ⟨T2,hT2⟩:∃T2:Nat->List (List Dat),∀j,T2 j=fj (oJ (ly p.nodes i++p.nodes[i].of.take j) p.nodes.length):=⟨_,fun _=>rfl⟩
 have e1:T i=T2 0:=by rw [hT,hT2];simp
 have e2:T2 p.nodes[i].of.length=T (i+1):=by rw [hT,hT2,List.take_length,FK hlt]
 have hstep:∀(j:Nat) (h:j<p.nodes[i].of.length),0<=p.nodes[i].of[j]->p.nodes[i].of[j]<p.nodes.length->∃c:Int,(T2 j)[0+p.nodes[i].of[j].toNat]? = some [I c]/\(T2 j).set (0+p.nodes[i].of[j].toNat) (setAt [I c] 0 [I (c+1)])=T2 (j+1)/\0<=c/\c<100000000000:=by
  intro j h h0 h1;obtain ⟨c,g1,g2,g3,g4⟩:=IL (ly p.nodes i++p.nodes[i].of.take j) p.nodes.length _ h0 h1;refine ⟨c,by rw [hT2];exact g1,?_,g3,?_⟩
  ·rw [hT2,hT2,g2,List.take_succ_eq_append_getElem h,List.append_assoc]
  ·have:=zr hp i
   simp at g4;omega
 have hel:(p.nodes.map ndL)[(i:Int).toNat]? = some (ndL p.nodes[i]):=by simp [hlt]
 have hmem:∀(j:Nat) (h:j<p.nodes[i].of.length),p.nodes[i].of[j]∈p.nodes[i].of:=fun j h=>List.getElem_mem h;have hall:(∀(j:Nat) (h:j<p.nodes[i].of.length),0<=p.nodes[i].of[j]/\p.nodes[i].of[j]<(i:Int))->∀k∈p.nodes[i].of,0<=k/\k<(i:Int):=by
  intro h k hk;obtain ⟨j,hj,rfl⟩:=List.mem_iff_getElem.1 hk;exact h j hj
 generalize p.nodes[i]=x at *;have hol:(x.of.map fun i=>[I i]).length=x.of.length:=by simp
 have hoe:∀(j:Nat) (h:j<x.of.length),(x.of.map fun i=>[I i])[(j:Int).toNat]? = some [I x.of[j]]:=by intro j h;simp [h]
 repeat refine aw ?_
 refine dG (fun j:Nat=>⟨[(27,.d (I j)),(26,.d (I ((x.of.map fun i=>[I i]).length:Nat))),(25,.d (bT x.of)),(4,.d (I i)),(5,.ptr 2 0),(19,.d (I i)),(18,.d (I ((p.nodes.map ndL).length:Nat))),(17,.d (bN p.nodes)),(3,.ref 1 0 0 p.nodes.length),(1,.ptr 0 0)],[(2,.var [.d (I x.kind),.d (I x.n),.d (.str x.name),.d (.str x.name2),.d (bT x.of)]),(1,.mt 1 0 (T2 j)),(0,.var [.d (.slice 3 (p.decls.map cI) false),.d (.slice 3 (p.ae.map fuL) false),.d (bN p.nodes)])],3,[],0⟩)
  (fun j=>j<=x.of.length/\∀(m:Nat) (h:m<x.of.length),m<j->0<=x.of[m]/\x.of[m]<(i:Int)) (fun j=>x.of.length - j) 0 (by exact Uw.wM) ⟨by omega,fun m _ h=>by omega⟩ ?_
 rintro j ⟨hj,hpre⟩;by_cases hjl:j<x.of.length
 ·have hk:=OZ x.of[j] (hmem j hjl)
  have hs:=hstep j hjl;have he:=hoe j hjl;have UY:0<=x.of[j]/\x.of[j]<(i:Int)->∀(m:Nat) (h:m<x.of.length),m<j+1->0<=x.of[m]/\x.of[m]<(i:Int):=by
   intro h1 m h hm;by_cases h2:m=j
   ·subst h2;exact h1
   ·exact hpre m h (by omega)
  clear hpre hoe hmem hstep OZ hall;generalize x.of[j]=k at *;by_cases h0:k<0
  ·rw [hk (by omega)]
   repeat refine aw ?_
   exact bj (bj (ak rfl rfl rfl rfl rfl))
  by_cases h1:(i:Int)<=k
  ·rw [hk (by omega)]
   repeat refine aw ?_
   exact bj (bj (ak rfl rfl rfl rfl rfl))
  obtain ⟨c,g1,g2,g3,g4⟩:=hs (by omega) (by omega);have UZ:=UY (by omega)
  repeat refine aw ?_
  exact cv (j+1) ⟨by omega,UZ⟩ (by omega) (by exact Uw.wM)
 obtain rfl:j=x.of.length:=by omega
 have hsh2:=hsh fun k hk=>by have:=hall (fun m h=>hpre m h h) k hk;omega
 have hnew2:=hnew (hall fun m h=>hpre m h h);by_cases hs:ew p.nodes x=true
 ·rw [hs] at hsh2
  have U0:=hnew2 hs
  repeat refine aw ?_
  refine aC ?_
  repeat refine aw ?_
  exact cv (i+1) ⟨by omega,U0⟩ (by omega) (by exact Uw.wM)
 ·have hs:ew p.nodes x=false:=by simpa using hs
  rw [hs] at hsh2;rw [VQ hs]
  repeat refine aw ?_
  refine aC ?_
  repeat refine aw ?_
  exact bj (ak rfl rfl rfl rfl rfl)
end Uw.Tryz
namespace Uw.Tryz
open Go Uw
theorem vk:∀(fs:List Fu) (i:Nat) (o:List Int),(rp fs i o).length=o.length
 | [],_,_=>rfl
 | f::fs,i,o=>by rw [rp,vk fs];simp
theorem sg {i:Nat}:∀(l:List Int) (o:List Int),(l.foldl (fun o k=>o.set k.toNat (o.getD i 0)) o).length=o.length
 | [],_=>rfl
 | k::l,o=>by rw [List.foldl_cons,sg l];simp
theorem rN:∀(l:List (Nat×Nd)) (o:List Int),(fN l o).length=o.length
 | [],_=>rfl
 | (i,x)::r,o=>by rw [fN,rN r,ix,sg]
theorem dT (p:Pg):(aU p).length=p.nodes.length:=by rw [aU,rN,vk];simp
theorem DI {α β:Type}:∀{l:List α} {l' : List β} {x:α},l'.length=l.length->x∈l->∃y,(x,y)∈l.zip l'
 | a::l,[],x,h,_=>by simp at h
 | a::l,b::l',x,h,hx=>by
  rcases List.mem_cons.1 hx with rfl|hx
  ·exact ⟨b,by simp⟩
  ·obtain ⟨y,hy⟩:=DI (l:=l) (l':=l') (by simpa using h) hx
   exact ⟨y,by simp [hy]⟩
structure May (p:Pg):Prop where
 formed:bE p=true
 bound:gk p=false
 twice:iK p=false
 name:nameP p=false
 sort:o9 p=false
 many:lJ p=false
theorem HD {p:Pg} (h:m3 p=0):May p:=by
 unfold m3 at h
 cases h1:bE p<;>cases h2:gk p<;>cases h3:iK p<;>cases h4:nameP p<;>cases h5:o9 p<;>cases h6:lJ p<;>simp [h1,h2,h3,h4,h5,h6] at h
 exact ⟨h1,h2,h3,h4,h5,h6⟩
theorem po {α:Type} {l:List α} (h:l.Nodup) {i j:Nat} (hi:i<l.length) (hj:j<l.length) (he:l[i]=l[j]):i=j:=by
 have h:=List.pairwise_iff_getElem.1 (List.nodup_iff_pairwise_ne.1 h)
 rcases Nat.lt_trichotomy i j with h1|h1|h1
 ·exact absurd he (h i j hi hj h1)
 ·exact h1
 ·exact absurd he.symm (h j i hj hi h1)
theorem mF {p:Pg} {s:Str} {i:Nat} (h:dD p s=some i):∃h:i<p.ae.length,p.ae[i].name=s:=by
 obtain ⟨h1,h2,_⟩:=List.findIdx?_eq_some_iff_getElem.1 h;exact ⟨h1,by simpa using h2⟩
theorem BI {p:Pg} (h:(p.ae.map (·.name)).Nodup) {i:Nat} (hi:i<p.ae.length):dD p p.ae[i].name=some i:=by
 refine List.findIdx?_eq_some_iff_getElem.2 ⟨hi,by simp,fun j hj hji=>?_⟩;have hjl:j<p.ae.length:=by omega
 have e:p.ae[j].name=p.ae[i].name:=by simpa using hji
 have:=po h (i:=j) (j:=i) (by simpa using hjl) (by simpa using hi) (by simpa using e);omega
theorem May.names {p:Pg} (h:May p):(p.decls.map (·.name)).Nodup/\(p.ae.map (·.name)).Nodup/\∀f∈p.ae,rq p [] f.args=false:=by
 have:=h.twice;simp only [iK,Bool.or_eq_false_iff,Bool.not_eq_false',decide_eq_true_eq,List.any_eq_false] at this;exact ⟨this.1.1,this.1.2,fun f hf=>by simpa using this.2 f hf⟩
theorem May.main {p:Pg} (h:May p):∃m,∃hm:m<p.ae.length,dD p gy=some m/\p.ae[m].args=[]:=by
 have h1:=h.name;have h2:=h.many;simp only [nameP,Bool.or_eq_false_iff] at h1;simp only [lJ,Bool.or_eq_false_iff,decide_eq_false_iff_not] at h2
 cases hf:dD p gy with
 | none=>rw [hf] at h1;simp at h1
 | some m=>
  obtain ⟨hm,_⟩:=mF hf;refine ⟨m,hm,rfl,?_⟩;have:=h2.1;rw [argsAt,hf] at this;simp only [Option.getD_some,List.getD,List.getElem?_eq_getElem hm] at this;exact List.eq_nil_of_length_eq_zero (by omega)
theorem May.call {p:Pg} (h:May p) {x:Nd} (hx:x∈p.nodes) (hk:x.kind=10\/x.kind=11):∃k,∃hk:k<p.ae.length,dD p x.name2=some k/\(x.kind=10->x.of.length=p.ae[k].args.length)/\(x.kind=11->p.ae[k].args.length=1):=by
 have h2:=h.many;simp only [lJ,Bool.or_eq_false_iff,decide_eq_false_iff_not,List.any_eq_false] at h2;have h1:=h.name;simp only [nameP,Bool.or_eq_false_iff,List.any_eq_false] at h1;have h3:=h2.2 x hx;obtain ⟨o,ho⟩:∃o,(x,o)∈p.nodes.zip (aU p):=DI (dT p) hx;have h4:=h1.1.2 _ ho;simp only [nT,if_pos hk] at h4
 cases hf:dD p x.name2 with
 | none=>rw [hf] at h4;simp at h4
 | some k=>
  obtain ⟨hkl,_⟩:=mF hf;refine ⟨k,hkl,rfl,fun h10=>?_,fun h11=>?_⟩
  ·simp [manyN,h10,argsAt,hf,hkl] at h3;exact h3
  ·simp [manyN,h11,argsAt,hf,hkl] at h3;exact h3
theorem IP {p:Pg}:∀(l seen:List Str),rq p seen l=false->l.Nodup/\(∀a∈l,a∉seen)/\∀a∈l,bp p a=none
 | [],_,_=>⟨List.nodup_nil,by simp,by simp⟩
 | a::r,seen,h=>by
  simp only [rq,Bool.or_eq_false_iff,decide_eq_false_iff_not] at h;obtain ⟨h1,h2,h3⟩:=IP r (a::seen) h.2;refine ⟨List.nodup_cons.2 ⟨fun hm=>h2 a hm (by simp),h1⟩,?_,?_⟩
  ·intro b hb
   rcases List.mem_cons.1 hb with rfl|hb
   ·exact h.1.2
   ·exact fun hs=>h2 b hb (by simp [hs])
  ·intro b hb
   rcases List.mem_cons.1 hb with rfl|hb
   ·simpa using h.1.1
   ·exact h3 b hb
def Loc (p:Pg) (a l:List Str):Prop:=(∃t,l=a++t)/\l.Nodup/\∀s∈l,bp p s=none
def DJ (p:Pg) (ls:List (List Str)):Prop:=ls.length=p.ae.length/\∀(f:Nat) (h:f<p.ae.length),Loc p p.ae[f].args (ls.getD f [])
theorem DJ.add {p:Pg} {ls:List (List Str)} (h:DJ p ls) (f:Nat) (s:Str) (hs:bp p s=none):DJ p (addLocal ls f s):=by
 unfold addLocal
 split
 ·exact h
 ·rename_i hm
  refine ⟨by simpa using h.1,fun g hg=>?_⟩;by_cases hgf:g=f
  ·subst hgf
   obtain ⟨⟨t,ht⟩,h2,h3⟩:=h.2 g hg;have e:(ls.set g (ls.getD g []++[s])).getD g []=ls.getD g []++[s]:=by simp [h.1,hg]
   rw [e];refine ⟨⟨t++[s],by rw [ht,List.append_assoc]⟩,?_,?_⟩
   ·rw [List.nodup_append]
    exact ⟨h2,by simp,fun a ha b hb=>by simp at hb;subst hb;exact fun e=>hm (e ▸ ha)⟩
   ·intro b hb
    rcases List.mem_append.1 hb with hb|hb
    ·exact h3 b hb
    ·simp at hb;subst hb;exact hs
  ·have e:(ls.set f (ls.getD f []++[s])).getD g []=ls.getD g []:=by simp [List.getD,List.getElem?_set,Ne.symm hgf]
   rw [e];exact h.2 g hg
theorem DJ.go {p:Pg}:∀(r:List (Nd×Int)) (ls:List (List Str)),DJ p ls->DJ p (ei p r ls)
 | [],ls,h=>h
 | (x,o)::r,ls,h=>by
  rw [ei];refine DJ.go r _ ?_
  split
  ·rename_i hl
   refine h.add _ _ ?_;simp only [jl,Bool.and_eq_true] at hl;simpa using hl.2
  ·exact h
theorem May.xO {p:Pg} (h:May p):DJ p (ao p):=by
 refine DJ.go _ _ ⟨by simp,fun f hf=>?_⟩;obtain ⟨h1,_,h3⟩:=IP _ _ (h.names.2.2 p.ae[f] (List.getElem_mem hf));have e:(p.ae.map (·.args)).getD f []=p.ae[f].args:=by simp [List.getD,hf]
 rw [e];exact ⟨⟨[],by simp⟩,h1,h3⟩
theorem May.lof {p:Pg} (h:May p) (k:Nat) (hk:k<p.ae.length):iY p k=(ao p).getD k []:=by
 rw [iY,if_neg (by simp [h.formed];omega)];simp
theorem May.locals {p:Pg} (h:May p) (k:Nat) (hk:k<p.ae.length):Loc p p.ae[k].args (iY p k)/\(iY p k).length<=16:=by
 rw [h.lof k hk];refine ⟨h.xO.2 k hk,?_⟩;have:=h.bound;simp only [gk,Bool.or_eq_false_iff,List.any_eq_false] at this;have hl:k<(ao p).length:=by rw [h.xO.1];exact hk
 have:=this.1.2 (ao p)[k] (List.getElem_mem hl);have e:(ao p).getD k []=(ao p)[k]:=by simp [List.getD,hl]
 rw [e];simpa using this
theorem FN {p:Pg} {s:Str}:bp p s=none<->∀d∈p.decls,d.name≠s:=by
 simp [bp]
theorem HE {p:Pg} (h:(p.decls.map (·.name)).Nodup) {d:Dec} (hd:d∈p.decls):bp p d.name=some d.kind:=by
 unfold bp
 cases hf:p.decls.find? fun e=>decide (e.name=d.name) with
 | none=>
  have:=List.find?_eq_none.1 hf d hd;simp at this
 | some e=>
  have h1:=List.mem_of_find?_eq_some hf;have h2:=List.find?_some hf;simp at h2;obtain ⟨i,hi,rfl⟩:=List.mem_iff_getElem.1 hd;obtain ⟨j,hj,rfl⟩:=List.mem_iff_getElem.1 h1;have:=po h (i:=j) (j:=i) (by simpa using hj) (by simpa using hi) (by simpa using h2);subst this;rfl
theorem May.read {p:Pg} (h:May p) {x:Nd} (hx:x∈p.nodes):(x.kind=8->∃k,bp p x.name=some k/\1<=k)/\(x.kind=2->bp p x.name=some 0\/(bp p x.name=none/\∃k,k<p.ae.length/\x.name∈iY p k)):=by
 obtain ⟨o,ho⟩:=DI (dT p) hx;have h1:=h.name;simp only [nameP,Bool.or_eq_false_iff,List.any_eq_false] at h1;have h1:=h1.1.2 _ ho;have h2:=h.sort;simp only [o9,List.any_eq_false] at h2;have h2:=h2 x hx;refine ⟨fun hk=>?_,fun hk=>?_⟩
 ·simp [nT,hk] at h1
  simp [mZ,hk] at h2
  cases ht:bp p x.name with
  | none=>rw [ht] at h1;simp at h1
  | some k=>
   rw [ht] at h2;refine ⟨k,rfl,?_⟩;simp [fx] at h2
   split at h2
   ·omega
   ·split at h2
    ·omega
    ·split at h2
     ·omega
     ·simp at h2
 ·simp [nT,hk] at h1
  simp [mZ,hk] at h2
  cases ht:bp p x.name with
  | some k=>rw [ht] at h2;simp at h2;exact .inl (by rw [h2])
  | none=>
   have h1:=h1 ht;refine .inr ⟨rfl,o.toNat,?_⟩;have hl:o.toNat<(ao p).length:=by
    rcases Nat.lt_or_ge o.toNat (ao p).length with hl|hl
    ·exact hl
    ·simp [List.getElem?_eq_none hl] at h1
   rw [h.xO.1] at hl;refine ⟨hl,?_⟩;rw [h.lof _ hl];simpa using h1
theorem xh {ns:List Nd}:∀{l:List Nd} {i:Nat},jQ ns i l=true->∀x∈l,∀k∈x.of,0<=k/\k<i+l.length
 | [],_,_,x,hx,_,_=>by simp at hx
 | y::l,i,h,x,hx,k,hk=>by
  simp only [jQ,Bool.and_eq_true] at h
  rcases List.mem_cons.1 hx with rfl|hx
  ·have h:=h.1
   simp only [rn,Bool.and_eq_true,List.all_eq_true] at h;have:=h.1 k hk;simp at this ⊢;omega
  ·have:=xh h.2 x hx k hk
   simp at this ⊢;omega
theorem ye {p:Pg} (h:bE p=true):∀k∈iW p,0<=k/\k<p.nodes.length:=by
 simp only [bE,Bool.and_eq_true,List.all_eq_true] at h;intro k hk
 rcases List.mem_append.1 hk with hk|hk
 ·obtain ⟨x,hx,hk⟩:=List.mem_flatMap.1 hk
  have:=xh h.1.1 x hx k hk;simpa using this
 ·obtain ⟨f,hf,rfl⟩:=List.mem_map.1 hk
  have:=h.1.2 f hf;simp [mY] at this;omega
theorem qe {p:Pg} (h:bE p=true) (k:Nat) (hk:k<p.nodes.length):(iW p).count (k:Int)=1:=by
 simp only [bE,Bool.and_eq_true,List.all_eq_true] at h;simpa using h.2 k (by simpa using hk)
end Uw.Tryz
namespace Uw.Tryz
open Go Uw
theorem vl {α:Type} {x:α}:∀{l:List α} {b i:Nat},(i,x)∈idx b l<->b<=i/\l[i - b]? = some x
 | [],b,i=>by simp [idx]
 | y::l,b,i=>by
  rw [idx,List.mem_cons,vl];constructor
  ·rintro (h|⟨h1,h2⟩)
   ·injection h with h1 h2;subst h1 h2;simp
   ·exact ⟨by omega,by rw [show i - b=(i - (b+1))+1 by omega,List.getElem?_cons_succ];exact h2⟩
  ·rintro ⟨h1,h2⟩
   by_cases he:i=b
   ·subst he;simp at h2;subst h2;exact .inl rfl
   ·refine .inr ⟨by omega,?_⟩
    rw [show i - b=(i - (b+1))+1 by omega,List.getElem?_cons_succ] at h2;exact h2
theorem IQ {α:Type}:∀(l:List α) (b:Nat),(idx b l).Pairwise fun a c=>a.1<c.1
 | [],b=>List.Pairwise.nil
 | y::l,b=>by
  rw [idx];refine List.Pairwise.cons ?_ (IQ l (b+1));rintro ⟨i,x⟩ h;have:=(vl.1 h).1;simp only;omega
theorem FO {α β:Type} (f:α->List β):∀(l:List α) (b:Nat),(idx b l).flatMap (fun y=>f y.2)=l.flatMap f
 | [],b=>rfl
 | y::l,b=>by rw [idx,List.flatMap_cons,List.flatMap_cons,FO f l]
theorem FP {n:Nat} (i:Nat):∀(l:List Int) (o:List Int),o.length=n->(∀k∈l,0<=k/\k<(i:Int))->i<n->∀(j:Nat),(l.foldl (fun o k=>o.set k.toNat (o.getD i 0)) o).getD j 0=if (j:Int)∈l then o.getD i 0 else o.getD j 0
 | [],o,ho,h,hi,j=>by simp
 | k::l,o,ho,h,hi,j=>by
  obtain ⟨h1,h2⟩:=h k (by simp);rw [List.foldl_cons,FP i l _ (by simpa using ho) (fun k hk=>h k (by simp [hk])) hi j];have e:(o.set k.toNat (o.getD i 0)).getD i 0=o.getD i 0:=by
   simp only [List.getD,List.getElem?_set];rw [if_neg (by omega)]
  rw [e];by_cases hj:(j:Int)∈l
  ·rw [if_pos hj,if_pos (by simp [hj])]
  ·rw [if_neg hj]
   by_cases hk:(j:Int)=k
   ·rw [if_pos (by simp [hk])]
    subst hk;simp only [List.getD,List.getElem?_set,Int.toNat_natCast,if_true];rw [if_pos (by omega)];rfl
   ·rw [if_neg (by simp [hk,hj])]
    simp only [List.getD,List.getElem?_set];rw [if_neg (by omega)]
structure Down (n:Nat) (l:List (Nat×Nd)):Prop where
 dec:l.Pairwise fun a c=>c.1<a.1
 kid:∀y∈l,y.1<n/\∀k∈y.2.of,0<=k/\k<(y.1:Int)
 once:(l.flatMap fun y=>y.2.of).Nodup
theorem FQ {n:Nat}:∀(l:List (Nat×Nd)) (o:List Int),o.length=n->Down n l->
  (∀j:Nat,(∀y∈l,(j:Int)∉y.2.of)->(fN l o).getD j 0=o.getD j 0)/\∀y∈l,∀j:Nat,(j:Int)∈y.2.of->(fN l o).getD j 0=(fN l o).getD y.1 0
 | [],o,ho,h=>⟨fun j _=>rfl,by simp⟩
 | (i,x)::r,o,ho,h=>by
  obtain ⟨hi,hx⟩:=h.kid (i,x) (by simp);simp only at hi hx;have hlen:(ix o i x).length=n:=by rw [ix,sg,ho]
  have hon:=h.once;rw [List.flatMap_cons,List.nodup_append] at hon;have hd:=List.pairwise_cons.1 h.dec;have hr:Down n r:=⟨hd.2,fun y hy=>h.kid y (by simp [hy]),hon.2.1⟩
  obtain ⟨a1,a2⟩:=FQ r (ix o i x) hlen hr;have hk:=FP i x.of o ho hx hi;have hki:(ix o i x).getD i 0=o.getD i 0:=by
   rw [ix,hk i,if_neg];intro hm;have:=hx _ hm;omega
  have hii:(fN r (ix o i x)).getD i 0=o.getD i 0:=by
   rw [a1 i ?_,hki];intro y hy hm;have h1:=(hr.kid y hy).2 _ hm;have h2:=hd.1 y hy;simp only at h2;omega
  refine ⟨fun j hj=>?_,fun y hy j hm=>?_⟩
  ·rw [fN,a1 j fun y hy=>hj y (by simp [hy]),ix,hk j,if_neg (hj (i,x) (by simp))]
  ·rw [fN]
   rcases List.mem_cons.1 hy with rfl|hy
   ·rw [hii,a1 j ?_,ix,hk j,if_pos hm]
    intro y hy hm2;exact hon.2.2 _ hm _ (List.mem_flatMap.2 ⟨y,hy,hm2⟩) rfl
   ·exact a2 y hy j hm
theorem zt {p:Pg} (h:bE p=true):(iW p).Nodup:=by
 rw [List.nodup_iff_count];intro k;by_cases hk:k∈iW p
 ·obtain ⟨h1,h2⟩:=ye h k hk
  have:=qe h k.toNat (by omega);rw [show ((k.toNat:Nat):Int)=k by omega] at this;omega
 ·rw [List.count_eq_zero.2 hk];omega
theorem zu:∀(fs:List Fu) (b:Nat) (o:List Int),(∀f∈fs,0<=f.body/\f.body<(o.length:Int))->(fs.map (·.body)).Nodup->∀(i:Nat) (hi:i<fs.length),(rp fs b o).getD fs[i].body.toNat 0=((b+i:Nat):Int)/\∀j:Nat,(∀f∈fs,f.body≠(j:Int))->(rp fs b o).getD j 0=o.getD j 0
 | [],b,o,_,_,i,hi=>by simp at hi
 | f::fs,b,o,h,hn,i,hi=>by
  rw [List.map_cons,List.nodup_cons] at hn;obtain ⟨h1,h2⟩:=h f (by simp);have hrest:∀g∈fs,0<=g.body/\g.body<((o.set f.body.toNat b).length:Int):=fun g hg=>by rw [List.length_set];exact h g (by simp [hg])
  have hno:∀j:Nat,(∀g∈fs,g.body≠(j:Int))->(rp fs (b+1) (o.set f.body.toNat b)).getD j 0=(o.set f.body.toNat b).getD j 0:=by
   intro j hj
   cases fs with
   | nil=>rfl
   | cons g fs=>exact (zu (g::fs) (b+1) _ hrest hn.2 0 (by simp)).2 j hj
  refine ⟨?_,fun j hj=>?_⟩
  ·rw [rp]
   cases i with
   | zero=>
    rw [List.getElem_cons_zero,hno f.body.toNat fun g hg e=>hn.1 (List.mem_map.2 ⟨g,hg,by rw [e];omega⟩)];simp only [List.getD,List.getElem?_set];rw [if_pos trivial,if_pos (by omega)];simp
   | succ i=>
    rw [List.getElem_cons_succ,(zu fs (b+1) _ hrest hn.2 i (by simpa using hi)).1];omega
  ·rw [rp,hno j fun g hg=>hj g (by simp [hg])]
   simp only [List.getD,List.getElem?_set];have:=hj f (by simp);rw [if_neg (by omega)]
structure VR (p:Pg):Prop where
 body:∀(i:Nat) (h:i<p.ae.length),(aU p).getD p.ae[i].body.toNat 0=(i:Int)
 kid:∀(i:Nat) (h:i<p.nodes.length) (j:Nat),(j:Int)∈p.nodes[i].of->(aU p).getD j 0=(aU p).getD i 0
theorem owns {p:Pg} (h:bE p=true):VR p:=by
 have hn:=zt h;rw [iW,List.nodup_append] at hn;have OZ:∀(i:Nat) (hi:i<p.nodes.length) (k:Int),k∈p.nodes[i].of->0<=k/\k<(i:Int):=by
  intro i hi k hk;have h1:=h;simp only [bE,Bool.and_eq_true] at h1;have key:∀(l:List Nd) (b:Nat),jQ p.nodes b l=true->∀(i:Nat) (hi:i<l.length) (k:Int),k∈l[i].of->0<=k/\k<((b+i:Nat):Int):=by
   intro l
   induction l with
   | nil=>intro b _ i hi;simp at hi
   | cons y l ih=>
    intro b hb i hi k hk;simp only [jQ,Bool.and_eq_true] at hb
    cases i with
    | zero=>
     have h2:=hb.1;simp only [rn,Bool.and_eq_true,List.all_eq_true] at h2;have:=h2.1 k hk;simpa using this
    | succ i=>
     have:=ih (b+1) hb.2 i (by simpa using hi) k hk;omega
  have:=key p.nodes 0 h1.1.1 i hi k hk;omega
 have j6:((idx 0 p.nodes).reverse.flatMap fun y=>y.2.of).Nodup:=by
  refine (List.Perm.nodup_iff (List.Perm.flatMap_right _ (List.reverse_perm _))).2 ?_;rw [FO (fun x:Nd=>x.of)];exact hn.1
 have hdown:Down p.nodes.length (idx 0 p.nodes).reverse:=by
  refine ⟨List.pairwise_reverse.2 (IQ _ _),?_,j6⟩;rintro ⟨i,x⟩ hy;obtain ⟨_,h2⟩:=vl.1 (List.mem_reverse.1 hy);rw [Nat.sub_zero] at h2;obtain ⟨h3,rfl⟩:=List.getElem?_eq_some_iff.1 h2;exact ⟨h3,fun k hk=>OZ i h3 k hk⟩
 have hlen:(rp p.ae 0 (List.replicate p.nodes.length 0)).length=p.nodes.length:=by rw [vk];simp
 obtain ⟨a1,a2⟩:=FQ _ _ hlen hdown;refine ⟨fun i hi=>?_,fun i hi j hj=>?_⟩
 ·have hb:0<=p.ae[i].body:=(ye h _ (List.mem_append.2 (.inr (List.mem_map.2 ⟨_,List.getElem_mem hi,rfl⟩)))).1
  rw [aU,a1 _ ?_]
  ·rw [(zu p.ae 0 _ (fun f hf=>by simpa using ye h _ (List.mem_append.2 (.inr (List.mem_map.2 ⟨_,hf,rfl⟩)))) hn.2.1 i hi).1]
   omega
  ·rintro ⟨m,x⟩ hy hm
   obtain ⟨_,h2⟩:=vl.1 (List.mem_reverse.1 hy);have hx:x∈p.nodes:=List.mem_of_getElem? h2;simp only at hm;rw [show ((p.ae[i].body.toNat:Nat):Int)=p.ae[i].body by omega] at hm;exact hn.2.2 _ (List.mem_flatMap.2 ⟨x,hx,hm⟩) _ (List.mem_map.2 ⟨_,List.getElem_mem hi,rfl⟩) rfl
 ·exact a2 (i,p.nodes[i]) (List.mem_reverse.2 (vl.2 ⟨Nat.zero_le _,by simp⟩)) j hj
end Uw.Tryz
namespace Uw.Tryz
open Go Uw
theorem hQ {p:Pg} (h:bE p=true) (i:Nat) (hi:i<p.nodes.length):(∀k∈p.nodes[i].of,0<=k/\k<(i:Int))/\ew p.nodes p.nodes[i]=true:=by
 have h1:=h;simp only [bE,Bool.and_eq_true] at h1;have key:∀(l:List Nd) (b:Nat),jQ p.nodes b l=true->∀(i:Nat) (hi:i<l.length),(∀k∈l[i].of,0<=k/\k<((b+i:Nat):Int))/\ew p.nodes l[i]=true:=by
  intro l
  induction l with
  | nil=>intro b _ i hi;simp at hi
  | cons y l ih=>
   intro b hb i hi;simp only [jQ,Bool.and_eq_true] at hb
   cases i with
   | zero=>
    have h2:=hb.1;simp only [rn,Bool.and_eq_true,List.all_eq_true] at h2;exact ⟨fun k hk=>by simpa using h2.1 k hk,h2.2⟩
   | succ i=>
    obtain ⟨h3,h4⟩:=ih (b+1) hb.2 i (by simpa using hi);exact ⟨fun k hk=>by have:=h3 k hk;omega,h4⟩
 obtain ⟨h3,h4⟩:=key p.nodes 0 h1.1.1 i hi;exact ⟨fun k hk=>by have:=h3 k hk;omega,h4⟩
theorem lg {p:Pg} (h:bE p=true) (i:Nat) (hi:i<p.ae.length):0<=p.ae[i].body/\p.ae[i].body<p.nodes.length/\cq p.nodes p.ae[i].body=18:=by
 simp only [bE,Bool.and_eq_true,List.all_eq_true] at h;have:=h.1.2 _ (List.getElem_mem hi);simp only [mY,Bool.and_eq_true,decide_eq_true_eq] at this;exact ⟨this.1.1,this.1.2,this.2⟩
theorem BJ {p:Pg} (h:bE p=true) (k:Nat) (hk:k<p.nodes.length) (hb:∀(i:Nat) (hi:i<p.ae.length),p.ae[i].body≠(k:Int)):∃i,∃hi:i<p.nodes.length,(k:Int)∈p.nodes[i].of:=by
 have h1:=qe h k hk;have h2:(k:Int)∈iW p:=List.count_pos_iff.1 (by omega)
 rcases List.mem_append.1 h2 with h3|h3
 ·obtain ⟨x,hx,hk⟩:=List.mem_flatMap.1 h3
  obtain ⟨i,hi,rfl⟩:=List.mem_iff_getElem.1 hx;exact ⟨i,hi,hk⟩
 ·obtain ⟨f,hf,he⟩:=List.mem_map.1 h3
  obtain ⟨i,hi,rfl⟩:=List.mem_iff_getElem.1 hf;exact absurd he (hb i hi)
structure Ups (p:Pg) (own:List Int):Prop where
 len:own.length=p.nodes.length
 body:∀(i:Nat) (h:i<p.ae.length) (k:Nat),k<p.nodes.length->p.ae[i].body=(k:Int)->own.getD k 0=(i:Int)
 kid:∀(i:Nat) (h:i<p.nodes.length) (k:Nat),(k:Int)∈p.nodes[i].of->own.getD k 0=own.getD i 0/\k<i
 up:∀(k:Nat),k<p.nodes.length->(∀(i:Nat) (hi:i<p.ae.length),p.ae[i].body≠(k:Int))->(∀(i:Nat) (hi:i<p.nodes.length),(k:Int)∉p.nodes[i].of)->False
theorem zw {p:Pg} (h:bE p=true):Ups p (aU p):=by
 have ho:=owns h;refine ⟨dT p,fun i hi k hk e=>?_,fun i hi k hm=>⟨ho.kid i hi k hm,?_⟩,fun k hk h1 h2=>?_⟩
 ·have:=ho.body i hi
  rw [e] at this;simpa using this
 ·have:=(hQ h i hi).1 _ hm;omega
 ·obtain ⟨i,hi,hm⟩:=BJ h k hk h1
  exact h2 i hi hm
theorem zx {p:Pg} (h:bE p=true):∀(d k:Nat),k<p.nodes.length->p.nodes.length - k<=d->0<=(aU p).getD k 0/\(aU p).getD k 0<p.ae.length
 | 0,k,hk,hd=>by omega
 | d+1,k,hk,hd=>by
  have hu:=zw h;by_cases hb:∃(i:Nat) (hi:i<p.ae.length),p.ae[i].body=(k:Int)
  ·obtain ⟨i,hi,e⟩:=hb
   rw [hu.body i hi k hk e];omega
  ·obtain ⟨i,hi,hm⟩:=BJ h k hk fun i hi e=>hb ⟨i,hi,e⟩
   obtain ⟨e,hlt⟩:=hu.kid i hi k hm;rw [e];exact zx h d i hi (by omega)
def JL (p:Pg) (f:Int):List (Nd×Int)->List Str->List Str
 | [],l=>l
 | (x,o)::r,l=>JL p f r (if jl p x=true/\o=f/\x.name∉l then l++[x.name] else l)
theorem DK (ls:List (List Str)) (g f:Nat) (s:Str) (hf:f<ls.length):(addLocal ls g s).getD f []=if g=f/\s∉ls.getD f [] then ls.getD f []++[s] else ls.getD f []:=by
 unfold addLocal;by_cases hg:g=f
 ·subst hg
  by_cases hm:s∈ls.getD g []
  ·rw [if_pos hm,if_neg fun h=>h.2 hm]
  ·rw [if_neg hm,if_pos ⟨rfl,hm⟩]
   simp [List.getD,List.getElem?_set,hf]
 ·rw [if_neg (fun h:g=f/\s∉ls.getD f []=>hg h.1)]
  split
  ·rfl
  ·simp [List.getD,List.getElem?_set,hg]
theorem vm (ls:List (List Str)) (g:Nat) (s:Str):(addLocal ls g s).length=ls.length:=by
 unfold addLocal
 split<;>simp
theorem ue {p:Pg} (f:Nat):∀(r:List (Nd×Int)) (ls:List (List Str)),f<ls.length->(∀y∈r,0<=y.2)->(ei p r ls).getD f []=JL p f r (ls.getD f [])
 | [],ls,_,_=>rfl
 | (x,o)::r,ls,hf,h=>by
  have h0:=h (x,o) (by simp);simp only at h0;rw [ei,JL];by_cases hl:jl p x=true
  ·rw [if_pos hl,ue f r _ (by rw [vm];exact hf) fun y hy=>h y (by simp [hy]),DK _ _ _ _ hf]
   congr 1
   by_cases ho:o=(f:Int)
   ·subst ho;simp [hl]
   ·rw [if_neg (by omega),if_neg (by simp [ho])]
  ·rw [if_neg hl,if_neg (by simp [hl]),ue f r ls hf fun y hy=>h y (by simp [hy])]
theorem FR {p:Pg} (h:bE p=true) (f:Nat) (hf:f<p.ae.length):(ao p).getD f []=JL p f (p.nodes.zip (aU p)) p.ae[f].args:=by
 rw [ao,ue f _ _ (by simpa using hf)]
 ·simp [List.getD,hf]
 ·rintro ⟨x,o⟩ hy
  obtain ⟨i,hi,he⟩:=List.mem_iff_getElem.1 hy;rw [List.length_zip] at hi;have:=zx h _ i (by omega) (Nat.le_refl _);rw [List.getElem_zip] at he;injection he with e1 e2
  rw [<- e2];have e:(aU p).getD i 0=(aU p)[i]'(by omega):=by simp [List.getD,show i<(aU p).length by omega]
  rw [e] at this;exact this.1
end Uw.Tryz
namespace Uw.Tryz
open Go Uw
abbrev MS:=List (nB×Dat)
theorem fy:∀(es:MS) (k x:nB) (d:Dat),aW (dJ es k d) x=if x=k then some d else aW es x
 | [],k,x,d=>by
  simp only [dJ,aW];by_cases h:x=k<;>simp [h]
 | (k0,v)::es,k,x,d=>by
  simp only [dJ];by_cases h:k=k0
  ·subst h
   simp only [decide_true,aW];by_cases hx:x=k<;>simp [hx]
  ·simp only [decide_eq_false h,aW]
   by_cases hx:x=k0
   ·subst hx
    simp [Ne.symm h]
   ·simp only [decide_eq_false hx]
    exact fy es k x d
theorem zy:∀(es:MS) (k:nB) (d:Dat),(dJ es k d).length=es.length+if (aW es k).isSome then 0 else 1
 | [],k,d=>rfl
 | (k0,v)::es,k,d=>by
  simp only [dJ,aW];by_cases h:k=k0
  ·subst h;simp
  ·simp only [decide_eq_false h,List.length_cons,zy es k d];omega
def hZ (es:MS) (d:Dec):MS:=if (aW es (.s d.name)).isSome then es else dJ es (.s d.name) (I d.kind)
def thE (ds:List Dec):MS:=ds.foldl hZ []
theorem L9 (ds:List Dec) (d:Dec):thE (ds++[d])=hZ (thE ds) d:=by rw [thE,List.foldl_append];rfl
theorem zz (es:MS) (d:Dec) (s:Str):aW (hZ es d) (.s s)=(aW es (.s s)).or (if d.name=s then some (I d.kind) else none):=by
 unfold hZ
 split
 ·rename_i h
  by_cases he:d.name=s
  ·subst he
   cases hm:aW es (.s d.name) with
   | none=>rw [hm] at h;cases h
   | some v=>rfl
  ·rw [if_neg he];simp
 ·rename_i h
  rw [fy];by_cases he:d.name=s
  ·subst he
   simp only [if_true]
   cases hm:aW es (.s d.name) with
   | none=>rfl
   | some v=>rw [hm] at h;simp at h
  ·rw [if_neg he,if_neg (by simp;exact fun e=>he e.symm)];simp
theorem zA:∀(ds:List Dec) (es:MS) (s:Str),aW (ds.foldl hZ es) (.s s)=(aW es (.s s)).or ((ds.find? fun d=>decide (d.name=s)).map fun d=>I d.kind)
 | [],es,s=>by simp
 | d::ds,es,s=>by
  rw [List.foldl_cons,zA ds,zz,List.find?_cons];by_cases h:d.name=s
  ·simp [h]
  ·simp [h]
theorem wn (p:Pg) (s:Str):aW (thE p.decls) (.s s)=(bp p s).map I:=by
 rw [thE,zA,bp]
 cases p.decls.find? fun d=>decide (d.name=s)<;>rfl
theorem HF (es:MS) (d:Dec):(hZ es d).length=es.length+if (aW es (.s d.name)).isSome then 0 else 1:=by
 unfold hZ
 split
 ·simp
 ·rename_i h
  rw [zy];simp [h]
theorem zB:∀(ds:List Dec) (es:MS),(ds.foldl hZ es).length<=es.length+ds.length/\((ds.foldl hZ es).length=es.length+ds.length<->(ds.map (·.name)).Nodup/\∀d∈ds,aW es (.s d.name)=none)
 | [],es=>by simp
 | d::ds,es=>by
  obtain ⟨h1,h2⟩:=zB ds (hZ es d);rw [List.foldl_cons];rw [HF] at h1 h2
  cases hm:aW es (.s d.name) with
  | some v=>
   rw [hm] at h1 h2;simp only [Option.isSome_some,if_true,Nat.add_zero] at h1 h2;refine ⟨by simp;omega,⟨fun h=>by simp at h;omega,fun h=>?_⟩⟩;have:=h.2 d (by simp);rw [hm] at this;cases this
  | none=>
   rw [hm] at h1 h2;simp only [Option.isSome_none,Bool.false_eq_true,if_false] at h1 h2;refine ⟨by simp;omega,?_⟩;have e:(ds.foldl hZ (hZ es d)).length=es.length+(d::ds).length<->(ds.foldl hZ (hZ es d)).length=es.length+1+ds.length:=by simp;omega
   rw [e,h2,List.map_cons,List.nodup_cons];have hg:∀s,aW (hZ es d) (.s s)=(aW es (.s s)).or (if d.name=s then some (I d.kind) else none):=zz es d;constructor
   ·rintro ⟨g1,g2⟩
    refine ⟨⟨fun hmem=>?_,g1⟩,fun x hx=>?_⟩
    ·obtain ⟨x,hx,he⟩:=List.mem_map.1 hmem
     have:=g2 x hx;rw [hg,he,if_pos rfl,hm] at this;cases this
    ·rcases List.mem_cons.1 hx with rfl|hx
     ·exact hm
     ·have:=g2 x hx
      rw [hg] at this
      cases hmx:aW es (.s x.name) with
      | none=>rfl
      | some v=>rw [hmx] at this;cases this
   ·rintro ⟨⟨g0,g1⟩,g2⟩
    refine ⟨g1,fun x hx=>?_⟩;rw [hg,g2 x (by simp [hx]),if_neg (fun e=>g0 (List.mem_map.2 ⟨x,hx,e.symm⟩))];rfl
set_option maxRecDepth 4000 in
set_option maxHeartbeats 4000000 in
theorem nh (p:Pg) (hp:p.decls.length<100000):bk P0 ry [.agg [.d (.slice 3 (p.decls.map cI) false),.d (.slice 3 (p.ae.map fuL) false),.d (.slice 5 (p.nodes.map ndL) false)]] [] (.hnd 0) [.map none (thE p.decls)]:=by
 have hdl:(p.decls.map cI).length=p.decls.length:=by simp
 obtain ⟨E,hE⟩:∃E:Nat->MS,∀j,E j=thE (p.decls.take j):=⟨_,fun _=>rfl⟩
 have e0:([]:MS)=E 0:=by rw [hE];rfl
 have e1:thE p.decls=E p.decls.length:=by rw [hE,List.take_length]
 have hel:∀(j:Nat) (h:j<p.decls.length),(p.decls.map cI)[(j:Int).toNat]? = some (cI p.decls[j]):=by intro j h;simp [h]
 have hst:∀(j:Nat) (h:j<p.decls.length),((∃v,aW (E j) (.s p.decls[j].name)=some (I v))/\E j=E (j+1))\/(aW (E j) (.s p.decls[j].name)=none/\dJ (E j) (.s p.decls[j].name) (I p.decls[j].kind)=E (j+1)):=by
  intro j h;have e:E (j+1)=hZ (E j) p.decls[j]:=by rw [hE,hE,List.take_succ_eq_append_getElem h,L9]
  rw [e];unfold hZ
  cases hm:aW (E j) (.s p.decls[j].name) with
  | some v=>
   have:=wn { p with decls:=p.decls.take j } p.decls[j].name;rw [<- hE] at this;rw [hm] at this
   cases ht:bp { p with decls:=p.decls.take j } p.decls[j].name with
   | none=>rw [ht] at this;cases this
   | some k=>rw [ht] at this;injection this with this;subst this;exact .inl ⟨⟨k,rfl⟩,by simp⟩
  | none=>exact .inr ⟨rfl,by simp⟩
 rw [e1];clear hE e1;refine aG xJ rfl ?_
 repeat refine aw ?_
 refine cb p.decls.length (fun j:Nat=>⟨[(12,.d (I j)),(11,.d (I ((p.decls.map cI).length:Nat))),(10,.d (.slice 3 (p.decls.map cI) false)),(3,.hnd 1)],[(1,.map none (E j))],2,[],0⟩) (fun _=>True) (by rw [<- e0];exact Uw.wM) (fun _=>?_) (fun j hj _=>?_)
 ·repeat refine aw ?_
  refine aC ?_
  repeat refine aw ?_
  exact aF 0 rfl rfl (Weak.eqs [(0,1)] rfl rfl rfl rfl rfl rfl rfl rfl rfl rfl)
 have he:=hel j hj;have hs:=hst j hj;clear hel hst;generalize p.decls[j]=d at *;obtain ⟨dk,ds,dn⟩:=d;have he:(p.decls.map cI)[(j:Int).toNat]? = some [I dk,.str ds,I dn]:=he;simp only at hs
 rcases hs with ⟨⟨v,hv⟩,h2⟩|⟨hv,h2⟩
 ·repeat (first|refine aw ?_|refine m1 ?_)
  exact aJ j trivial (by exact Uw.wM)
 ·repeat (first|refine aw ?_|refine m1 ?_)
  exact aJ j trivial (by exact Uw.wM)
end Uw.Tryz
namespace Go.Proofs
open Go.RowKit Go.Shelf
attribute [local go_sem] Oper.semAt_some
set_option maxRecDepth 100000 in
set_option maxHeartbeats 2000000 in
theorem Tryz.FT (l Bs b off len cap:Nat) (C:Nat->Value) (hreach:len<1000000) (J:Nat->World->Prop)
  (hY:∀k W1,J k W1->k<len->YieldAt Fence.wide 0 Tryz.prog l #[.int .i64 ((len - 1 - k:Nat):Int),.agg #[C ((len - 1 - k) * 5),C ((len - 1 - k) * 5+1),C ((len - 1 - k) * 5+2),C ((len - 1 - k) * 5+3),C ((len - 1 - k) * 5+4)]] W1 fun e W'=>e = .returned (.bool true)/\J (k+1) W')
  (hOK:∀k W1,J k W1->W1.cell? ⟨Bs,0,none⟩=some (.slice (some ⟨b,off,none⟩) len cap)/\∀m,m<len * 5->W1.cell? ⟨b,off+m,none⟩=some (C m))
  (W:World) (h0:J 0 W) :
  CallsIn Fence.wide 0 Tryz.prog 118 #[.func (.yield l) #[] #[],.pointer (some ⟨Bs,0,none⟩)] W fun e W'=>(∃v,e = .returned v)/\J len W':=by
 refine callsIn_of_wp Tryz.func118 rfl trivial ?_ rfl;simp only [Tryz.ntmps118,List.size_toArray,List.length_cons,List.length_nil,Nat.reduceAdd,Nat.reduceSub,Array.replicate_succ,Array.replicate_zero,List.push_toArray,List.append_toArray,List.nil_append,List.cons_append];have hB:=(hOK 0 W h0).1
 gi_wp2
 gi_loopw [3] (fun i wr=>∃k:Nat,k<=len/\i = .int .i64 ((len:Int) - 1 - k)/\J k wr) (fun i _=>(intOf i+1).toNat)
 case atStart=>exact ⟨0,Nat.zero_le _,by simp,h0⟩
 case round=>
  obtain ⟨k,hk,rfl,hJs⟩:=hrel;obtain ⟨hB2,hC⟩:=hOK k wr hJs;by_cases hlt:k<len
  ·obtain ⟨fn,tmps,assign,body,hy,hR⟩:=hY k wr hJs hlt
   have he:((len - 1 - k:Nat):Int)=(len:Int) - 1 - k:=by omega
   rw [he] at hy;have c0:wr.cell? ⟨b,off+(len - 1 - k) * 5,none⟩=some (C ((len - 1 - k) * 5)):=hC _ (by omega);have c1:wr.cell? ⟨b,off+(len - 1 - k) * 5+1,none⟩=some (C ((len - 1 - k) * 5+1)):=by have:=hC ((len - 1 - k) * 5+1) (by omega);rwa [<- Nat.add_assoc] at this
   have c2:wr.cell? ⟨b,off+(len - 1 - k) * 5+2,none⟩=some (C ((len - 1 - k) * 5+2)):=by have:=hC ((len - 1 - k) * 5+2) (by omega);rwa [<- Nat.add_assoc] at this
   have c3:wr.cell? ⟨b,off+(len - 1 - k) * 5+3,none⟩=some (C ((len - 1 - k) * 5+3)):=by have:=hC ((len - 1 - k) * 5+3) (by omega);rwa [<- Nat.add_assoc] at this
   have c4:wr.cell? ⟨b,off+(len - 1 - k) * 5+4,none⟩=some (C ((len - 1 - k) * 5+4)):=by have:=hC ((len - 1 - k) * 5+4) (by omega);rwa [<- Nat.add_assoc] at this
   gi_wp2
   refine ⟨rfl,hR.mono ?_⟩;rintro e W3 ⟨rfl,hJ3⟩
   gi_wp2
   go_roundw
   case rel=>exact ⟨k+1,by omega,by simp;omega,hJ3⟩
   case measure=>simp [intOf];omega
  ·obtain rfl:k=len:=by omega
   gi_wp2
   go_end0
   exact ⟨⟨_,rfl⟩,hJs⟩
set_option maxRecDepth 100000 in
set_option maxHeartbeats 2000000 in
theorem Tryz.DL (l Bs:Nat) (x:Option Addr) (J:Nat->World->Prop) (hOK:∀k W1,J k W1->W1.cell? ⟨Bs,0,none⟩=some (.slice x 0 0)) (W:World) (h0:J 0 W) :
  CallsIn Fence.wide 0 Tryz.prog 118 #[.func (.yield l) #[] #[],.pointer (some ⟨Bs,0,none⟩)] W fun e W'=>(∃v,e = .returned v)/\J 0 W':=by
 refine callsIn_of_wp Tryz.func118 rfl trivial ?_ rfl;simp only [Tryz.ntmps118,List.size_toArray,List.length_cons,List.length_nil,Nat.reduceAdd,Nat.reduceSub,Array.replicate_succ,Array.replicate_zero,List.push_toArray,List.append_toArray,List.nil_append,List.cons_append];have hB:=hOK 0 W h0
 gi_wp2
 gi_loopw [3] (fun i wr=>i = .int .i64 (-1)/\J 0 wr) (fun i _=>0)
 case atStart=>exact ⟨rfl,h0⟩
 case round=>
  obtain ⟨rfl,hJs⟩:=hrel
  gi_wp2
  go_end0
  exact ⟨⟨_,rfl⟩,hJs⟩
end Go.Proofs
namespace Uw.Tryz
open Go Uw Go.RowKit
theorem FU {w:World} {J:Nat->Nat->Prop} {b k:Nat}:∀{xs:List (List Dat)} {o:Nat},cB w J b k o xs->∀(i:Nat) (h:i<xs.length),dO w J b (o+i * k) xs[i]
 | x::xs,o,h,0,hi=>by simpa using h.2.1
 | x::xs,o,h,i+1,hi=>by
  have:=FU h.2.2 i (by simpa using hi);rw [show o+(i+1) * k=o+k+i * k by rw [Nat.add_mul];omega];exact this
structure mh (ns:List Nd) (b off:Nat) (C:Nat->Value) (c:Cx):Prop where
 rel:∀(i:Nat) (h:i<ns.length),dO c.w (Imm c) b (off+i * 5) (ndL ns[i])
 cell:∀m,m<ns.length * 5->c.w.cell? ⟨b,off+m,none⟩=some (C m)
 imm:∀m,m<ns.length * 5->Imm c b (off+m)
theorem mh.of [Glob] {ns:List Nd} {b off:Nat} {c:Cx} (h:∀(i:Nat) (h:i<ns.length),dO c.w (Imm c) b (off+i * 5) (ndL ns[i])):mh ns b off (fun m=>(c.w.cell? ⟨b,off+m,none⟩).getD undef) c:=by
 have key:∀m,m<ns.length * 5->(∃v,c.w.cell? ⟨b,off+m,none⟩=some v)/\Imm c b (off+m):=by
  intro m hm;have hi:m / 5<ns.length:=by omega
  obtain ⟨⟨v0,a0,i0,_⟩,⟨v1,a1,i1,_⟩,⟨v2,a2,i2,_⟩,⟨v3,a3,i3,_⟩,⟨v4,a4,i4,_⟩,_⟩:=h (m / 5) hi;have hm5:m % 5=0\/m % 5=1\/m % 5=2\/m % 5=3\/m % 5=4:=by omega
  rcases hm5 with e|e|e|e|e
  ·rw [show off+m=off+m / 5 * 5 by omega];exact ⟨⟨v0,a0⟩,i0⟩
  ·rw [show off+m=off+m / 5 * 5+1 by omega];exact ⟨⟨v1,a1⟩,i1⟩
  ·rw [show off+m=off+m / 5 * 5+1+1 by omega];exact ⟨⟨v2,a2⟩,i2⟩
  ·rw [show off+m=off+m / 5 * 5+1+1+1 by omega];exact ⟨⟨v3,a3⟩,i3⟩
  ·rw [show off+m=off+m / 5 * 5+1+1+1+1 by omega];exact ⟨⟨v4,a4⟩,i4⟩
 refine ⟨h,fun m hm=>?_,fun m hm=>(key m hm).2⟩;obtain ⟨v,hv⟩:=(key m hm).1;rw [hv];rfl
theorem mh.agg [Glob] {ns:List Nd} {b off:Nat} {C:Nat->Value} {c:Cx} (h:mh ns b off C c) (i:Nat) (hi:i<ns.length):aE c.w (Imm c) (.agg (ndL ns[i])) (.agg #[C (i * 5),C (i * 5+1),C (i * 5+2),C (i * 5+3),C (i * 5+4)]):=by
 obtain ⟨⟨v0,a0,_,_,r0⟩,⟨v1,a1,_,_,r1⟩,⟨v2,a2,_,_,r2⟩,⟨v3,a3,_,_,r3⟩,⟨v4,a4,_,_,r4⟩,_⟩:=h.rel i hi;have e:∀(m:Nat) (v:Value),m<5->c.w.cell? ⟨b,off+i * 5+m,none⟩=some v->v=C (i * 5+m):=by
  intro m v hm hv;have:=h.cell (i * 5+m) (by omega);rw [<- Nat.add_assoc,hv] at this;injection this
 obtain rfl:=e 0 v0 (by omega) a0;obtain rfl:=e 1 v1 (by omega) a1;obtain rfl:=e 2 v2 (by omega) a2;obtain rfl:=e 3 v3 (by omega) a3;obtain rfl:=e 4 v4 (by omega) a4;exact ⟨_,rfl,_,_,rfl,r0,_,_,rfl,r1,_,_,rfl,r2,_,_,rfl,r3,_,_,rfl,r4,rfl⟩
def IR (ns:List Nd) (b off:Nat) (C:Nat->Value):Fr where
 K:=0
 p:=mh ns b off C
 ok:=fun c c' he h=>⟨fun i hi=>dO.keep he.keeps _ _ _ (h.rel i hi),fun m hm=>((he.keeps b _ (h.imm m hm)).2).trans (h.cell m hm),fun m hm=>(he.keeps b _ (h.imm m hm)).1⟩
end Uw.Tryz
namespace Uw.Tryz
open Go Uw Go.RowKit
abbrev pgV (p:Pg):Blk:=.var [.d (.slice 3 (p.decls.map cI) false),.d (.slice 3 (p.ae.map fuL) false),.d (bN p.nodes)]
abbrev owR:fp:=[(3,.ptr 2 0),(1,.ptr 0 0)]
abbrev owH (p:Pg) (o:List (List Dat)):Heap:=[(2,.var [.ref 1 0 0 p.nodes.length]),(1,.mt 1 0 o),(0,pgV p)]
def owF (p:Pg) (j:Nat):List Int:=rp (p.ae.take j) 0 (List.replicate p.nodes.length 0)
theorem BK:∀(fs:List Fu) (f:Fu) (b:Nat) (o:List Int),rp (fs++[f]) b o=(rp fs b o).set f.body.toNat ((b+fs.length:Nat):Int)
 | [],f,b,o=>by simp [rp]
 | g::fs,f,b,o=>by
  rw [List.cons_append,rp,rp,BK fs f]
  congr 2
  simp;omega
theorem IU (p:Pg) (j:Nat):(owF p j).length=p.nodes.length:=by rw [owF,vk];simp
theorem Mc (p:Pg) (j:Nat) (h:j<p.ae.length):owF p (j+1)=(owF p j).set p.ae[j].body.toNat (j:Int):=by
 rw [owF,owF,List.take_succ_eq_append_getElem h,BK];simp;congr 1;omega
theorem DN {o:List Int} {k:Int} (h:k.toNat<o.length):∃c,(fj o)[0+k.toNat]? = some [I c]/\c=o.getD k.toNat 0:=by
 refine ⟨o.getD k.toNat 0,?_,rfl⟩;rw [Nat.zero_add,fj,List.getElem?_map,List.getElem?_eq_getElem h];simp [List.getD,h]
theorem FV {o:List Int} {k:Nat} {c v:Int}:(fj o).set (0+k) (setAt [I c] 0 [I v])=fj (o.set k v):=by
 rw [Nat.zero_add,fj,fj,List.map_set];rfl
def owK (p:Pg) (k:Nat):List Int:=fN ((idx 0 p.nodes).reverse.take k) (owF p p.ae.length)
theorem O1 (p:Pg) (k:Nat):(owK p k).length=p.nodes.length:=by rw [owK,rN,IU]
theorem vn:∀(l:List (Nat×Nd)) (y:Nat×Nd) (o:List Int),fN (l++[y]) o=ix (fN l o) y.1 y.2
 | [],y,o=>rfl
 | x::l,y,o=>by rw [List.cons_append,fN,fN,vn l]
theorem vo {α:Type}:∀(l:List α) (b:Nat),(idx b l).length=l.length
 | [],_=>rfl
 | x::l,b=>by rw [idx,List.length_cons,List.length_cons,vo l]
theorem IV {α:Type}:∀(l:List α) (b i:Nat) (h:i<l.length),(idx b l)[i]'(by rw [vo];exact h)=(b+i,l[i])
 | x::l,b,0,h=>rfl
 | x::l,b,i+1,h=>by
  have:=IV l (b+1) i (by simpa using h);simp only [idx,List.getElem_cons_succ];rw [this,show b+1+i=b+(i+1) by omega]
theorem Md (p:Pg) (k:Nat) (h:k<p.nodes.length):owK p (k+1)=ix (owK p k) (p.nodes.length - 1 - k) p.nodes[p.nodes.length - 1 - k]:=by
 have hl:((idx 0 p.nodes).reverse).length=p.nodes.length:=by rw [List.length_reverse,vo]
 rw [owK,owK,List.take_succ_eq_append_getElem (by rw [hl];exact h),vn,List.getElem_reverse];have:=IV p.nodes 0 (p.nodes.length - 1 - k) (by omega);simp only [vo];rw [this];simp
theorem O2 (p:Pg):owK p p.nodes.length=aU p:=by
 rw [owK,aU,List.take_of_length_le (by rw [List.length_reverse,vo];exact Nat.le_refl _),owF,List.take_of_length_le (Nat.le_refl _)]
set_option maxRecDepth 4000 in
set_option maxHeartbeats 4000000 in
theorem VT (p:Pg):WT P0 (fun e s=>e = .normal/\Weak s ⟨[(1,.ptr 0 0)],[(0,pgV p)],1,[],0⟩) (exec nW (oz [pgD p]) Tree.done):=by
 repeat refine aw ?_
 refine aY ⟨rfl,?_⟩;exact Uw.wM
set_option maxRecDepth 4000 in
set_option maxHeartbeats 4000000 in
theorem VU (p:Pg) (hn:p.nodes.length<100000):WT P0 (fun e s=>e = .normal/\Weak s ⟨owR,owH p (fj (owF p 0)),3,[],0⟩) (exec nX ⟨[(1,.ptr 0 0)],[(0,pgV p)],1,[],0⟩ Tree.done):=by
 have hnl:(p.nodes.map ndL).length=p.nodes.length:=by simp
 have e0:List.replicate (((p.nodes.map ndL).length:Nat):Int).toNat [I 0]=fj (owF p 0):=by
  rw [owF,List.take_zero,rp,fj,List.map_replicate,hnl];simp
 have hmk:(decide ((0:Int)<=((p.nodes.map ndL).length:Nat))&&decide ((((p.nodes.map ndL).length:Nat):Int)<=((p.nodes.map ndL).length:Nat))&&decide ((((p.nodes.map ndL).length:Nat):Int) * ((8:Nat):Int)<=70368744177664))=true:=by simp;omega
 generalize fj (owF p 0)=O at *
 repeat refine aw ?_
 refine aY ⟨rfl,?_⟩;rw [<- e0];exact Uw.wM
set_option maxRecDepth 4000 in
set_option maxHeartbeats 4000000 in
theorem VX (p:Pg) (hp:Lim p) (hb:∀(i:Nat) (h:i<p.ae.length),0<=p.ae[i].body/\p.ae[i].body<p.nodes.length):WT P0 (fun e s=>e = .normal/\Weak s ⟨owR,owH p (fj (owF p p.ae.length)),3,[],0⟩) (exec nY ⟨owR,owH p (fj (owF p 0)),3,[],0⟩ Tree.done):=by
 have hfl:(p.ae.map fuL).length=p.ae.length:=by simp
 have hF:=hp.ae;have hN:=hp.nodes;obtain ⟨O,hO⟩:∃O:Nat->List (List Dat),∀j,O j=fj (owF p j):=⟨_,fun _=>rfl⟩
 have hstep:∀(j:Nat) (h:j<p.ae.length),∃c:Int,(O j)[0+p.ae[j].body.toNat]? = some [I c]/\(O j).set (0+p.ae[j].body.toNat) (setAt [I c] 0 [I j])=O (j+1):=by
  intro j h;have:=hb j h;obtain ⟨c,g1,g2⟩:=DN (o:=owF p j) (k:=p.ae[j].body) (by rw [IU];omega);exact ⟨c,by rw [hO];exact g1,by rw [hO,hO,FV,Mc p j h]⟩
 have hel:∀(j:Nat) (h:j<p.ae.length),(p.ae.map fuL)[(j:Int).toNat]? = some (fuL p.ae[j]):=by intro j h;simp [h]
 rw [<- hO,<- hO]
 repeat refine aw ?_
 refine cb p.ae.length (fun j:Nat=>⟨[(17,.d (I j)),(16,.d (I ((p.ae.map fuL).length:Nat))),(15,.d (.slice 3 (p.ae.map fuL) false)),(3,.ptr 2 0),(1,.ptr 0 0)],owH p (O j),3,[],0⟩) (fun _=>True) (by exact Uw.wM) (fun _=>?_) (fun j hj _=>?_)
 ·repeat refine aw ?_
  refine aC ?_;refine aY ⟨rfl,?_⟩;exact Uw.wM
 have he:=hel j hj;have hs:=hstep j hj;have hbj:=hb j hj;clear hstep hel hO hb;generalize p.ae[j]=f at *;obtain ⟨fn,fa,fb⟩:=f;have he:(p.ae.map fuL)[(j:Int).toNat]? = some [.str fn,fY fa,I fb]:=he;obtain ⟨c,g1,g2⟩:=hs;simp only at *;obtain ⟨b1,b2⟩:=hbj
 repeat refine aw ?_
 exact aJ j trivial (by exact Uw.wM)
set_option maxRecDepth 4000 in
set_option maxHeartbeats 4000000 in
theorem VY (p:Pg) (o:List (List Dat)):WT P0 (fun e s=>e = .normal/\Weak s ⟨[(30,.func dC [] [.ptr 3 0]),(3,.ptr 2 0),(1,.ptr 0 0)],(3,.var [.d (bN p.nodes)])::owH p o,4,[],0⟩) (exec nZ ⟨owR,owH p o,3,[],0⟩ Tree.done):=by
 repeat refine aw ?_
 refine dF tZ rfl ?_
 repeat refine aw ?_
 refine dX rfl rfl ?_
 repeat refine aw ?_
 refine aY ⟨rfl,?_⟩;exact Uw.wM
end Uw.Tryz
namespace Uw.Tryz
open Go Uw Go.RowKit
abbrev owS (p:Pg) (k:Nat):St:=⟨owR,owH p (fj (owK p k)),3,[],0⟩
def owN (p:Pg) (k:Nat):Nd:=p.nodes.getD (p.nodes.length - 1 - k) default
abbrev owP (p:Pg) (k:Nat):fp:=[(32,.d (.agg (ndL (owN p k)))),(31,.d (I ((p.nodes.length - 1 - k:Nat):Int)))]
set_option maxRecDepth 4000 in
set_option maxHeartbeats 4000000 in
theorem VZ (p:Pg) (hp:Lim p) (k:Nat) (hk:k<p.nodes.length) (hx:∀j∈(owN p k).of,0<=j/\j<((p.nodes.length - 1 - k:Nat):Int)) :
  WT P0 (fun e s=>e = .normal/\WT P0 (fun e s'=>e = .normal/\s'.defers=[]/\Weak ⟨owR,s'.heap,s'.next,[],0⟩ (owS p (k+1))) (exec gB s Tree.done)) (exec eW ⟨owP p k++owR,(owS p k).heap,(owS p k).next,[],(owS p k).next⟩ Tree.done):=by
 have hlim:=hp.of (owN p k) (by rw [owN];simp [List.getD,show p.nodes.length - 1 - k<p.nodes.length by omega]);have hN:=hp.nodes;obtain ⟨i,hi⟩:∃i,p.nodes.length - 1 - k=i:=⟨_,rfl⟩
 have hin:i<p.nodes.length:=by omega
 have hnext:owK p (k+1)=ix (owK p k) i (owN p k):=by
  rw [Md p k hk,owN];simp [List.getD,hi,hin]
 rw [hi] at hx;obtain ⟨B,hB⟩:∃B:Nat->List Int,∀j,B j=((owN p k).of.take j).foldl (fun o k=>o.set k.toNat (o.getD i 0)) (owK p k):=⟨_,fun _=>rfl⟩
 obtain ⟨O,hO⟩:∃O:Nat->List (List Dat),∀j,O j=fj (B j):=⟨_,fun _=>rfl⟩
 have hBl:∀j,(B j).length=p.nodes.length:=fun j=>by rw [hB,sg,O1]
 have e0:fj (owK p k)=O 0:=by rw [hO,hB];rfl
 have e1:fj (owK p (k+1))=O (owN p k).of.length:=by rw [hO,hB,List.take_length,hnext];rfl
 have hstep:∀(j:Nat) (h:j<(owN p k).of.length),∃u v:Int,(O j)[0+(i:Int).toNat]? = some [I u]/\(O j)[0+(owN p k).of[j].toNat]? = some [I v]/\(O j).set (0+(owN p k).of[j].toNat) (setAt [I v] 0 [I u])=O (j+1):=by
  intro j h;have h1:=hx _ (List.getElem_mem h);obtain ⟨u,u1,u2⟩:=DN (o:=B j) (k:=(i:Int)) (by rw [hBl];omega);obtain ⟨v,v1,v2⟩:=DN (o:=B j) (k:=(owN p k).of[j]) (by rw [hBl];omega);refine ⟨u,v,by rw [hO];exact u1,by rw [hO];exact v1,?_⟩;rw [hO,hO,FV,hB (j+1),List.take_succ_eq_append_getElem h,List.foldl_append,<- hB,u2];rfl
 have hel:∀(j:Nat) (h:j<(owN p k).of.length),((owN p k).of.map fun i=>[I i])[(j:Int).toNat]? = some [I (owN p k).of[j]]:=by intro j h;simp [h]
 have hol:((owN p k).of.map fun i=>[I i]).length=(owN p k).of.length:=by simp
 have hlt:∀(j:Nat) (h:j<(owN p k).of.length),0<=(owN p k).of[j]/\(owN p k).of[j]<(i:Int):=fun j h=>hx _ (List.getElem_mem h);have goal2:∀T0 T1:List (List Dat),fj (owK p k)=T0->fj (owK p (k+1))=T1->(WT P0 (fun e s=>e = .normal/\WT P0 (fun e s'=>e = .normal/\s'.defers=[]/\Weak ⟨owR,s'.heap,s'.next,[],0⟩ ⟨owR,owH p T1,3,[],0⟩) (exec gB s Tree.done)) (exec eW ⟨[(32,.d (.agg (ndL (owN p k)))),(31,.d (I (i:Int)))]++owR,owH p T0,3,[],3⟩ Tree.done))->
   WT P0 (fun e s=>e = .normal/\WT P0 (fun e s'=>e = .normal/\s'.defers=[]/\Weak ⟨owR,s'.heap,s'.next,[],0⟩ (owS p (k+1))) (exec gB s Tree.done)) (exec eW ⟨owP p k++owR,(owS p k).heap,(owS p k).next,[],(owS p k).next⟩ Tree.done):=by
  intro T0 T1 h0 h1 h;rw [<- h0,<- h1,<- hi] at h;exact h
 refine goal2 _ _ e0 e1 ?_;clear goal2 hB hO hBl hnext hx e0 e1;generalize owN p k=x at *;obtain ⟨xk,xn,xs,xt,xo⟩:=x;simp only at *;show WT P0 _ (exec eW ⟨[(32,.d (.agg [I xk,I xn,.str xs,.str xt,bT xo])),(31,.d (I (i:Int)))]++owR,owH p (O 0),3,[],3⟩ Tree.done)
 repeat refine aw ?_
 refine aY ⟨rfl,?_⟩
 repeat refine aw ?_
 refine cb xo.length (fun j:Nat=>⟨[(36,.d (I j)),(35,.d (I ((xo.map fun i=>[I i]).length:Nat))),(34,.d (bT xo)),(6,.d (I i)),(3,.ptr 2 0),(1,.ptr 0 0)],owH p (O j),3,[],3⟩) (fun _=>True) (by exact Uw.wM) (fun _=>?_) (fun j hj _=>?_)
 ·repeat refine aw ?_
  refine aC ?_;refine aY ⟨rfl,rfl,?_⟩;exact Uw.wM
 have he:=hel j hj;have hs:=hstep j hj;have hbj:=hlt j hj;clear hstep hel hlt;generalize xo[j]=y at *;obtain ⟨u,v,g1,g2,g3⟩:=hs;obtain ⟨b1,b2⟩:=hbj
 repeat refine aw ?_
 exact aJ j trivial (by exact Uw.wM)
theorem Me {c:Cx} {R:fp} {t:Array Value} {d:Nat} {v:V} {x:Value} (hr:lZ c R t) (hd:d<t.size) (hv:aA c v x):lZ c ((d,v)::R) (t.setIfInBounds d x):=by
 intro i u hu;rw [ai] at hu;by_cases hi:d=i
 ·subst hi
  rw [if_pos rfl] at hu;injection hu with hu;subst hu
  rw [Array.getD_eq_getD_getElem?,Array.getElem?_setIfInBounds_self_of_lt hd];exact hv
 ·rw [if_neg hi] at hu
  rw [Array.getD_eq_getD_getElem?,Array.getElem?_setIfInBounds_ne hi,<- Array.getD_eq_getD_getElem?];exact hr i u hu
theorem FW (p:Pg) (hf:bE p=true) (hp:Lim p) {c1:Cx} {w00:World} {a:Act} {gs:Fr} {Bs:Nat} {C:Nat->Value} {OK:World->Prop} (hg:a.eval (.tmp 30) = .func (.func dC) #[] #[.pointer (some ⟨Bs,0,none⟩)])
  (hgs:∀c:Cx,gs.p c->∀(i:Nat) (h:i<p.nodes.length),aE c.w (Imm c) (.agg (ndL p.nodes[i])) (.agg #[C (i * 5),C (i * 5+1),C (i * 5+2),C (i * 5+3),C (i * 5+4)]))
  (hOK:∀c:Cx,gs.p c->(∀b,c1.J0.X b->c.w.heap[b]? = c1.w.heap[b]?)->OK c.w)
  (hit:Iter P0 dC #[.pointer (some ⟨Bs,0,none⟩)] (fun k=>#[.int .i64 ((p.nodes.length - 1 - k:Nat):Int),.agg #[C ((p.nodes.length - 1 - k) * 5),C ((p.nodes.length - 1 - k) * 5+1),C ((p.nodes.length - 1 - k) * 5+2),C ((p.nodes.length - 1 - k) * 5+3),C ((p.nodes.length - 1 - k) * 5+4)]]) p.nodes.length OK)
  (r:Rel c1 w00 49 gs (owS p 0) a) {Q:Exit->Act->World->Prop} (hdone:∀(c:Cx),c.B=c1.B->c.J0=(c1.others fun b=>b=c1.w.heap.size\/b=c1.w.heap.size+1).J0->Rel c c.w 49 gs (owS p p.nodes.length) a->Below c1.B c1.w c.w->c.w.heap[c1.w.heap.size]? = some (.deferred (some []))->
   Q .normal { a with defers:={ target:=.collected c1.w.heap.size,args:=#[] }::a.defers } c.w):(Code.rangeFunc (.tmp 30) #[31,32] (cL (cL (cR (cL (cR (cR (cR (gQ P0 bu)))))))) (cR (cL (cR (cL (cR (cR (cR (gQ P0 bu))))))))).wp P0 Q a c1.w:=by
 have hN:=hp.nodes;have hat:∀(k:Nat) (h:k<p.nodes.length),owN p k=p.nodes[p.nodes.length - 1 - k]'(by omega):=fun k h=>by rw [owN];simp [List.getD,show p.nodes.length - 1 - k<p.nodes.length by omega]
 refine LL hg (Go.Proofs.enters_of Go.Proofs.Tryz.func118 (by kernel_rfl) rfl) p.nodes.length _ (fun k=>rfl) owR 0 (owS p) (fun k=>⟨rfl,rfl,rfl⟩) r OK hOK hit u4 u5 (by kernel_rfl) (by kernel_rfl) (owP p) ?_ ?_ hdone
 ·intro k c hk hgp hr
  have hsz:a.tmps.size=49:=r.size;have h1:aA c (.d (I ((p.nodes.length - 1 - k:Nat):Int))) (.int .i64 ((p.nodes.length - 1 - k:Nat):Int)):=by
   show aE _ _ _ _;simp only [aE]
  have h2:=hgs c hgp (p.nodes.length - 1 - k) (by omega);rw [<- hat k hk] at h2;have he:∀(x1 x2:Value),(#[31,32].zip #[x1,x2]).foldl (fun t ((p,v):Nat×Value)=>t.setIfInBounds p v) a.tmps=(a.tmps.setIfInBounds 31 x1).setIfInBounds 32 x2:=fun _ _=>by simp only [List.zip_toArray,List.foldl_toArray];rfl
  show lZ c (owP p k++owR) ((#[31,32].zip #[_,_]).foldl (fun t ((p,v):Nat×Value)=>t.setIfInBounds p v) a.tmps);rw [he];exact Me (Me hr (show 31<a.tmps.size by omega) h1) (show 32<(a.tmps.setIfInBounds 31 _).size by simp;omega) (v:=.d (.agg (ndL (owN p k)))) h2
 ·intro k hk
  refine VZ p hp k hk ?_;rw [hat k hk];exact (hQ hf _ (by omega)).1
theorem ni (p:Pg) (hf:bE p=true) (hp:Lim p):Ret P0 bu [pgD p] (bT (aU p)):=by
 have hN:=hp.nodes;refine JE xK (Nat.le_of_ble_eq_true rfl) ?_;rintro fn w J c a hres hB hJ rfl hd r;refine x7 uY r _ (VT p) ?_;intro c2 a2 b2 j2 r2;refine x7 uZ r2 _ (VU p hN) ?_;intro c3 a3 b3 j3 r3;refine x7 u0 r3 _ (VX p hp fun i h=>⟨(lg hf i h).1,(lg hf i h).2.1⟩) ?_;intro c4 a4 b4 j4 r4;refine wp_seq (x7 u3 r4 _ (VY p _) ?_);intro c5 a5 b5 j5 r5;have hB5:c5.B=c.w.heap.size:=b5.trans (b4.trans (b3.trans (b2.trans hB)));have hJ5:c5.J0=⟨J,fun _=>False⟩:=j5.trans (j4.trans (j3.trans (j2.trans hJ)));have hd5:a5.defers=[]:=r5.defers
 -- the iterator's value,and its box
 obtain ⟨us,vs,hfv,hus,hvs⟩:=r5.regs 30 (.func dC [] [.ptr 3 0]) rfl;obtain ⟨v,vs',rfl,⟨_,hv⟩,hvs'⟩:=hvs;simp only [ax] at hus hvs';subst hus hvs' hv;obtain ⟨ws,e,hbox,hbv⟩:=r5.hrel.blk 3 (.var [.d (bN p.nodes)]) (by rw [r5.heap];rfl);obtain ⟨sv,ws',hws,hsv,U1⟩:=hbv;simp only [ax] at U1;subst U1;have hws:ws = #[sv]:=by rw [<- Array.toList_inj];exact hws
 subst hws
 -- the box is forgotten,and nobody's from here on
 have hwk:wQ (dh []) ⟨[(30,.func dC [] [.ptr 3 0]),(3,.ptr 2 0),(1,.ptr 0 0)],(3,.var [.d (bN p.nodes)])::owH p (fj (owF p p.ae.length)),4,[],0⟩ (owS p 0):=by
  refine wQ.of ?_ ?_ rfl rfl ?_ rfl rfl<;>repeat' first|exact trivial|refine ⟨⟨_,rfl,?_⟩,?_⟩|exact Or.inl ⟨rfl,rfl⟩|exact dZ rfl rfl|refine ⟨⟨Or.inl ⟨_,rfl,?_⟩,rfl⟩,?_⟩|refine And.intro ?_ ?_
 obtain ⟨r6,hgb⟩:=r5.forget hwk (id0:=3) rfl rfl;have hBs:(c5.pl 3).gb<c5.w.heap.size:=(Array.getElem?_eq_some_iff.1 hbox).1;have hBB:c5.B<=(c5.pl 3).gb:=by
  have:=r5.hrel.ge 3 (.var [.d (bN p.nodes)]) (by rw [r5.heap];rfl) trivial;exact Nat.le_of_not_lt fun h=>this (.inl h)
 have r7:=r6.others (fun b=>b=(c5.pl 3).gb) (fun b hb=>by subst hb;exact hBs) (fun b hb id blk hl hp=>by subst hb;exact hgb id blk hl hp);generalize hBe:(c5.pl 3).gb=Bs at *;obtain ⟨c7,hc7⟩:∃c7,c7=(c5.weak (dh []) (owS p 0).heap).others (fun b=>b=Bs):=⟨_,rfl⟩
 rw [<- hc7] at r7;have hw7:c7.w=c5.w:=by rw [hc7];rfl
 have hB7:c7.B=c.w.heap.size:=by rw [hc7];exact hB5
 have hJ7:c7.J0=⟨fun b o=>J b o\/b=Bs,fun b=>False\/b=Bs⟩:=by
  rw [hc7];show (⟨fun b o=>c5.J0.J b o\/b=Bs,fun b=>c5.J0.X b\/b=Bs⟩:JX)=_;rw [hJ5]
 have V0:aE c7.w (Imm c7) (bN p.nodes) sv:=by
  have h1:aE c5.w (Imm c5) (bN p.nodes) sv:=hsv;have hk:Keeps c5.w c7.w (Imm c5) (Imm c7):=by
   intro b o hi;rw [hc7];have h2:=jg (c:=c5) (ρ:=dh []) (h':=(owS p 0).heap) (by rw [r5.heap];exact hwk.heap) b o hi;exact (Evo.others (c:=c5.weak (dh []) (owS p 0).heap) (fun b=>b=Bs)).keeps b o h2.1
  exact aE.keep hk _ _ h1
 have QP:c7.w.heap[Bs]? = some (.cells #[sv] e (0,0)):=by rw [hw7];exact hbox
 rw [<- hw7];have hbel:Below c.w.heap.size c.w c7.w:=by
  have:=r5.hrel.below;rw [hB5] at this;rw [hw7];exact this
 have hfin:∀(gs:Fr) (cc:Cx),cc.B=c7.B->cc.J0=(c7.others fun b=>b=c7.w.heap.size\/b=c7.w.heap.size+1).J0->Rel cc cc.w 49 gs (owS p p.nodes.length) a5->Below c7.B c7.w cc.w->cc.w.heap[c7.w.heap.size]? = some (.deferred (some []))->
   Code.wp P0 (cR (cR (cR (cR (gQ P0 bu))))) (bodyPostM Fence.wide 0 P0 fn (OO c.w J (bT (aU p)))) { a5 with defers:={ target:=.collected c7.w.heap.size,args:=#[] }::a5.defers } cc.w:=by
  intro gs cc e1 e2 r8 e3 e4;have hX:∀b,cc.J0.X b->c.w.heap.size<=b:=by
   intro b hb;rw [e2] at hb;have hs7:=hbel.size
   rcases hb with hb|hb|hb
   ·rw [hJ7] at hb
    rcases hb with hb|hb
    ·exact hb.elim
    ·rw [hb,<- hB5];exact hBB
   ·rw [hb];exact hs7
   ·rw [hb];omega
  refine SA hres u6 r8 hd5 (e1.trans hB7) (by rw [e2];exact .inr (.inl rfl)) hX ?_ e4 (hbel.trans (by rw [hB7] at e3;exact e3)) ?_
  ·intro b o hb
   rw [e2] at hb ⊢
   rcases hb with hb|hb
   ·rw [hJ7] at hb
    rcases hb with hb|hb
    ·exact .inl hb
    ·exact .inr (.inl (by rw [hJ7];exact .inr hb))
   ·exact .inr (.inr hb)
  ·have hl:(List.drop 0 (fj (aU p))).take p.nodes.length=fj (aU p):=by
    rw [List.drop_zero,List.take_of_length_le (by rw [fj,List.length_map,dT];exact Nat.le_refl _)]
   rw [<- O2] at hl ⊢;show WT P0 (EX _ (.slice 1 (fj (owK p p.nodes.length)) false)) (exec oa ⟨owR,owH p (fj (owK p p.nodes.length)),3,[],0⟩ Tree.done);generalize fj (owK p p.nodes.length)=O at *
   repeat refine aw ?_
   refine ak rfl rfl rfl rfl ?_;exact congrArg (fun l=>Dat.slice 1 l false) hl
 have hg:a5.eval (.tmp 30) = .func (.func dC) #[] #[.pointer (some ⟨Bs,0,none⟩)]:=hfv;refine wp_block ?_
 rcases V0 with ⟨⟨x,hx,_⟩,hnil⟩|⟨b,off,cap,hx,hcap,_,hel⟩
 ·-- no nodes
  have hn0:p.nodes=[]:=by simpa using hnil
  refine FW p hf hp (gs:=Fr.none) (C:=fun _=>undef) (OK:=fun W=>W.cell? ⟨Bs,0,none⟩=some (.slice x 0 0)) hg (fun c _ i h=>by rw [hn0] at h;simp at h) ?_ ?_ r7 ?_
  ·intro c' _ hX
   have:=hX Bs (by rw [hJ7];exact .inr rfl);rw [World.cell?_of_block this];unfold World.cell?;rw [QP,hx];rfl
  ·intro l J' W hY SI h0
   rw [hn0];exact Go.Proofs.Tryz.DL l Bs x J' SI W h0
  ·intro cc e1 e2 r8 e3 e4
   exact hfin _ cc e1 e2 r8 e3 e4
 ·have hlen:(p.nodes.map ndL).length=p.nodes.length:=by simp
  have hat:mh p.nodes b off (fun m=>(c7.w.cell? ⟨b,off+m,none⟩).getD undef) c7:=mh.of fun i h=>by
   have:=FU hel i (by rw [hlen];exact h);simpa using this
  generalize (fun m=>(c7.w.cell? ⟨b,off+m,none⟩).getD undef)=C at hat;have r8:Rel c7 c5.w 49 (IR p.nodes b off C) (owS p 0) a5:=by
   rw [<- hw7];exact ⟨r7.heap,by rw [hw7];exact r7.hrel,r7.size,r7.regs,hat,Nat.zero_le _,r7.base,r7.defers⟩
  refine FW p hf hp (gs:=IR p.nodes b off C) (C:=C) (OK:=fun W=>W.cell? ⟨Bs,0,none⟩=some (.slice (some ⟨b,off,none⟩) p.nodes.length cap)/\∀m,m<p.nodes.length * 5->W.cell? ⟨b,off+m,none⟩=some (C m)) hg (fun c h i hi=>mh.agg h i hi) ?_ ?_ r8 ?_
  ·intro c' hc' hX
   refine ⟨?_,fun m hm=>mh.cell hc' m hm⟩;have:=hX Bs (by rw [hJ7];exact .inr rfl);rw [World.cell?_of_block this];unfold World.cell?;rw [QP,hx,hlen];rfl
  ·intro l J' W hY SI h0
   exact Go.Proofs.Tryz.FT l Bs b off p.nodes.length cap C (by omega) J' hY SI W h0
  ·intro cc e1 e2 r9 e3 e4
   exact hfin _ cc e1 e2 r9 e3 e4
end Uw.Tryz
namespace Uw
open Go
mutual
theorem O4:∀v:V,v.ren (dh [])=v
 | .ptr id o=>rfl
 | .mG id v i c=>rfl
 | .ref id v o l=>rfl
 | .agg cs=>by rw [V.ren,pq cs]
 | .func f fs cs=>by rw [V.ren,pq fs,pq cs]
 | .tuple cs=>by rw [V.ren,pq cs]
 | .d x=>rfl
 | .ro cs o=>rfl
 | .hnd id=>rfl
 | .row id len=>rfl
 | .undef=>rfl
theorem pq:∀l:List V,fC (dh []) l=l
 | []=>rfl
 | v::r=>by rw [fC,O4 v,pq r]
end
section
variable [Glob]
theorem Weak.looks {R R' : fp} {H H' : Heap} {n n' b:Nat} (h1:oC (dh []) R H H' R') (h2:∀id x,look H' id=some x->look H id=some x/\x.closed H' = true/\id<n') (h3:b<=n') (h4:∀id,id<b->(look H id).isSome=true->(look H' id).isSome=true):Weak ⟨R,H,n,[],b⟩ ⟨R',H',n',[],b⟩:=by
 refine ⟨dh [],fun i v h=>kl h1 i v h,fun i x h=>.inl ⟨x,(h2 i x h).1,dZ ?_ (h2 i x h).2.1⟩,fun i x h=>(h2 i x h).2.2,rfl,h3,fun id hid=>⟨rfl,h4 id hid⟩,fun id id' _ _ he=>he,rfl,rfl⟩
 cases x with
 | var cs=>show Blk.var cs=Blk.var (fC (dh []) cs);rw [pq]
 | _=>rfl
theorem f1 {P:Program} {Q:aH->St->Prop} {t t' : Tree} (hgo' : WT P Q t') (h:WT P Q t'->WT P Q t:=by
  first
  | (show _->WT _ _ (Tree.B2 _ _)
     first
     | exact CV _ (by assumption)
     | exact CV _ rfl)
  | (show _->WT _ _ (Tree.blk _ _)
     first
     | exact mS _ (by assumption)
     | exact mS _ rfl)):WT P Q t:=h hgo'
end
end Uw
namespace Uw.Tryz
open Go Uw
abbrev rowT (l:List Str):List (List Dat):=l.map fun s=>[.str s]
def jW (rid mid:Nat->Nat):Nat->List (List Str)->List MS->Heap
 | i,l::ls,m::ms=>(if l=[] then [] else [(rid i,Blk.arr 1 (rowT l))])++(mid i,Blk.map none m)::jW rid mid (i+1) ls ms
 | _,_,_=>[]
structure MA (rid mid:Nat->Nat) (n:Nat):Prop where
 rr:∀i j,i<n->j<n->rid i=rid j->i=j
 mm:∀i j,i<n->j<n->mid i=mid j->i=j
 rm:∀i j,i<n->j<n->rid i≠mid j
theorem lh {h g:Heap} {id:Nat}:look (h++g) id=match look h id with|some b=>some b|none=>look g id:=by
 induction h with
 | nil=>rfl
 | cons p h ih=>
  obtain ⟨j,x⟩:=p;rw [List.cons_append,ai,ai];by_cases hj:j=id
  ·rw [if_pos hj,if_pos hj]
  ·rw [if_neg hj,if_neg hj,ih]
theorem vp {rid mid:Nat->Nat}:∀{ls:List (List Str)} {ms:List MS} {i id:Nat} {b:Blk},look (jW rid mid i ls ms) id=some b->
  (∃k m,k<ls.length/\k<ms.length/\ms[k]? = some m/\id=mid (i+k)/\b = .map none m)\/(∃k l,k<ls.length/\k<ms.length/\ls[k]? = some l/\l≠[]/\id=rid (i+k)/\b = .arr 1 (rowT l))
 | [],_,i,id,b,h=>by simp [jW,look] at h
 | l::ls,[],i,id,b,h=>by simp [jW,look] at h
 | l::ls,m::ms,i,id,b,h=>by
  rw [jW] at h;by_cases hl:l=[]
  ·rw [if_pos hl,List.nil_append] at h
   have h:look ((mid i,Blk.map none m)::jW rid mid (i+1) ls ms) id=some b:=h;rw [ai] at h;by_cases hm:mid i=id
   ·rw [if_pos hm] at h;injection h with h
    exact .inl ⟨0,m,by simp,by simp,rfl,hm.symm,h.symm⟩
   ·rw [if_neg hm] at h
    rcases vp h with ⟨k,m',h1,h2,h3,h4,h5⟩|⟨k,l',h1,h2,h3,h4,h5,h6⟩
    ·exact .inl ⟨k+1,m',by simpa using h1,by simpa using h2,by simpa using h3,by rw [h4];congr 1;omega,h5⟩
    ·exact .inr ⟨k+1,l',by simpa using h1,by simpa using h2,by simpa using h3,h4,by rw [h5];congr 1;omega,h6⟩
  ·rw [if_neg hl,List.cons_append,List.nil_append,ai] at h
   by_cases hr:rid i=id
   ·rw [if_pos hr] at h;injection h with h
    exact .inr ⟨0,l,by simp,by simp,rfl,hl,hr.symm,h.symm⟩
   ·rw [if_neg hr] at h
    have h:look ((mid i,Blk.map none m)::jW rid mid (i+1) ls ms) id=some b:=h;rw [ai] at h;by_cases hm:mid i=id
    ·rw [if_pos hm] at h;injection h with h
     exact .inl ⟨0,m,by simp,by simp,rfl,hm.symm,h.symm⟩
    ·rw [if_neg hm] at h
     rcases vp h with ⟨k,m',h1,h2,h3,h4,h5⟩|⟨k,l',h1,h2,h3,h4,h5,h6⟩
     ·exact .inl ⟨k+1,m',by simpa using h1,by simpa using h2,by simpa using h3,by rw [h4];congr 1;omega,h5⟩
     ·exact .inr ⟨k+1,l',by simpa using h1,by simpa using h2,by simpa using h3,h4,by rw [h5];congr 1;omega,h6⟩
theorem qf {rid mid:Nat->Nat} {n:Nat} (hI:MA rid mid n):∀{ls:List (List Str)} {ms:List MS} {i k:Nat} {m:MS},i+ls.length<=n->k<ls.length->ms[k]? = some m->look (jW rid mid i ls ms) (mid (i+k))=some (.map none m)
 | [],ms,i,k,m,_,hk,_=>by simp at hk
 | l::ls,[],i,k,m,_,_,h=>by simp at h
 | l::ls,m0::ms,i,k,m,hn,hk,h=>by
  simp at hn hk;have h1:∀(y:Heap),look ((if l=[] then [] else [(rid i,Blk.arr 1 (rowT l))])++y) (mid (i+k))=look y (mid (i+k)):=by
   intro y
   split
   ·rfl
   ·rw [List.cons_append,ai,if_neg (hI.rm i (i+k) (by omega) (by omega))];rfl
  rw [jW,h1,ai]
  cases k with
  | zero=>rw [if_pos (show mid i=mid (i+0) from rfl)];simp at h;rw [h]
  | succ k=>
   rw [if_neg (fun e=>by have:=hI.mm _ _ (by omega) (by omega) e;omega),show i+(k+1)=i+1+k by omega];exact qf hI (by omega) (by omega) (by simpa using h)
theorem vq {rid mid:Nat->Nat} {n:Nat} (hI:MA rid mid n):∀{ls:List (List Str)} {ms:List MS} {i k:Nat} {l:List Str},i+ls.length<=n->k<ms.length->ls[k]? = some l->l≠[]->look (jW rid mid i ls ms) (rid (i+k))=some (.arr 1 (rowT l))
 | [],ms,i,k,l,_,_,h,_=>by simp at h
 | l0::ls,[],i,k,l,_,hk,_,_=>by simp at hk
 | l0::ls,m0::ms,i,k,l,hn,hk,h,hl=>by
  simp at hn hk;have hkl:k<(l0::ls).length:=by
   rcases Nat.lt_or_ge k (l0::ls).length with g|g
   ·exact g
   ·rw [List.getElem?_eq_none g] at h;cases h
  simp at hkl;rw [jW]
  cases k with
  | zero=>
   simp at h;subst h;rw [if_neg hl,List.cons_append,ai,if_pos (by simp)]
  | succ k=>
   have h1:∀(y:Heap),look ((if l0=[] then [] else [(rid i,Blk.arr 1 (rowT l0))])++y) (rid (i+(k+1)))=look y (rid (i+(k+1))):=by
    intro y
    split
    ·rfl
    ·rw [List.cons_append,ai,if_neg (fun e=>by have:=hI.rr _ _ (by omega) (by omega) e;omega)];rfl
   rw [h1,ai,if_neg (fun e=>hI.rm (i+(k+1)) i (by omega) (by omega) e.symm),show i+(k+1)=i+1+k by omega];exact vq hI (by omega) (by omega) (by simpa using h) hl
def cn (rid:Nat->Nat):Nat->List (List Str)->List V
 | _,[]=>[]
 | i,l::ls=>(if l=[] then V.d (.slice 1 [] true) else .ref (rid i) 0 0 l.length)::cn rid (i+1) ls
def bU (mid:Nat->Nat):Nat->Nat->List V
 | _,0=>[]
 | i,n+1=>.hnd (mid i)::bU mid (i+1) n
theorem eG (rid:Nat->Nat):∀(ls:List (List Str)) (i:Nat),(cn rid i ls).length=ls.length
 | [],_=>rfl
 | l::ls,i=>by rw [cn,List.length_cons,eG rid ls,List.length_cons]
theorem di (mid:Nat->Nat):∀(n i:Nat),(bU mid i n).length=n
 | 0,_=>rfl
 | n+1,i=>by rw [bU,List.length_cons,di mid n]
theorem ku (rid:Nat->Nat):∀(ls:List (List Str)) (i k:Nat) (l:List Str),ls[k]? = some l->(cn rid i ls)[k]? = some (if l=[] then V.d (.slice 1 [] true) else .ref (rid (i+k)) 0 0 l.length)
 | [],i,k,l,h=>by simp at h
 | l0::ls,i,0,l,h=>by simp at h;subst h;rfl
 | l0::ls,i,k+1,l,h=>by
  rw [cn,List.getElem?_cons_succ,ku rid ls (i+1) k l (by simpa using h),show i+1+k=i+(k+1) by omega]
theorem kx (mid:Nat->Nat):∀(n i k:Nat),k<n->(bU mid i n)[k]? = some (.hnd (mid (i+k)))
 | 0,i,k,h=>by omega
 | n+1,i,0,h=>rfl
 | n+1,i,k+1,h=>by rw [bU,List.getElem?_cons_succ,kx mid n (i+1) k (by omega),show i+1+k=i+(k+1) by omega]
theorem uf (rid:Nat->Nat):∀(ls:List (List Str)) (l:List Str) (i:Nat),cn rid i (ls++[l])=cn rid i ls++[if l=[] then V.d (.slice 1 [] true) else .ref (rid (i+ls.length)) 0 0 l.length]
 | [],l,i=>rfl
 | l0::ls,l,i=>by rw [List.cons_append,cn,cn,uf rid ls,List.cons_append,List.length_cons,show i+1+ls.length=i+(ls.length+1) by omega]
theorem ug (mid:Nat->Nat):∀(n i:Nat),bU mid i (n+1)=bU mid i n++[.hnd (mid (i+n))]
 | 0,i=>rfl
 | n+1,i=>by rw [bU,ug mid n,bU,List.cons_append,show i+1+n=i+(n+1) by omega]
theorem xi {rid O5 : Nat->Nat}:∀(ls:List (List Str)) (i:Nat),(∀k l,ls[k]? = some l->l≠[]->rid (i+k)=O5 (i+k))->cn rid i ls=cn O5 i ls
 | [],_,_=>rfl
 | l::ls,i,h=>by
  have ih:cn rid (i+1) ls=cn O5 (i+1) ls:=xi ls (i+1) fun k l' hk hl=>by
   have:=h (k+1) l' (by simpa using hk) hl
   rwa [show i+(k+1)=i+1+k by omega] at this
  rw [cn,cn,ih];by_cases hl:l=[]
  ·rw [if_pos hl,if_pos hl]
  ·rw [if_neg hl,if_neg hl,show rid i=O5 i from h 0 l rfl hl]
theorem oe {mid mid' : Nat->Nat}:∀(n i:Nat),(∀k,k<n->mid (i+k)=mid' (i+k))->bU mid i n=bU mid' i n
 | 0,_,_=>rfl
 | n+1,i,h=>by
  have ih:bU mid (i+1) n=bU mid' (i+1) n:=oe n (i+1) fun k hk=>by
   have:=h (k+1) (by omega)
   rwa [show i+(k+1)=i+1+k by omega] at this
  rw [bU,bU,show mid i=mid' i from h 0 (by omega),ih]
end Uw.Tryz
namespace Uw
open Go
section
variable [Glob]
theorem Weak.MB (ρ:Nat->Nat) {R R' : fp} {H H' : Heap} {n n' : Nat} (h1:oC ρ R H H' R') (h2:∀id x,look H' id=some x->(∃y,look H (ρ id)=some y/\nD ρ H H' y x)/\id<n')
  (h3:∀id id',(look H' id).isSome=true->(look H' id').isSome=true->ρ id=ρ id'->id=id'):Weak ⟨R,H,n,[],0⟩ ⟨R',H',n',[],0⟩:=
 ⟨ρ,fun i v h=>kl h1 i v h,fun i x h=>.inl (h2 i x h).1,fun i x h=>(h2 i x h).2,rfl,Nat.zero_le _,fun id hid=>absurd hid (Nat.not_lt_zero _),h3,rfl,rfl⟩
end
end Uw
namespace Uw.Tryz
open Go Uw
def ct (l:List Str):MS:=l.foldl (fun es s=>dJ es (.s s) (.bool true)) []
theorem qg (l:List Str) (s:Str):ct (l++[s])=dJ (ct l) (.s s) (.bool true):=by rw [ct,List.foldl_append];rfl
theorem FX:∀(l:List Str) (es:MS) (s:Str),aW (l.foldl (fun es s=>dJ es (.s s) (.bool true)) es) (.s s)=if s∈l then some (.bool true) else aW es (.s s)
 | [],es,s=>by simp
 | a::l,es,s=>by
  rw [List.foldl_cons,FX l,fy];by_cases h:s∈l
  ·rw [if_pos h,if_pos (by simp [h])]
  ·rw [if_neg h]
   by_cases ha:s=a
   ·subst ha;simp
   ·simp [ha,h]
theorem si (l:List Str) (s:Str):aW (ct l) (.s s)=if s∈l then some (.bool true) else none:=FX l [] s
def rid (i:Nat):Nat:=4+2 * i
def mid (i:Nat):Nat:=5+2 * i
theorem wo (n:Nat):MA rid mid n:=⟨fun i j _ _ h=>by simp [rid] at h;omega,fun i j _ _ h=>by simp [mid] at h;omega,fun i j _ _ h=>by simp [rid,mid] at h;omega⟩
abbrev cM (ls:List (List Str)) (ms:List MS):Heap:=jW rid mid 0 ls ms
theorem fz {ls:List (List Str)} {ms:List MS} {id:Nat} {b:Blk} (h:look (cM ls ms) id=some b):4<=id/\id<4+2 * ls.length/\(∀H:Heap,b.closed H=true)/\∀ρ:Nat->Nat,b.ren ρ=b:=by
 rcases vp h with ⟨k,m,h1,_,_,rfl,rfl⟩|⟨k,l,h1,_,_,_,rfl,rfl⟩
 ·exact ⟨by simp [mid];omega,by simp [mid];omega,fun _=>rfl,fun _=>rfl⟩
 ·exact ⟨by simp [rid],by simp [rid];omega,fun _=>rfl,fun _=>rfl⟩
abbrev loH (p:Pg) (rv mv:List V) (fam:Heap):Heap:=(2,.var rv)::(3,.var mv)::(1,.map none (thE p.decls))::(0,pgV p)::fam
theorem IW {p:Pg} {rv mv:List V} {fam:Heap} {id:Nat} (h:4<=id):look (loH p rv mv fam) id=look fam id:=by
 rw [ai,if_neg (by omega),ai,if_neg (by omega),ai,if_neg (by omega),ai,if_neg (by omega)]
theorem sj {p:Pg} {rv mv:List V} {fam:Heap} {id:Nat} {b:Blk} (h:look (loH p rv mv fam) id=some b):(id=2/\b = .var rv)\/(id=3/\b = .var mv)\/(id=1/\b = .map none (thE p.decls))\/(id=0/\b=pgV p)\/look fam id=some b:=by
 rw [ai] at h;by_cases h2:2=id
 ·rw [if_pos h2] at h;injection h with h;exact .inl ⟨h2.symm,h.symm⟩
 rw [if_neg h2,ai] at h;by_cases h3:3=id
 ·rw [if_pos h3] at h;injection h with h;exact .inr (.inl ⟨h3.symm,h.symm⟩)
 rw [if_neg h3,ai] at h;by_cases h1:1=id
 ·rw [if_pos h1] at h;injection h with h;exact .inr (.inr (.inl ⟨h1.symm,h.symm⟩))
 rw [if_neg h1,ai] at h;by_cases h0:0=id
 ·rw [if_pos h0] at h;injection h with h;exact .inr (.inr (.inr (.inl ⟨h0.symm,h.symm⟩)))
 rw [if_neg h0] at h;exact .inr (.inr (.inr (.inr h)))
theorem dU {H:Heap}:∀{l:List V},cF H l=true<->∀v∈l,v.closed H=true
 | []=>by simp [cF]
 | v::l=>by simp [cF,dU]
theorem om {p:Pg} {ls:List (List Str)} {ms:List MS} {rv mv:List V} {r:Nat} (hms:ms.length=ls.length):cF (loH p rv mv (cM ls ms)) (cn rid 0 ls++List.replicate r (.d .nil))=true:=by
 rw [dU];intro v hv
 rcases List.mem_append.1 hv with hv|hv
 ·obtain ⟨k,hk⟩:=List.mem_iff_getElem?.1 hv
  have hkl:k<ls.length:=by
   rcases Nat.lt_or_ge k ls.length with h|h
   ·exact h
   ·rw [List.getElem?_eq_none (by rw [eG];exact h)] at hk;cases hk
  rw [ku rid ls 0 k ls[k] (by simp [hkl])] at hk;injection hk with hk
  subst hk
  split
  ·rfl
  ·rename_i hne
   have:=vq (rid:=rid) (mid:=mid) (wo ls.length) (ls:=ls) (ms:=ms) (i:=0) (k:=k) (l:=ls[k]) (by omega) (by omega) (by simp [hkl]) hne;show (look _ _).isSome=true;rw [IW (by simp [rid])];show (look (jW rid mid 0 ls ms) _).isSome=true;rw [this];rfl
 ·rw [List.mem_replicate] at hv
  rw [hv.2];rfl
theorem oq {p:Pg} {ls:List (List Str)} {ms:List MS} {rv mv:List V} {r n:Nat} (hms:ms.length=ls.length) (hn:n=ls.length):cF (loH p rv mv (cM ls ms)) (bU mid 0 n++List.replicate r (.d .aV))=true:=by
 subst hn;rw [dU];intro v hv
 rcases List.mem_append.1 hv with hv|hv
 ·obtain ⟨k,hk⟩:=List.mem_iff_getElem?.1 hv
  have hkl:k<ls.length:=by
   rcases Nat.lt_or_ge k ls.length with h|h
   ·exact h
   ·rw [List.getElem?_eq_none (by rw [di];exact h)] at hk;cases hk
  rw [kx mid ls.length 0 k hkl] at hk;injection hk with hk
  subst hk;have:=qf (rid:=rid) (mid:=mid) (wo ls.length) (ls:=ls) (ms:=ms) (i:=0) (k:=k) (m:=ms[k]) (by omega) (by omega) (by simp [show k<ms.length by omega]);show (look _ _).isSome=true;rw [IW (by simp [mid];omega)];show (look (jW rid mid 0 ls ms) _).isSome=true;rw [this];rfl
 ·rw [List.mem_replicate] at hv
  rw [hv.2];rfl
theorem DO {p:Pg} {ls:List (List Str)} {ms:List MS} {R R' : fp} {H:Heap} {r r' n:Nat} (hms:ms.length=ls.length) (hl:ls.length<100000) (h1:oC (dh []) R H (loH p (cn rid 0 ls++List.replicate r (.d .nil)) (bU mid 0 ls.length++List.replicate r' (.d .aV)) (cM ls ms)) R')
  (e2:look H 2=some (.var (cn rid 0 ls++List.replicate r (.d .nil)))) (e3:look H 3=some (.var (bU mid 0 ls.length++List.replicate r' (.d .aV)))) (e1:look H 1=some (.map none (thE p.decls))) (e0:look H 0=some (pgV p))
  (hf:∀id x,look (cM ls ms) id=some x->look H id=some x):Weak ⟨R,H,n,[],0⟩ ⟨R',loH p (cn rid 0 ls++List.replicate r (.d .nil)) (bU mid 0 ls.length++List.replicate r' (.d .aV)) (cM ls ms),1000000,[],0⟩:=by
 refine Weak.looks h1 ?_ (Nat.zero_le _) (fun id h=>absurd h (Nat.not_lt_zero _));intro id x hx
 rcases sj hx with ⟨rfl,rfl⟩|⟨rfl,rfl⟩|⟨rfl,rfl⟩|⟨rfl,rfl⟩|hx
 ·exact ⟨e2,om hms,by omega⟩
 ·exact ⟨e3,oq hms rfl,by omega⟩
 ·exact ⟨e1,rfl,by omega⟩
 ·exact ⟨e0,rfl,by omega⟩
 ·obtain ⟨g1,g2,g3,_⟩:=fz hx
  exact ⟨hf _ _ hx,g3 _,by omega⟩
end Uw.Tryz
namespace Uw.Tryz
open Go Uw
def dj (l:List Dec) (k:Int):Nat:=l.countP fun d=>decide (d.kind=k)
end Uw.Tryz
namespace Uw.Tryz
open Go Uw
structure In4 where
 op:Int
 a:Int
 b:Int
 c:Int
 deriving DecidableEq,Inhabited
def in4 (i:In4):List Dat:=[I i.op,I i.a,I i.b,I i.c]
structure Nms where
 things:Str->Option (Int×Int)
 ae:Str->Int
 helps:Str->Int
 xO:Str->Option Int
def li (s:Str):Int:=if s=LZ then 1 else if s=L1 then 2 else if s=L0 then 3 else if s=Fo then 4 else if s=L2 then 5 else if s=Fp then 6 else if s=Fq then 7 else 0
def xP (N:Nms) (s:Str):Int:=(N.xO s).getD (-1)
def lU (N:Nms) (s:Str):Int:=if s=[] then -1 else xP N s
def dP (N:Nms) (x:Nd):List In4:=
 if x.kind=1 then [⟨1,x.n,0,0⟩]
 else if x.kind=2 then [match N.things x.name with|some t=>⟨4,t.2,0,0⟩|none=>⟨2,xP N x.name,0,0⟩]
 else if 3<=x.kind/\x.kind<=7 then [⟨x.kind+3,0,0,0⟩]
 else if x.kind=8 then [⟨11,li x.name2,((N.things x.name).getD (0,0)).2,(x.of.length:Nat)⟩]
 else if x.kind=9 then [match N.things x.name with|some t=>⟨5,t.2,0,0⟩|none=>⟨3,xP N x.name,0,0⟩]
 else if x.kind=10 then [⟨13,N.ae x.name2,(x.of.length:Nat),lU N x.name⟩]
 else if x.kind=11 then [⟨13,N.helps x.name2,2,lU N x.name⟩]
 else if x.kind=12 then [⟨14,0,0,0⟩]
 else if x.kind=15 then [⟨17,0,0,0⟩]
 else if x.kind=16 then [⟨18,0,0,0⟩]
 else if x.kind=17 then [⟨12,0,0,0⟩]
 else []
def layAll (g:Int->Nat->List In4):List Int->Nat->List In4
 | [],_=>[]
 | k::r,at_=>g k at_++layAll g r (at_+(g k at_).length)
def lj (ns:List Nd) (N:Nms):Nat->Int->Nat->List In4
 | 0,_,_=>[]
 | f+1,k,at_=>
  let x:=ns.getD k.toNat default
  if x.kind=13 then
   let t:=lj ns N f (x.of.getD 0 0) at_
   let b:=lj ns N f (x.of.getD 1 0) (at_+t.length+1)
   if x.of.length<3 then t++⟨16,(at_+t.length+1+b.length:Nat),0,0⟩::b
   else
    let o:=lj ns N f (x.of.getD 2 0) (at_+t.length+1+b.length+1)
    t++⟨16,(at_+t.length+1+b.length+1:Nat),0,0⟩::(b++⟨15,(at_+t.length+1+b.length+1+o.length:Nat),0,0⟩::o)
  else if x.kind=14 then
   let t:=lj ns N f (x.of.getD 0 0) at_
   let b:=lj ns N f (x.of.getD 1 0) (at_+t.length+1)
   t++⟨16,(at_+t.length+1+b.length+1:Nat),0,0⟩::(b++[⟨15,(at_:Nat),0,0⟩])
  else layAll (lj ns N f) x.of at_++dP N x
def rO (p:Pg) (s:Str):Nat:=match p.decls.findIdx? fun d=>decide (d.name=s) with
 | some i=>dj (p.decls.take i) ((bp p s).getD 0)
 | none=>0
def fZ:List Nd->List Str->List Str
 | [],l=>l
 | x::r,l=>fZ r (if x.kind=11/\x.name2∉l then l++[x.name2] else l)
def bF (p:Pg):List Str:=fZ p.nodes []
def oK (l:List Str) (s:Str):Option Int:=(l.findIdx? fun t=>decide (t=s)).map fun (i:Nat)=>(i:Int)
def ky (p:Pg) (f:Nat):Nms:=⟨fun s=>(bp p s).map fun k=>(k,(rO p s:Nat)),fun s=>((dD p s).getD 0:Nat),fun s=>match oK (bF p) s with|some i=>(p.ae.length:Nat)+i|none=>0,fun s=>oK ((ao p).getD f []) s⟩
structure Bd where
 args:Int
 locals:Int
 ins:List In4
 deriving DecidableEq,Inhabited
def bdC (b:Bd):List Dat:=[I b.args,I b.locals,.slice 4 (b.ins.map in4) false]
structure Cd where
 ae:List Bd
 cells:List Int
 maps:Int
 stacks:Int
 chans:Int
 main:Int
 deriving DecidableEq,Inhabited
def cdD (c:Cd):Dat:=.agg [.slice 3 (c.ae.map bdC) false,bT c.cells,I c.maps,I c.stacks,I c.chans,I c.main]
def dt (p:Pg) (f:Nat) (g:Fu):Bd:=⟨(g.args.length:Nat),(((ao p).getD f []).length:Nat),lj p.nodes (ky p f) p.nodes.length g.body 0++[⟨1,0,0,0⟩,⟨17,0,0,0⟩]⟩
def dM (f own:Int):Bd:=⟨2,5,[⟨2,0,0,0⟩,⟨2,1,0,0⟩,⟨9,0,0,0⟩,⟨16,28,0,0⟩,⟨2,0,0,0⟩,⟨1,1,0,0⟩,⟨6,0,0,0⟩,⟨2,1,0,0⟩,⟨10,0,0,0⟩,⟨16,14,0,0⟩,⟨2,0,0,0⟩,⟨13,f,1,3⟩,⟨2,3,0,0⟩,⟨17,0,0,0⟩,⟨2,0,0,0⟩,⟨2,1,0,0⟩,⟨19,0,0,0⟩,⟨3,2,0,0⟩,⟨2,0,0,0⟩,⟨2,2,0,0⟩,⟨13,own,2,3⟩,⟨2,2,0,0⟩,⟨2,1,0,0⟩,⟨13,own,2,4⟩,⟨2,3,0,0⟩,⟨2,4,0,0⟩,⟨6,0,0,0⟩,⟨17,0,0,0⟩,⟨1,0,0,0⟩,⟨17,0,0,0⟩]⟩
def fU (p:Pg):Nat->List Fu->List Bd
 | _,[]=>[]
 | i,g::r=>dt p i g::fU p (i+1) r
def lz (p:Pg):Nat->List Str->List Bd
 | _,[]=>[]
 | i,s::r=>dM ((dD p s).getD 0:Nat) (i:Nat)::lz p (i+1) r
def DR (p:Pg):List Int:=(p.decls.filter fun d=>decide (d.kind=0)).map (·.n)
def db (p:Pg):Cd:=⟨fU p 0 p.ae++lz p p.ae.length (bF p),DR p,(dj p.decls 1:Nat),(dj p.decls 2:Nat),(dj p.decls 3:Nat),((dD p gy).getD 0:Nat)⟩
def wq:Cd:=⟨[],[],0,0,0,0⟩
def ofP (p:Pg):Cd×Int:=if m3 p≠0 then (wq,m3 p) else if (fU p 0 p.ae).any fun b=>decide (400<b.ins.length) then (wq,2) else (db p,0)
end Uw.Tryz
namespace Uw.Tryz
open Go Uw
theorem qh {g g' : Int->Nat->List In4}:∀(l:List Int) (a:Nat),(∀k∈l,∀a,g k a=g' k a)->layAll g l a=layAll g' l a
 | [],_,_=>rfl
 | k::r,a,h=>by
  rw [layAll,layAll,h k (by simp),qh r _ fun k hk=>h k (by simp [hk])]
structure Lays (ns:List Nd):Prop where
 low:∀(i:Nat) (h:i<ns.length),∀k∈ns[i].of,0<=k/\k<(i:Int)
 ifs:∀(i:Nat) (h:i<ns.length),ns[i].kind=13->ns[i].of.length=2\/ns[i].of.length=3
 zC:∀(i:Nat) (h:i<ns.length),ns[i].kind=14->ns[i].of.length=2
theorem ot {p:Pg} (h:bE p=true):Lays p.nodes:=by
 refine ⟨fun i hi=>(hQ h i hi).1,fun i hi hk=>?_,fun i hi hk=>?_⟩
 ·have:=(hQ h i hi).2
  have hl:(dx p.nodes p.nodes[i]).length=p.nodes[i].of.length:=by simp [dx]
  rw [ew,hk] at this;generalize dx p.nodes p.nodes[i]=so at *;have:so=[1,3]\/so=[1,3,3]:=by simpa [dy] using this
  rcases this with rfl|rfl
  ·exact .inl hl.symm
  ·exact .inr hl.symm
 ·have:=(hQ h i hi).2
  have hl:(dx p.nodes p.nodes[i]).length=p.nodes[i].of.length:=by simp [dx]
  rw [ew,hk] at this;generalize dx p.nodes p.nodes[i]=so at *;have:so=[1,3]:=by simpa [dy] using this
  subst this;exact hl.symm
theorem getD_mem {l:List Int} {i:Nat} (h:i<l.length):l.getD i 0∈l:=by
 rw [List.getD,List.getElem?_eq_getElem h];exact List.getElem_mem h
theorem zD {ns:List Nd} (N:Nms) (h:Lays ns) (k:Nat):k<ns.length->∀(f a:Nat),k<f->lj ns N f (k:Int) a=lj ns N (k+1) (k:Int) a:=by
 induction k using Nat.strongRecOn with
 | ind k ih=>
  intro hk f a hf;obtain ⟨f,rfl⟩:∃g,f=g+1:=⟨f - 1,by omega⟩
  have hx:ns.getD (k:Int).toNat default=ns[k]:=by simp [List.getD,hk]
  have hc:∀c∈ns[k].of,∀a,lj ns N f c a=lj ns N k c a:=fun c hcm a=>by
   obtain ⟨h1,h2⟩:=h.low k hk c hcm;obtain ⟨m,rfl⟩:∃m:Nat,c=(m:Int):=⟨c.toNat,by omega⟩
   rw [ih m (by omega) (by omega) f a (by omega),ih m (by omega) (by omega) k a (by omega)]
  have h13:=h.ifs k hk;have h14:=h.zC k hk;rw [lj,lj,hx];generalize ns[k]=x at *;by_cases k13:x.kind=13
  ·have h13:=h13 k13
   simp only [if_pos k13];rw [hc _ (getD_mem (by omega))];simp only [hc _ (getD_mem (show 1<x.of.length by omega))];by_cases h3:x.of.length<3
   ·rw [if_pos h3,if_pos h3]
   ·rw [if_neg h3,if_neg h3]
    simp only [hc _ (getD_mem (show 2<x.of.length by omega))]
  ·simp only [if_neg k13]
   by_cases k14:x.kind=14
   ·have h14:=h14 k14
    simp only [if_pos k14];rw [hc _ (getD_mem (by omega))];simp only [hc _ (getD_mem (show 1<x.of.length by omega))]
   ·simp only [if_neg k14]
    rw [qh _ _ hc]
def lay (ns:List Nd) (N:Nms) (k:Int) (a:Nat):List In4:=lj ns N ns.length k a
theorem DT {ns:List Nd} (N:Nms) (h:Lays ns) (k:Nat) (hk:k<ns.length) (a:Nat):lay ns N k a =
  if ns[k].kind=13 then
   if ns[k].of.length<3 then lay ns N (ns[k].of.getD 0 0) a++⟨16,(a+(lay ns N (ns[k].of.getD 0 0) a).length+1+(lay ns N (ns[k].of.getD 1 0) (a+(lay ns N (ns[k].of.getD 0 0) a).length+1)).length:Nat),0,0⟩::lay ns N (ns[k].of.getD 1 0) (a+(lay ns N (ns[k].of.getD 0 0) a).length+1)
   else lay ns N (ns[k].of.getD 0 0) a++⟨16,(a+(lay ns N (ns[k].of.getD 0 0) a).length+1+(lay ns N (ns[k].of.getD 1 0) (a+(lay ns N (ns[k].of.getD 0 0) a).length+1)).length+1:Nat),0,0⟩::(lay ns N (ns[k].of.getD 1 0) (a+(lay ns N (ns[k].of.getD 0 0) a).length+1)++⟨15,(a+(lay ns N (ns[k].of.getD 0 0) a).length+1+(lay ns N (ns[k].of.getD 1 0) (a+(lay ns N (ns[k].of.getD 0 0) a).length+1)).length+1+(lay ns N (ns[k].of.getD 2 0) (a+(lay ns N (ns[k].of.getD 0 0) a).length+1+(lay ns N (ns[k].of.getD 1 0) (a+(lay ns N (ns[k].of.getD 0 0) a).length+1)).length+1)).length:Nat),0,0⟩::lay ns N (ns[k].of.getD 2 0) (a+(lay ns N (ns[k].of.getD 0 0) a).length+1+(lay ns N (ns[k].of.getD 1 0) (a+(lay ns N (ns[k].of.getD 0 0) a).length+1)).length+1))
  else if ns[k].kind=14 then lay ns N (ns[k].of.getD 0 0) a++⟨16,(a+(lay ns N (ns[k].of.getD 0 0) a).length+1+(lay ns N (ns[k].of.getD 1 0) (a+(lay ns N (ns[k].of.getD 0 0) a).length+1)).length+1:Nat),0,0⟩::(lay ns N (ns[k].of.getD 1 0) (a+(lay ns N (ns[k].of.getD 0 0) a).length+1)++[⟨15,(a:Nat),0,0⟩])
  else layAll (lay ns N) ns[k].of a++dP N ns[k]:=by
 have hx:ns.getD (k:Int).toNat default=ns[k]:=by simp [List.getD,hk]
 have hc:∀c∈ns[k].of,∀a,lj ns N k c a=lay ns N c a:=fun c hcm a=>by
  obtain ⟨h1,h2⟩:=h.low k hk c hcm;obtain ⟨m,rfl⟩:∃m:Nat,c=(m:Int):=⟨c.toNat,by omega⟩
  rw [lay,zD N h m (by omega) ns.length a (by omega),zD N h m (by omega) k a (by omega)]
 have h13:=h.ifs k hk;have h14:=h.zC k hk;rw [lay,zD N h k hk _ _ hk,lj,hx];generalize ns[k]=x at *;by_cases k13:x.kind=13
 ·have h13:=h13 k13
  simp only [if_pos k13];rw [hc _ (getD_mem (by omega))];simp only [hc _ (getD_mem (show 1<x.of.length by omega))];by_cases h3:x.of.length<3
  ·rw [if_pos h3,if_pos h3]
  ·rw [if_neg h3,if_neg h3]
   simp only [hc _ (getD_mem (show 2<x.of.length by omega))]
 ·simp only [if_neg k13]
  by_cases k14:x.kind=14
  ·have h14:=h14 k14
   simp only [if_pos k14];rw [hc _ (getD_mem (by omega))];simp only [hc _ (getD_mem (show 1<x.of.length by omega))]
  ·simp only [if_neg k14]
   rw [qh _ _ hc]
end Uw.Tryz
namespace Uw.Tryz
open Go Uw
theorem pv {ρ:Nat->Nat}:∀(a b:List V),fC ρ (a++b)=fC ρ a++fC ρ b
 | [],b=>rfl
 | v::a,b=>by rw [List.cons_append,fC,pv a,fC,List.cons_append]
theorem nj {ρ:Nat->Nat} (x:Dat):∀r,fC ρ (List.replicate r (.d x))=List.replicate r (.d x)
 | 0=>rfl
 | r+1=>by rw [List.replicate_succ,fC,nj x r];rfl
theorem sk {ρ:Nat->Nat} (rid:Nat->Nat):∀(ls:List (List Str)) (i:Nat),fC ρ (cn rid i ls)=cn (fun k=>ρ (rid k)) i ls
 | [],i=>rfl
 | l::ls,i=>by
  rw [cn,fC,sk rid ls,cn]
  congr 1
  split<;>rfl
theorem sn {ρ:Nat->Nat} (mid:Nat->Nat):∀(n i:Nat),fC ρ (bU mid i n)=bU (fun k=>ρ (mid k)) i n
 | 0,i=>rfl
 | n+1,i=>by rw [bU,fC,sn mid n,bU];rfl
theorem DU {α:Type} (xs:List α) (d v:α) (r:Nat):(xs++List.replicate (r+1) d).set xs.length v=xs++[v]++List.replicate r d:=by
 rw [List.set_append_right _ _ (Nat.le_refl _),Nat.sub_self,List.replicate_succ,List.set_cons_zero,List.append_assoc];rfl
theorem DV {ρ:Nat->Nat} {h h' : Heap}:∀{a a' b b' : List V},VWL ρ h h' a a'->VWL ρ h h' b b'->VWL ρ h h' (a++b) (a'++b')
 | [],[],_,_,_,h2=>h2
 | v::a,v'::a',_,_,h1,h2=>⟨h1.1,DV h1.2 h2⟩
 | [],_::_,_,_,h1,_=>h1.elim
 | _::_,[],_,_,h1,_=>h1.elim
def lA (j a b:Nat) (id:Nat):Nat:=if id=rid j then a else if id=mid j then b else id
def Over (fam H:Heap):Prop:=∀id,4<=id->id<1000000->look H id=look fam id
theorem bz {fam:Heap}:Over fam fam:=fun _ _ _=>rfl
theorem bA {fam H:Heap} {i:Nat} {b:Blk} (h:Over fam H) (hi:(Nat.blt i 4||Nat.ble 1000000 i)=true):Over fam ((i,b)::H):=fun id h1 h2=>by
 rw [ai,if_neg]
 ·exact h id h1 h2
 ·rintro rfl
  rw [Bool.or_eq_true] at hi
  rcases hi with hi|hi
  ·rw [Nat.blt_eq] at hi;omega
  ·have:=Nat.le_of_ble_eq_true hi;omega
theorem DW {p:Pg} {ls:List (List Str)} {ms:List MS} {l:List Str} {m:MS} {R R' : fp} {H:Heap} {r r' n a b:Nat} {v0:V} {rv' mv' : List V} (hms:ms.length=ls.length) (hl:ls.length<99999) (ha:1000000<=a) (hb:1000000<=b) (hab:a≠b)
  (h1:oC (lA ls.length a b) R H (loH p (cn rid 0 (ls++[l])++List.replicate r (.d .nil)) (bU mid 0 (ls.length+1)++List.replicate r' (.d .aV)) (cM (ls++[l]) (ms++[m]))) R')
  (e2:look H 2=some (.var rv')) (hrv:rv' = cn rid 0 ls++[v0]++List.replicate r (.d .nil)) (hv0:v0=(if l=[] then V.d (.slice 1 [] true) else .ref a 0 0 l.length)\/(l=[]/\v0 = .d .nil)) (e3:look H 3=some (.var mv')) (hmv:mv' = bU mid 0 ls.length++[.hnd b]++List.replicate r' (.d .aV))
  (e1:look H 1=some (.map none (thE p.decls))) (e0:look H 0=some (pgV p)) (ea:l≠[]->look H a=some (.arr 1 (rowT l))) (eb:look H b=some (.map none m))
  (ho:Over (cM ls ms) H) :
  Weak ⟨R,H,n,[],0⟩ ⟨R',loH p (cn rid 0 (ls++[l])++List.replicate r (.d .nil)) (bU mid 0 (ls.length+1)++List.replicate r' (.d .aV)) (cM (ls++[l]) (ms++[m])),1000000,[],0⟩:=by
 subst hrv hmv;have hf:∀id x,look (cM ls ms) id=some x->look H id=some x:=fun id x h=>by
  have:=fz h;rw [ho id this.1 (by omega)];exact h
 have hr:∀k,k<ls.length->lA ls.length a b (rid k)=rid k:=fun k hk=>by
  unfold lA;rw [if_neg (by simp only [rid];omega),if_neg (by simp only [rid,mid];omega)]
 have hm:∀k,k<ls.length->lA ls.length a b (mid k)=mid k:=fun k hk=>by
  unfold lA;rw [if_neg (by simp only [rid,mid];omega),if_neg (by simp only [mid];omega)]
 have hrj:lA ls.length a b (rid ls.length)=a:=by unfold lA;rw [if_pos rfl]
 have hmj:lA ls.length a b (mid ls.length)=b:=by unfold lA;rw [if_neg (by simp only [rid,mid];omega),if_pos rfl]
 have hlow:∀k,k<4->lA ls.length a b k=k:=fun k hk=>by unfold lA;rw [if_neg (by simp only [rid];omega),if_neg (by simp only [mid];omega)]
 have hlen:(ls++[l]).length=ls.length+1:=by simp
 refine Weak.MB (lA ls.length a b) h1 ?_ ?_
 ·intro id x hx
  rcases sj hx with ⟨rfl,rfl⟩|⟨rfl,rfl⟩|⟨rfl,rfl⟩|⟨rfl,rfl⟩|hx
  ·refine ⟨⟨_,by rw [hlow 2 (by omega)];exact e2,?_⟩,by omega⟩
   have hcl:=om (p:=p) (ls:=ls++[l]) (ms:=ms++[m]) (rv:=cn rid 0 (ls++[l])++List.replicate r (.d .nil)) (mv:=bU mid 0 (ls.length+1)++List.replicate r' (.d .aV)) (r:=r) (by simp [hms]);have hc:cn (fun k=>lA ls.length a b (rid k)) 0 ls=cn rid 0 ls:=xi ls 0 fun k l' hk _=>by
    have hkl:k<ls.length:=by
     rcases Nat.lt_or_ge k ls.length with h|h
     ·exact h
     ·rw [List.getElem?_eq_none h] at hk;cases hk
    simp only [Nat.zero_add];exact hr k hkl
   have U2:fC (lA ls.length a b) (cn rid 0 (ls++[l])++List.replicate r (.d .nil))=cn rid 0 ls++[if l=[] then V.d (.slice 1 [] true) else .ref a 0 0 l.length]++List.replicate r (.d .nil):=by
    rw [pv,nj,sk,uf,hc];simp only [Nat.zero_add];rw [hrj]
   rcases hv0 with rfl|⟨rfl,rfl⟩
   ·show VWL _ _ _ _ _
    rw [<- U2];exact sa hcl
   ·have h3:=sa (ρ:=lA ls.length a b) (h:=H) hcl
    rw [U2] at h3;show VWL _ _ _ (cn rid 0 ls++[V.d .nil]++List.replicate r (.d .nil)) (cn rid 0 (ls++[[]])++List.replicate r (.d .nil));rw [uf] at hcl ⊢;rw [if_pos rfl] at hcl ⊢;rw [dU] at hcl;refine DV (DV ?_ ⟨.inr (.inr (.inr (.inr (.inr ⟨rfl,1,true,rfl⟩)))),trivial⟩) ?_
    ·have:=sa (ρ:=lA ls.length a b) (h:=H) (cs:=cn rid 0 ls) (dU.2 fun v hv=>hcl v (by simp [hv]))
     rw [sk,hc] at this;exact this
    ·have:=sa (ρ:=lA ls.length a b) (h:=H) (cs:=List.replicate r (V.d .nil)) (dU.2 fun v hv=>hcl v (by simp [List.mem_replicate] at hv ⊢;exact .inr (.inr hv)))
     rw [nj] at this;exact this
  ·refine ⟨⟨_,by rw [hlow 3 (by omega)];exact e3,dZ ?_ ?_⟩,by omega⟩
   ·show _=Blk.var (fC _ _)
    have hc:bU (fun k=>lA ls.length a b (mid k)) 0 ls.length=bU mid 0 ls.length:=oe ls.length 0 fun k hk=>by simp only [Nat.zero_add];exact hm k hk
    rw [pv,nj,sn,ug,hc];simp only [Nat.zero_add];rw [hmj]
   ·show cF _ _=true
    exact oq (by simp [hms]) (by simp)
  ·exact ⟨⟨_,by rw [hlow 1 (by omega)];exact e1,dZ rfl rfl⟩,by omega⟩
  ·exact ⟨⟨_,by rw [hlow 0 (by omega)];exact e0,dZ rfl rfl⟩,by omega⟩
  ·obtain ⟨g1,g2,g3,g4⟩:=fz hx
   refine ⟨⟨x,?_,dZ (g4 _).symm (g3 _)⟩,by rw [hlen] at g2;omega⟩
   rcases vp hx with ⟨k,m',k1,k2,k3,rfl,rfl⟩|⟨k,l',k1,k2,k3,k4,rfl,rfl⟩
   ·rw [Nat.zero_add]
    by_cases hk:k<ls.length
    ·rw [hm k hk]
     refine hf _ _ ?_;have:=qf (wo ls.length) (ls:=ls) (ms:=ms) (i:=0) (k:=k) (m:=m') (by omega) hk (by rwa [List.getElem?_append_left (by omega)] at k3)
     rwa [Nat.zero_add] at this
    ·rw [hlen] at k1
     obtain rfl:k=ls.length:=by omega
     rw [List.getElem?_append_right (by omega),hms,Nat.sub_self] at k3;injection k3 with k3
     rw [hmj,<- k3];exact eb
   ·rw [Nat.zero_add]
    by_cases hk:k<ls.length
    ·rw [hr k hk]
     refine hf _ _ ?_;have:=vq (wo ls.length) (ls:=ls) (ms:=ms) (i:=0) (k:=k) (l:=l') (by omega) (by omega) (by rwa [List.getElem?_append_left hk] at k3) k4
     rwa [Nat.zero_add] at this
    ·rw [hlen] at k1
     obtain rfl:k=ls.length:=by omega
     rw [List.getElem?_append_right (by omega),Nat.sub_self] at k3;injection k3 with k3
     rw [hrj];rw [<- k3] at k4 ⊢;exact ea k4
 ·intro id id' h h' he
  have bd:∀i,(look (loH p (cn rid 0 (ls++[l])++List.replicate r (.d .nil)) (bU mid 0 (ls.length+1)++List.replicate r' (.d .aV)) (cM (ls++[l]) (ms++[m]))) i).isSome=true->i<1000000:=by
   intro i hi;obtain ⟨x,hx⟩:=Option.isSome_iff_exists.1 hi
   rcases sj hx with ⟨rfl,rfl⟩|⟨rfl,rfl⟩|⟨rfl,rfl⟩|⟨rfl,rfl⟩|hx
   ·omega
   ·omega
   ·omega
   ·omega
   ·have:=(fz hx).2.1
    rw [hlen] at this;omega
  have b1:=bd id h;have b2:=bd id' h';unfold lA at he
  split at he
  ·split at he
   ·omega
   ·split at he<;>omega
  ·split at he
   ·split at he
    ·omega
    ·split at he<;>omega
   ·split at he
    ·omega
    ·split at he<;>omega
theorem QR {p:Pg} {ls:List (List Str)} {ms:List MS} {m m' : MS} {rows:List (List Dat)} {R R' : fp} {H:Heap} {r r' n k:Nat} {rv' mv' : List V} (hms:ms.length=ls.length) (hl:ls.length<99999) (hrv:rv' = cn rid 0 ls++[V.ref 1000001 0 0 k]++List.replicate r (.d .nil)) (hmv:mv' = bU mid 0 ls.length++[.hnd 1000002]++List.replicate r' (.d .aV))
  (h1:oC (dh []) R H ((1000002,.map none m')::(1000001,.arr 1 rows)::loH p rv' mv' (cM ls ms)) R') (e2:look H 2=some (.var rv')) (e3:look H 3=some (.var mv')) (e1:look H 1=some (.map none (thE p.decls))) (e0:look H 0=some (pgV p)) (ea:look H 1000001=some (.arr 1 rows)) (eb:look H 1000002=some (.map none m)) (hm:m=m')
  (ho:Over (cM ls ms) H):Weak ⟨R,H,n,[],0⟩ ⟨R',(1000002,.map none m')::(1000001,.arr 1 rows)::loH p rv' mv' (cM ls ms),1000003,[],0⟩:=by
 subst hm;have hup:∀(v:V),v.closed (loH p rv' mv' (cM ls ms))=true->∀(i:Nat),(v = .hnd i\/∃o l w,v = .ref i o l w)\/(∃x,v = .d x)->v.closed ((1000002,.map none m)::(1000001,.arr 1 rows)::loH p rv' mv' (cM ls ms))=true:=by
  intro v hv i hi;have hlk:∀i,(look (loH p rv' mv' (cM ls ms)) i).isSome=true->(look ((1000002,.map none m)::(1000001,.arr 1 rows)::loH p rv' mv' (cM ls ms)) i).isSome=true:=by
   intro i h;rw [ai]
   split
   ·rfl
   ·rw [ai]
    split
    ·rfl
    ·exact h
  rcases hi with (rfl|⟨o,l,w,rfl⟩)|⟨x,rfl⟩
  ·exact hlk i hv
  ·exact hlk i hv
  ·rfl
 refine Weak.looks h1 ?_ (Nat.zero_le _) (fun id h=>absurd h (Nat.not_lt_zero _));intro id x hx;rw [ai] at hx;by_cases h2:1000002=id
 ·rw [if_pos h2] at hx;injection hx with hx;subst h2 hx;exact ⟨eb,rfl,by omega⟩
 rw [if_neg h2,ai] at hx;by_cases h3:1000001=id
 ·rw [if_pos h3] at hx;injection hx with hx;subst h3 hx;exact ⟨ea,rfl,by omega⟩
 rw [if_neg h3] at hx
 rcases sj hx with ⟨rfl,rfl⟩|⟨rfl,rfl⟩|⟨rfl,rfl⟩|⟨rfl,rfl⟩|hx
 ·refine ⟨e2,?_,by omega⟩
  show cF _ _=true;have hc:=om (p:=p) (ls:=ls) (ms:=ms) (rv:=rv') (mv:=mv') (r:=r) hms;rw [dU] at hc ⊢;intro v hv;rw [hrv] at hv
  rcases List.mem_append.1 hv with hv|hv
  ·rcases List.mem_append.1 hv with hv|hv
   ·obtain ⟨q,hq⟩:=List.mem_iff_getElem?.1 hv
    have hql:q<ls.length:=by
     rcases Nat.lt_or_ge q ls.length with h|h
     ·exact h
     ·rw [List.getElem?_eq_none (by rw [eG];exact h)] at hq;cases hq
    have hg:=ku rid ls 0 q ls[q] (by simp [hql]);rw [hq] at hg;injection hg with hg
    refine hup v (hc v (List.mem_append_left _ hv)) (rid (0+q)) ?_;rw [hg]
    split
    ·exact .inr ⟨_,rfl⟩
    ·exact .inl (.inr ⟨_,_,_,rfl⟩)
   ·simp at hv;subst hv;rfl
  ·exact hup v (hc v (List.mem_append_right _ hv)) 0 (.inr ⟨.nil,(List.mem_replicate.1 hv).2⟩)
 ·refine ⟨e3,?_,by omega⟩
  show cF _ _=true;have hc:=oq (p:=p) (ls:=ls) (ms:=ms) (rv:=rv') (mv:=mv') (r:=r') hms rfl;rw [dU] at hc ⊢;intro v hv;rw [hmv] at hv
  rcases List.mem_append.1 hv with hv|hv
  ·rcases List.mem_append.1 hv with hv|hv
   ·obtain ⟨q,hq⟩:=List.mem_iff_getElem?.1 hv
    have hql:q<ls.length:=by
     rcases Nat.lt_or_ge q ls.length with h|h
     ·exact h
     ·rw [List.getElem?_eq_none (by rw [di];exact h)] at hq;cases hq
    have hg:=kx mid ls.length 0 q hql;rw [hq] at hg;injection hg with hg
    exact hup v (hc v (List.mem_append_left _ hv)) (mid (0+q)) (.inl (.inl hg))
   ·simp at hv;subst hv;rfl
  ·exact hup v (hc v (List.mem_append_right _ hv)) 0 (.inr ⟨.aV,(List.mem_replicate.1 hv).2⟩)
 ·exact ⟨e1,rfl,by omega⟩
 ·exact ⟨e0,rfl,by omega⟩
 ·obtain ⟨g1,g2,g3,_⟩:=fz hx
  exact ⟨by rw [ho id g1 (by omega)];exact hx,g3 _,by omega⟩
end Uw.Tryz
namespace Uw.Tryz
open Go Uw
abbrev nF (p:Pg):Nat:=(p.ae.map fuL).length
abbrev loR (p:Pg):fp:=[(6,.row 3 (nF p)),(5,.row 2 (nF p)),(4,.d (bT (aU p))),(3,.hnd 1),(1,.ptr 0 0)]
abbrev cN (p:Pg):List (List Str):=p.ae.map (·.args)
abbrev ig (ls:List (List Str)) (r:Nat):List V:=cn rid 0 ls++List.replicate r (.d .nil)
abbrev jX (n r:Nat):List V:=bU mid 0 n++List.replicate r (.d .aV)
abbrev HG (p:Pg) (j:Nat):St:=⟨(31,.d (I j))::(30,.d (I ((p.ae.map fuL).length:Nat)))::(29,.d (.slice 3 (p.ae.map fuL) false))::loR p,loH p (ig ((cN p).take j) (nF p - j)) (jX j (nF p - j)) (cM ((cN p).take j) (((cN p).take j).map ct)),1000000,[],0⟩
set_option maxRecDepth 4000 in
set_option maxHeartbeats 4000000 in
theorem SJ (p:Pg) (hf:bE p=true) (hp:Lim p) (hn0:p.ae=[]):ao p=[]/\Ret P0 jT [pgD p] (.slice 1 [] true):=by
 have hth:=nh p hp.decls;have how:=ni p hf hp;have hfl:(p.ae.map fuL).length=p.ae.length:=by simp
 have V1:(decide (((p.ae.map fuL).length:Int)=((p.ae.map fuL).length:Nat))&&decide ((0:Int)<=((p.ae.map fuL).length:Nat))&&decide ((((p.ae.map fuL).length:Nat):Int) * ((24:Nat):Int)<=70368744177664))=true:=by rw [hn0];rfl
 have V2:(decide (((p.ae.map fuL).length:Int)=((p.ae.map fuL).length:Nat))&&decide ((0:Int)<=((p.ae.map fuL).length:Nat))&&decide ((((p.ae.map fuL).length:Nat):Int) * ((8:Nat):Int)<=70368744177664))=true:=by rw [hn0];rfl
 have hf0:(p.ae.map fuL).length=0:=by rw [hn0];rfl
 have hns:p.nodes=[]:=by
  refine Classical.byContradiction fun hne=>?_;have hpos:0<p.nodes.length:=List.length_pos_iff.2 hne;have:=zx hf _ 0 hpos (Nat.le_refl _);rw [hn0] at this;simp at this;omega
 have hn1:(p.nodes.map ndL).length=0:=by rw [hns];rfl
 refine ⟨by rw [ao,hns,hn0];rfl,?_⟩;refine az qx rfl ?_
 repeat refine aw ?_
 refine ag 1 [] hth ?_
 repeat (first|refine aw ?_|refine f1 ?_)
 refine dY 1 ?_
 repeat (first|refine aw ?_|refine f1 ?_)
 refine mC ?_
 repeat (first|refine aw ?_|refine f1 ?_)
 refine dY 1 ?_
 repeat (first|refine aw ?_|refine f1 ?_)
 refine mC ?_
 repeat (first|refine aw ?_|refine f1 ?_)
 exact ak rfl rfl rfl rfl rfl
theorem IX (a:Nat) (x y:Blk) (rest:Heap) (i:Nat):look ((a,x)::rest) i=look ((a,x)::(a,y)::rest) i:=by
 rw [ai,ai,ai]
 split<;>rfl
theorem cX {st S S' : St} [Glob] (h:S=S') (hw:Weak st S'):Weak st S:=by rw [h];exact hw
theorem zE {j a b k:Nat} (hk:k<4):lA j a b k=k:=by unfold lA;rw [if_neg (by simp only [rid];omega),if_neg (by simp only [mid];omega)]
theorem IY {j a b k n:Nat} {h h' : Heap} (hk:k<4) (hc:(look h' k).isSome=true):VW (lA j a b) h h' (.row k n) (.row k n):=.inl ⟨by rw [V.ren,zE hk],hc⟩
theorem O6 {j a b k:Nat} {h h' : Heap} (hk:k<4) (hc:(look h' k).isSome=true):VW (lA j a b) h h' (.hnd k) (.hnd k):=.inl ⟨by rw [V.ren,zE hk],hc⟩
theorem O7 {j a b k o:Nat} {h h' : Heap} (hk:k<4) (hc:(look h' k).isSome=true):VW (lA j a b) h h' (.ptr k o) (.ptr k o):=.inl ⟨by rw [V.ren,zE hk],hc⟩
theorem DX {p:Pg} {j a b:Nat} {R:fp} {H:Heap} {rv mv:List V} {fam:Heap} (h6:look R 6=some (.row 3 (nF p))) (h5:look R 5=some (.row 2 (nF p))) (h4:look R 4=some (.d (bT (aU p)))) (h3:look R 3=some (.hnd 1)) (h1:look R 1=some (.ptr 0 0)) :
  oC (lA j a b) R H (loH p rv mv fam) (loR p):=
 ⟨⟨_,h6,IY (by omega) rfl⟩,⟨_,h5,IY (by omega) rfl⟩,⟨_,h4,.inl ⟨rfl,rfl⟩⟩,⟨_,h3,O6 (by omega) rfl⟩,⟨_,h1,O7 (by omega) rfl⟩,trivial⟩
def O8 (l:List Str):List Dat:=[if l=[] then .slice 1 [] true else .slice 1 (rowT l) false]
def qL:b9->b9
 | .seq x _=>x
 | .block _ x=>x
 | .loop x=>x
 | c=>c
def qR:b9->b9
 | .seq _ y=>y
 | c=>c
def V3:b9:=qL (qL (qR (qL (qR (qR (qR (qR (qR m5.code))))))))
set_option maxRecDepth 20000 in
set_option maxHeartbeats 4000000 in
theorem JM (p:Pg) (hp:Lim p) (j:Nat) (hj:j<nF p) (hpre:∀i,i<j->True) {QQ:aH->St->Prop}:WT P0 (mT (HG p) (AE (nF p) fun _=>True) (forM (nF p)) j QQ) (exec V3 (HG p j) Tree.done):=by
 have hfl:nF p=p.ae.length:=by simp
 have V4:(p.ae.map fuL).length=p.ae.length:=by simp
 have hF:=hp.ae;have hal:(cN p).length=p.ae.length:=by simp
 have hel:∀(j:Nat) (h:j<p.ae.length),(p.ae.map fuL)[(j:Int).toNat]? = some (fuL p.ae[j]):=by intro j h;simp [h]
 have hlt:∀j,j<=p.ae.length->((cN p).take j).length=j:=fun j h=>by rw [List.length_take,hal];omega
 have hj2:j<p.ae.length:=by rw [<- hfl];exact hj
 have he:=hel j hj2;have hal2:(ig ((cN p).take j) (nF p - j)).length=nF p:=by rw [List.length_append,eG,hlt j (by omega),List.length_replicate];omega
 have V5:(jX j (nF p - j)).length=nF p:=by rw [List.length_append,di,List.length_replicate];omega
 generalize hfe:p.ae[j]=f at *;obtain ⟨fn,fa,fb⟩:=f;have he:(p.ae.map fuL)[(j:Int).toNat]? = some [.str fn,fY fa,I fb]:=he;have hrl:(fa.map fun s=>[Dat.str s]).length=fa.length:=by simp
 have WI:fa.length<100000:=by have:=hp.args _ (List.getElem_mem hj2);rw [hfe] at this;exact this
 have hby:decide ((fa.map fun s=>[Dat.str s]).length * 16<=70368744177664)=true:=by simp;omega
 have hsr:∀v,(ig ((cN p).take j) (nF p - j)).set ((j:Int).toNat * 1) v=cn rid 0 ((cN p).take j)++[v]++List.replicate (nF p - (j+1)) (.d .nil):=fun v=>by
  have:=DU (cn rid 0 ((cN p).take j)) (V.d .nil) v (nF p - (j+1));rw [eG,hlt j (by omega),show nF p - (j+1)+1=nF p - j by omega] at this;rw [show (j:Int).toNat * 1=j by omega];exact this
 have hsm:∀v,(jX j (nF p - j)).set ((j:Int).toNat * 1) v=bU mid 0 j++[v]++List.replicate (nF p - (j+1)) (.d .aV):=fun v=>by
  have:=DU (bU mid 0 j) (V.d .aV) v (nF p - (j+1));rw [di,show nF p - (j+1)+1=nF p - j by omega] at this;rw [show (j:Int).toNat * 1=j by omega];exact this
 have SK:∀v,(jX j (nF p - j)).set ((j:Int).toNat * 1) v=bU mid 0 ((cN p).take j).length++[v]++List.replicate (nF p - (j+1)) (.d .aV):=fun v=>by rw [hsm,hlt j (by omega)]
 have htk:(cN p).take (j+1)=(cN p).take j++[fa]:=by
  rw [List.take_succ_eq_append_getElem (by rw [hal];exact hj2)];simp [cN,hfe]
 have hS:HG p (j+1)=⟨(31,.d (I ((j+1:Nat):Int)))::(30,.d (I ((p.ae.map fuL).length:Nat)))::(29,.d (.slice 3 (p.ae.map fuL) false))::loR p,loH p (cn rid 0 ((cN p).take j++[fa])++List.replicate (nF p - (j+1)) (.d .nil)) (bU mid 0 (((cN p).take j).length+1)++List.replicate (nF p - (j+1)) (.d .aV)) (cM ((cN p).take j++[fa]) (((cN p).take j).map ct++[ct fa])),1000000,[],0⟩:=by
  rw [HG,htk,hlt j (by omega),List.map_append];rfl
 have hms:(((cN p).take j).map ct).length=((cN p).take j).length:=by simp
 have hl5:((cN p).take j).length<99999:=by rw [hlt j (by omega)];omega
 obtain ⟨E,hE⟩:∃E:Nat->MS,∀i,E i=ct (fa.take i):=⟨_,fun _=>rfl⟩
 have hE0:([]:MS)=E 0:=by rw [hE];rfl
 have hEn:E fa.length=ct fa:=by rw [hE,List.take_length]
 have hEs:∀(i:Nat) (h:i<fa.length),dJ (E i) (.s fa[i]) (.bool true)=E (i+1):=fun i h=>by rw [hE,hE,List.take_succ_eq_append_getElem h,qg]
 have hge:∀(i:Nat) (h:i<fa.length),(fa.map fun s=>[Dat.str s])[(i:Int).toNat]? = some [.str fa[i]]:=fun i h=>by simp [h]
 obtain ⟨rv',hrv⟩:∃rv',rv' = cn rid 0 ((cN p).take j)++[V.ref 1000001 0 0 fa.length]++List.replicate (nF p - (j+1)) (.d .nil):=⟨_,rfl⟩
 obtain ⟨mv',hmv⟩:∃mv',mv' = bU mid 0 ((cN p).take j).length++[V.hnd 1000002]++List.replicate (nF p - (j+1)) (.d .aV):=⟨_,rfl⟩
 have hmg:mv'[(j:Int).toNat * 1]? = some (.hnd 1000002):=by
  rw [hmv,hlt j (by omega),List.append_assoc,List.getElem?_append_right (by rw [di];omega),di];simp
 have V6:(ig ((cN p).take j) (nF p - j)).set ((j:Int).toNat * 1) (V.ref 1000001 0 0 (fa.map fun s=>[Dat.str s]).length)=rv':=by rw [hsr,hrv,hrl]
 have MC:(jX j (nF p - j)).set ((j:Int).toNat * 1) (V.hnd 1000002)=mv':=by rw [SK,hmv]
 have V7:mv'.length=nF p:=by rw [<- MC,List.length_set];exact V5
 by_cases hfa:fa=[]
 ·subst hfa
  have hemp:(([]:List Str).map fun s=>[Dat.str s]).isEmpty=true:=rfl
  repeat (first|refine aw ?_|refine f1 ?_)
  refine dF qA rfl ?_
  repeat (first|refine aw ?_|refine f1 ?_)
  refine Iw ?_ ?_
  ·repeat (first|refine aw ?_|refine f1 ?_)
   refine dX rfl rfl ?_
   repeat (first|refine aw ?_|refine f1 ?_)
   refine dY 1 ?_;refine aw ?_;refine mC ?_
   repeat (first|refine aw ?_|refine f1 ?_)
   refine aJ j trivial (cX hS ?_);exact DW (a:=1000005) (b:=1000001) (v0:=.d .nil) hms hl5 (by omega) (by omega) (by omega) ⟨⟨_,rfl,cQ rfl⟩,⟨_,rfl,.inl ⟨rfl,rfl⟩⟩,⟨_,rfl,.inl ⟨rfl,rfl⟩⟩,DX rfl rfl rfl rfl rfl⟩ rfl (hsr _) (.inr ⟨rfl,rfl⟩) rfl (SK _) rfl rfl (fun h=>absurd rfl h) rfl (by (repeat refine bA ?_ rfl);exact bz)
  ·repeat (first|refine aw ?_|refine f1 ?_)
   refine dX rfl rfl ?_
   repeat (first|refine aw ?_|refine f1 ?_)
   refine dY 1 ?_;refine aw ?_;refine mC ?_
   repeat (first|refine aw ?_|refine f1 ?_)
   refine aJ j trivial (cX hS ?_);exact DW (a:=1000005) (b:=1000001) (v0:=.d (.slice 1 [] true)) hms hl5 (by omega) (by omega) (by omega) ⟨⟨_,rfl,cQ rfl⟩,⟨_,rfl,.inl ⟨rfl,rfl⟩⟩,⟨_,rfl,.inl ⟨rfl,rfl⟩⟩,DX rfl rfl rfl rfl rfl⟩ rfl (hsr _) (.inl rfl) rfl (SK _) rfl rfl (fun h=>absurd rfl h) rfl (by (repeat refine bA ?_ rfl);exact bz)
 have hemp:(fa.map fun s=>[Dat.str s]).isEmpty=false:=by cases fa<;>first|rfl|exact absurd rfl hfa
 repeat (first|refine aw ?_|refine f1 ?_)
 refine dF qA rfl ?_
 repeat (first|refine aw ?_|refine f1 ?_)
 refine dX rfl rfl ?_
 repeat (first|refine aw ?_|refine f1 ?_)
 refine cb fa.length (fun i:Nat=>⟨(49,.d (I i))::(48,.d (I ((fa.map fun s=>[Dat.str s]).length:Nat)))::(47,.d (fY fa))::(7,.d (I j))::(31,.d (I j))::(30,.d (I ((p.ae.map fuL).length:Nat)))::(29,.d (.slice 3 (p.ae.map fuL) false))::loR p,(1000002,.map none (E i))::(1000001,.arr 1 (rowT fa))::loH p rv' mv' (cM ((cN p).take j) (((cN p).take j).map ct)),1000003,[],0⟩) (fun _=>True) ?_ (fun _=>?_) (fun i hi _=>?_)
 ·refine QR hms hl5 hrv hmv ?_ (by rw [<- V6];rfl) (by rw [<- MC];rfl) rfl rfl rfl rfl hE0 (by (repeat refine bA ?_ rfl);exact bz)
  repeat' first|exact trivial|refine ⟨⟨_,rfl,?_⟩,?_⟩|exact cQ (by first|with_reducible rfl|omega)|exact Or.inl ⟨rfl,rfl⟩
 ·refine aw ?_
  refine aC ?_;refine aw ?_;refine aJ j trivial (cX hS ?_);exact DW (a:=1000001) (b:=1000002) (v0:=.ref 1000001 0 0 fa.length) hms hl5 (by omega) (by omega) (by omega) ⟨⟨_,rfl,cQ rfl⟩,⟨_,rfl,.inl ⟨rfl,rfl⟩⟩,⟨_,rfl,.inl ⟨rfl,rfl⟩⟩,DX rfl rfl rfl rfl rfl⟩ rfl hrv (.inl (by rw [if_neg hfa])) rfl hmv rfl rfl (fun _=>rfl) (by rw [<- hEn];rfl) (by (repeat refine bA ?_ rfl);exact bz)
 have hg:=hge i hi;have hs:=hEs i hi;generalize fa[i]=nm at *
 repeat (first|refine aw ?_|refine f1 ?_)
 refine yM ((1000002,.map none (dJ (E i) (.s nm) (.bool true)))::(1000001,.arr 1 (rowT fa))::loH p rv' mv' (cM ((cN p).take j) (((cN p).take j).map ct))) (IX _ _ _ _) ?_
 repeat (first|refine aw ?_|refine f1 ?_)
 refine aJ i trivial ?_;refine QR hms hl5 hrv hmv ?_ rfl rfl rfl rfl rfl rfl hs (by (repeat refine bA ?_ rfl);exact bz)
 repeat' first|exact trivial|refine ⟨⟨_,rfl,?_⟩,?_⟩|exact cQ (by first|with_reducible rfl|omega)|exact Or.inl ⟨rfl,rfl⟩
end Uw.Tryz
namespace Uw.Tryz
open Go Uw
theorem FY {rid mid:Nat->Nat} {n:Nat} (hI:MA rid mid n) (m:MS) (id:Nat):∀(ls:List (List Str)) (ms:List MS) (i k:Nat),i+ls.length<=n->k<ls.length->k<ms.length->look (jW rid mid i ls (ms.set k m)) id=if id=mid (i+k) then some (.map none m) else look (jW rid mid i ls ms) id
 | [],_,i,k,_,h,_=>by simp at h
 | l::ls,[],i,k,_,_,h=>by simp at h
 | l::ls,m0::ms,i,0,hn,_,_=>by
  simp only [List.length_cons] at hn;rw [List.set_cons_zero,jW,jW,lh,lh];by_cases he:id=mid (i+0)
  ·rw [if_pos he]
   have h1:look (if l=[] then [] else [(rid i,Blk.arr 1 (rowT l))]) id=none:=by
    split
    ·rfl
    ·rw [ai,if_neg (fun e=>hI.rm i i (by omega) (by omega) (e.trans he))];rfl
   rw [h1,ai,if_pos (show mid i=id from he.symm)]
  ·rw [if_neg he,ai,ai,if_neg (show ¬mid i=id from fun e=>he e.symm)]
   simp only [if_neg (show ¬mid i=id from fun e=>he e.symm)]
 | l::ls,m0::ms,i,k+1,hn,hk,hm=>by
  simp only [List.length_cons] at hn hk hm;rw [List.set_cons_succ,jW,jW,lh,lh,ai,ai,FY hI m id ls ms (i+1) k (by omega) (by omega) (by omega),show i+1+k=i+(k+1) by omega];by_cases he:id=mid (i+(k+1))
  ·rw [if_pos he,if_pos he]
   have h1:look (if l=[] then [] else [(rid i,Blk.arr 1 (rowT l))]) id=none:=by
    split
    ·rfl
    ·rw [ai,if_neg (fun e=>hI.rm i (i+(k+1)) (by omega) (by omega) (e.trans he))];rfl
   rw [h1,if_neg (fun e=>by have:=hI.mm i (i+(k+1)) (by omega) (by omega) (e.trans he);omega)]
  ·rw [if_neg he,if_neg he]
theorem zF {rid mid:Nat->Nat} {n:Nat} (hI:MA rid mid n) {l' : List Str} (hl' : l'≠[]) (id:Nat):∀(ls:List (List Str)) (ms:List MS) (i k:Nat),i+ls.length<=n->k<ls.length->k<ms.length->look (jW rid mid i (ls.set k l') ms) id=if id=rid (i+k) then some (.arr 1 (rowT l')) else look (jW rid mid i ls ms) id
 | [],_,i,k,_,h,_=>by simp at h
 | l::ls,[],i,k,_,_,h=>by simp at h
 | l::ls,m0::ms,i,0,hn,_,_=>by
  simp only [List.length_cons] at hn;rw [List.set_cons_zero,jW,jW,if_neg hl',List.cons_append,ai];by_cases he:id=rid (i+0)
  ·rw [if_pos he,if_pos (show rid i=id from he.symm)]
  ·rw [if_neg he,if_neg (show ¬rid i=id from fun e=>he e.symm)]
   split
   ·rfl
   ·rw [List.cons_append,ai,if_neg (show ¬rid i=id from fun e=>he e.symm)]
 | l::ls,m0::ms,i,k+1,hn,hk,hm=>by
  simp only [List.length_cons] at hn hk hm;rw [List.set_cons_succ,jW,jW,lh,lh,ai,ai,zF hI hl' id ls ms (i+1) k (by omega) (by omega) (by omega),show i+1+k=i+(k+1) by omega];by_cases he:id=rid (i+(k+1))
  ·rw [if_pos he,if_pos he]
   have h1:look (if l=[] then [] else [(rid i,Blk.arr 1 (rowT l))]) id=none:=by
    split
    ·rfl
    ·rw [ai,if_neg (fun e=>by have:=hI.rr i (i+(k+1)) (by omega) (by omega) (e.trans he);omega)];rfl
   rw [h1,if_neg (fun e=>hI.rm (i+(k+1)) i (by omega) (by omega) (e.trans he).symm)]
  ·rw [if_neg he,if_neg he]
theorem BL (rid:Nat->Nat):∀(ls:List (List Str)) (i k:Nat) (l' : List Str),k<ls.length->(cn rid i ls).set k (if l' = [] then V.d (.slice 1 [] true) else .ref (rid (i+k)) 0 0 l'.length)=cn rid i (ls.set k l')
 | [],i,k,l',h=>by simp at h
 | l::ls,i,0,l',h=>rfl
 | l::ls,i,k+1,l',h=>by
  have:=BL rid ls (i+1) k l' (by simpa using h);rw [cn,List.set_cons_succ,List.set_cons_succ,cn,<- this,show i+1+k=i+(k+1) by omega]
theorem IZ {c fam U3 : Heap} {a:Nat} {x:Blk} (hc:∀q∈c,q.1≠a) (hf:∀id,look U3 id=if id=a then some x else look fam id) (id:Nat):look (c++U3) id=look ((a,x)::(c++fam)) id:=by
 rw [ai,lh,lh,hf id];by_cases he:id=a
 ·subst he
  have:look c id=none:=by
   cases h:look c id with
   | none=>rfl
   | some b=>exact absurd rfl (hc _ (rb h))
  rw [if_pos rfl,if_pos rfl,this]
 ·rw [if_neg he,if_neg (fun e=>he e.symm)]
theorem vr {p:Pg} {ls:List (List Str)} {ms:List MS} {R R' : fp} {H:Heap} {r r' n:Nat} {rv' : List V} (hms:ms.length=ls.length) (hl:ls.length<100000) (h1:oC (dh []) R H (loH p (cn rid 0 ls++List.replicate r (.d .nil)) (bU mid 0 ls.length++List.replicate r' (.d .aV)) (cM ls ms)) R')
  (e2:look H 2=some (.var rv')) (hrv:rv' = cn rid 0 ls++List.replicate r (.d .nil)) (e3:look H 3=some (.var (bU mid 0 ls.length++List.replicate r' (.d .aV)))) (e1:look H 1=some (.map none (thE p.decls))) (e0:look H 0=some (pgV p))
  (ho:Over (cM ls ms) H):Weak ⟨R,H,n,[],0⟩ ⟨R',loH p (cn rid 0 ls++List.replicate r (.d .nil)) (bU mid 0 ls.length++List.replicate r' (.d .aV)) (cM ls ms),1000000,[],0⟩:=by
 subst hrv;exact DO hms hl h1 e2 e3 e1 e0 (fun id x h=>by have:=fz h;rw [ho id this.1 (by omega)];exact h)
def qi (j a:Nat) (id:Nat):Nat:=if id=rid j then a else id
theorem SL {p:Pg} {ls:List (List Str)} {ms:List MS} {l:List Str} {R R' : fp} {H:Heap} {n k:Nat} {rv' : List V} (hms:ms.length=ls.length) (hl:ls.length<100000) (hk:k<ls.length) (hne:l≠[])
  (h1:oC (qi k 1000001) R H (loH p (ig (ls.set k l) 0) (jX (ls.set k l).length 0) (cM (ls.set k l) ms)) R')
  (e2:look H 2=some (.var rv')) (hrv:rv' = (ig ls 0).set k (.ref 1000001 0 0 l.length)) (e3:look H 3=some (.var (jX ls.length 0))) (e1:look H 1=some (.map none (thE p.decls))) (e0:look H 0=some (pgV p)) (ea:look H 1000001=some (.arr 1 (rowT l)))
  (ho:Over (cM ls ms) H):Weak ⟨R,H,n,[],0⟩ ⟨R',loH p (ig (ls.set k l) 0) (jX (ls.set k l).length 0) (cM (ls.set k l) ms),1000000,[],0⟩:=by
 subst hrv;have hlen:(ls.set k l).length=ls.length:=by simp
 rw [hlen] at h1 ⊢;have hlow:∀i,i<4->qi k 1000001 i=i:=fun i h=>by unfold qi;rw [if_neg (by simp only [rid];omega)]
 have hm:∀i,qi k 1000001 (mid i)=mid i:=fun i=>by unfold qi;rw [if_neg (by simp only [rid,mid];omega)]
 have hr:∀i,i≠k->qi k 1000001 (rid i)=rid i:=fun i h=>by unfold qi;rw [if_neg (by simp only [rid];omega)]
 have hrk:qi k 1000001 (rid k)=1000001:=by unfold qi;rw [if_pos rfl]
 refine Weak.MB (qi k 1000001) h1 ?_ ?_
 ·intro id x hx
  rcases sj hx with ⟨rfl,rfl⟩|⟨rfl,rfl⟩|⟨rfl,rfl⟩|⟨rfl,rfl⟩|hx
  ·refine ⟨⟨_,by rw [hlow 2 (by omega)];exact e2,dZ ?_ (om (by simp [hms]))⟩,by omega⟩
   show Blk.var _=Blk.var (fC _ _)
   congr 1
   rw [pv,nj,sk,List.set_append_left _ _ (by rw [eG];exact hk)]
   congr 1
   apply List.ext_getElem?;intro i;by_cases hik:i=k
   ·subst hik
    rw [List.getElem?_set_self (by rw [eG];exact hk),ku _ _ 0 i l (by simp [hk]),if_neg hne];simp only [Nat.zero_add];rw [hrk]
   ·rw [List.getElem?_set_ne (Ne.symm hik)]
    rcases Nat.lt_or_ge i ls.length with h|h
    ·rw [ku rid ls 0 i ls[i] (by simp [h]),ku _ _ 0 i ls[i] (by rw [List.getElem?_set_ne (Ne.symm hik)];simp [h])]
     simp only [Nat.zero_add];rw [hr i hik]
    ·rw [List.getElem?_eq_none (by rw [eG];exact h),List.getElem?_eq_none (by rw [eG,hlen];exact h)]
  ·refine ⟨⟨_,by rw [hlow 3 (by omega)];exact e3,dZ ?_ (oq (by simp [hms]) hlen.symm)⟩,by omega⟩
   show Blk.var _=Blk.var (fC _ _);rw [pv,nj,sn,oe (mid:=fun i=>qi k 1000001 (mid i)) (mid':=mid) ls.length 0 fun i _=>hm _]
  ·exact ⟨⟨_,by rw [hlow 1 (by omega)];exact e1,dZ rfl rfl⟩,by omega⟩
  ·exact ⟨⟨_,by rw [hlow 0 (by omega)];exact e0,dZ rfl rfl⟩,by omega⟩
  ·obtain ⟨g1,g2,g3,g4⟩:=fz hx
   refine ⟨⟨x,?_,dZ (g4 _).symm (g3 _)⟩,by rw [hlen] at g2;omega⟩;have hs:=zF (wo ls.length) hne id ls ms 0 k (by omega) hk (by omega);rw [show look (jW rid mid 0 (ls.set k l) ms) id=some x from hx,Nat.zero_add] at hs;by_cases he:id=rid k
   ·rw [if_pos he] at hs
    injection hs with hs
    rw [he,hrk,hs];exact ea
   ·rw [if_neg he] at hs
    unfold qi;rw [if_neg he,ho id g1 (by rw [hlen] at g2;omega)];exact hs.symm
 ·intro id id' h h' he
  have bd:∀i,(look (loH p (ig (ls.set k l) 0) (jX ls.length 0) (cM (ls.set k l) ms)) i).isSome=true->i<1000000:=by
   intro i hi;obtain ⟨x,hx⟩:=Option.isSome_iff_exists.1 hi
   rcases sj hx with ⟨rfl,rfl⟩|⟨rfl,rfl⟩|⟨rfl,rfl⟩|⟨rfl,rfl⟩|hx
   ·omega
   ·omega
   ·omega
   ·omega
   ·have:=(fz hx).2.1
    rw [hlen] at this;omega
  have b1:=bd id h;have b2:=bd id' h';unfold qi at he
  split at he<;>split at he<;>omega
theorem zG {j a k:Nat} (hk:k<4):qi j a k=k:=by unfold qi;rw [if_neg (by simp only [rid];omega)]
theorem I0 {j a k n:Nat} {h h' : Heap} (hk:k<4) (hc:(look h' k).isSome=true):VW (qi j a) h h' (.row k n) (.row k n):=.inl ⟨by rw [V.ren,zG hk],hc⟩
theorem O9 {j a k:Nat} {h h' : Heap} (hk:k<4) (hc:(look h' k).isSome=true):VW (qi j a) h h' (.hnd k) (.hnd k):=.inl ⟨by rw [V.ren,zG hk],hc⟩
theorem Py {j a k o:Nat} {h h' : Heap} (hk:k<4) (hc:(look h' k).isSome=true):VW (qi j a) h h' (.ptr k o) (.ptr k o):=.inl ⟨by rw [V.ren,zG hk],hc⟩
theorem MD {p:Pg} {j a:Nat} {R:fp} {H:Heap} {rv mv:List V} {fam:Heap} (h6:look R 6=some (.row 3 (nF p))) (h5:look R 5=some (.row 2 (nF p))) (h4:look R 4=some (.d (bT (aU p)))) (h3:look R 3=some (.hnd 1)) (h1:look R 1=some (.ptr 0 0)) :
  oC (qi j a) R H (loH p rv mv fam) (loR p):=
 ⟨⟨_,h6,I0 (by omega) rfl⟩,⟨_,h5,I0 (by omega) rfl⟩,⟨_,h4,.inl ⟨rfl,rfl⟩⟩,⟨_,h3,O9 (by omega) rfl⟩,⟨_,h1,Py (by omega) rfl⟩,trivial⟩
def V8:b9:=qL (qL (qR (qL (qR (qR (qR (qR (qR (qR m5.code)))))))))
def qj (p:Pg) (k:Nat):List (List Str):=ei p ((p.nodes.zip (aU p)).take k) (cN p)
theorem tp (p:Pg):∀(r:List (Nd×Int)) (y:Nd×Int) (ls:List (List Str)),ei p (r++[y]) ls=(if jl p y.1 then addLocal (ei p r ls) y.2.toNat y.1.name else ei p r ls)
 | [],y,ls=>rfl
 | (x,o)::r,y,ls=>by rw [List.cons_append,ei,tp p r,ei]
theorem JO (p:Pg) (k:Nat) (h:k<p.nodes.length):qj p (k+1)=(if jl p p.nodes[k] then addLocal (qj p k) ((aU p).getD k 0).toNat p.nodes[k].name else qj p k):=by
 have h2:k<(aU p).length:=by rw [dT];exact h
 have hz:k<(p.nodes.zip (aU p)).length:=by rw [List.length_zip];omega
 rw [qj,qj,List.take_succ_eq_append_getElem hz,tp,List.getElem_zip];simp [List.getD,h2]
theorem zH (p:Pg) (k:Nat):(qj p k).length=p.ae.length:=by
 have:∀(r:List (Nd×Int)) (ls:List (List Str)),(ei p r ls).length=ls.length:=by
  intro r
  induction r with
  | nil=>intro ls;rfl
  | cons y r ih=>
   intro ls;obtain ⟨x,o⟩:=y;rw [ei,ih]
   split
   ·rw [vm]
   ·rfl
 rw [qj,this];simp
theorem vt (p:Pg):qj p p.nodes.length=ao p:=by
 rw [qj,ao,List.take_of_length_le (by rw [List.length_zip];omega)]
theorem zI (p:Pg) (hp:Lim p) (k f:Nat) (l:List Str) (h:(qj p k)[f]? = some l):l.length<=100000+k:=by
 have key:∀(r:List (Nd×Int)) (ls:List (List Str)) (b:Nat),(∀l∈ls,l.length<=b)->∀l∈ei p r ls,l.length<=b+r.length:=by
  intro r
  induction r with
  | nil=>intro ls b h l hl;exact h l hl
  | cons y r ih=>
   intro ls b h l hl;obtain ⟨x,o⟩:=y;rw [ei] at hl;have:=ih _ (b+1) ?_ l hl
   ·simp;omega
   ·intro l' hl'
    split at hl'
    ·unfold addLocal at hl'
     split at hl'
     ·have:=h l' hl';omega
     ·rcases List.mem_or_eq_of_mem_set hl' with hl' | rfl
      ·have:=h l' hl';omega
      ·have hg:(ls.getD o.toNat []).length<=b:=by
        rw [List.getD]
        cases hq:ls[o.toNat]? with
        | none=>simp
        | some v=>exact h v (List.mem_of_getElem? hq)
       rw [List.length_append];show (ls.getD o.toNat []).length+1<=b+1;omega
    ·have:=h l' hl';omega
 have:=key ((p.nodes.zip (aU p)).take k) (cN p) 100000 (fun l hl=>by
  obtain ⟨f,hf,rfl⟩:=List.mem_map.1 hl;exact Nat.le_of_lt (hp.args f hf)) l (List.mem_of_getElem? h)
 have hl2:((p.nodes.zip (aU p)).take k).length<=k:=by simp;omega
 omega
abbrev xQ (p:Pg) (k:Nat):St:=⟨(63,.d (I k))::(62,.d (I ((p.nodes.map ndL).length:Nat)))::(61,.d (bN p.nodes))::loR p,loH p (ig (qj p k) 0) (jX (qj p k).length 0) (cM (qj p k) ((qj p k).map ct)),1000000,[],0⟩
end Uw.Tryz
namespace Uw.Tryz
open Go Uw
set_option maxRecDepth 20000 in
set_option maxHeartbeats 4000000 in
theorem JP (p:Pg) (hf:bE p=true) (hp:Lim p) (k:Nat) (hk:k<p.nodes.length) (hpre:∀i,i<k->True) {QQ:aH->St->Prop}:WT P0 (mT (xQ p) (AE p.nodes.length fun _=>True) (forM p.nodes.length) k QQ) (exec V8 (xQ p k) Tree.done):=by
 have hnl:(p.nodes.map ndL).length=p.nodes.length:=by simp
 have hfl:nF p=p.ae.length:=by simp
 have hN:=hp.nodes;have hF:=hp.ae;have he:(p.nodes.map ndL)[(k:Int).toNat]? = some (ndL p.nodes[k]):=by simp [hk]
 have hown:=zx hf _ k hk (Nat.le_refl _);have hoe:((aU p).map fun i=>[I i])[(k:Int).toNat]? = some [I ((aU p).getD k 0)]:=by
  have h2:k<(aU p).length:=by rw [dT];exact hk
  simp [List.getD,h2]
 have hol:((aU p).map fun i=>[I i]).length=p.nodes.length:=by rw [List.length_map,dT]
 have hsucc:=JO p k hk;have hlen:=zH p k;have hth:=wn p p.nodes[k].name;generalize (aU p).getD k 0=o at *;have hloc:∀x,jl p x=((decide (x.kind=9)||decide (x.kind=10)||decide (x.kind=11))&&!decide (x.name=[])&&(bp p x.name).isNone):=fun x=>rfl;rw [hloc] at hsucc;generalize p.nodes[k]=x at *;obtain ⟨xk,xn,xs,xt,xo⟩:=x;have he:(p.nodes.map ndL)[(k:Int).toNat]? = some [I xk,I xn,.str xs,.str xt,bT xo]:=he;simp only at hsucc hth;obtain ⟨ls,hls⟩:∃ls,qj p k=ls:=⟨_,rfl⟩
 rw [hls] at hsucc hlen;have hS:xQ p k=⟨(63,.d (I k))::(62,.d (I ((p.nodes.map ndL).length:Nat)))::(61,.d (bN p.nodes))::loR p,loH p (ig ls 0) (jX ls.length 0) (cM ls (ls.map ct)),1000000,[],0⟩:=by rw [xQ,hls]
 have hS1:xQ p (k+1)=⟨(63,.d (I ((k+1:Nat):Int)))::(62,.d (I ((p.nodes.map ndL).length:Nat)))::(61,.d (bN p.nodes))::loR p,loH p (ig (qj p (k+1)) 0) (jX (qj p (k+1)).length 0) (cM (qj p (k+1)) ((qj p (k+1)).map ct)),1000000,[],0⟩:=rfl;rw [hsucc] at hS1;rw [hS];have hmg:(jX ls.length 0)[o.toNat * 1]? = some (.hnd (mid o.toNat)):=by
  rw [Nat.mul_one,List.getElem?_append_left (by rw [di];omega),kx mid ls.length 0 _ (by omega),Nat.zero_add]
 have hml:(jX ls.length 0).length=nF p:=by rw [List.length_append,di,List.length_replicate];omega
 have hrl:(ig ls 0).length=nF p:=by rw [List.length_append,eG,List.length_replicate];omega
 -- what a round comes to where nothing is added
 have tq:∀(R:fp) (H:Heap) (nx:Nat),(jl p ⟨xk,xn,xs,xt,xo⟩=true->xs∈ls.getD o.toNat [])->look H 2=some (.var (ig ls 0))->look H 3=some (.var (jX ls.length 0))->look H 1=some (.map none (thE p.decls))->look H 0=some (pgV p)->Over (cM ls (ls.map ct)) H->
   (∀rv mv fam,oC (dh []) R H (loH p rv mv fam) ((63,.d (I ((k+1:Nat):Int)))::(62,.d (I ((p.nodes.map ndL).length:Nat)))::(61,.d (bN p.nodes))::loR p))->Weak ⟨R,H,nx,[],0⟩ (xQ p (k+1)):=by
  intro R H nx h0 e2 e3 e1 e0 ho hR;have:(if ((decide (xk=9)||decide (xk=10)||decide (xk=11))&&!decide (xs=[])&&(bp p xs).isNone)=true then addLocal ls o.toNat xs else ls)=ls:=by
   split
   ·rename_i h
    have:=h0 h;rw [addLocal,if_pos this]
   ·rfl
  rw [hS1,this];exact DO (by simp) (by omega) (hR _ _ _) e2 e3 e1 e0 (fun id x h=>by have:=fz h;rw [ho id this.1 (by omega)];exact h)
 clear hS hsucc hloc;by_cases hkk:xk≠9/\xk≠10/\xk≠11
 ·obtain ⟨k9,k10,k11⟩:=hkk
  repeat (first|refine aw ?_|refine f1 ?_)
  refine aJ k trivial (tq _ _ _ (fun h=>by simp [jl,k9,k10,k11] at h) rfl rfl rfl rfl (by (repeat refine bA ?_ rfl);exact bz) (fun rv mv fam=>?_))
  repeat' first|exact trivial|refine ⟨⟨_,rfl,?_⟩,?_⟩|exact cQ (by first|with_reducible rfl|omega)|exact Or.inl ⟨rfl,rfl⟩
 have hk3:xk=9\/xk=10\/xk=11:=by omega
 cases ht:bp p xs with
 | some kd=>
  rw [ht] at hth;have hth:aW (thE p.decls) (.s xs)=some (I kd):=hth;by_cases hxs:xs=[]
  all_goals rcases hk3 with rfl|rfl|rfl
  all_goals (repeat (first|refine aw ?_|refine f1 ?_|refine m1 ?_))
  all_goals refine aJ k trivial (tq _ _ _ (fun h=>by simp [jl,ht] at h) rfl rfl rfl rfl (by (repeat refine bA ?_ rfl);exact bz) (fun rv mv fam=>?_))
  all_goals (repeat' first|exact trivial|refine ⟨⟨_,rfl,?_⟩,?_⟩|exact cQ (by first|with_reducible rfl|omega)|exact Or.inl ⟨rfl,rfl⟩)
 | none=>
  rw [ht] at hth;have hth:aW (thE p.decls) (.s xs)=none:=hth;by_cases hxs:xs=[]
  ·rcases hk3 with rfl|rfl|rfl
   all_goals (repeat (first|refine aw ?_|refine f1 ?_|refine m1 ?_))
   all_goals refine aJ k trivial (tq _ _ _ (fun h=>by simp [jl,hxs] at h) rfl rfl rfl rfl (by (repeat refine bA ?_ rfl);exact bz) (fun rv mv fam=>?_))
   all_goals (repeat' first|exact trivial|refine ⟨⟨_,rfl,?_⟩,?_⟩|exact cQ (by first|with_reducible rfl|omega)|exact Or.inl ⟨rfl,rfl⟩)
  obtain ⟨f,hfo⟩:∃f,o.toNat=f:=⟨_,rfl⟩
  have FZ:f<ls.length:=by omega
  have hof:o=(f:Int):=by omega
  obtain ⟨l,hll⟩:∃l,ls[f]? = some l:=⟨ls[f],by simp [FZ]⟩
  have hld:ls.getD o.toNat []=l:=by rw [hfo,List.getD,hll];rfl
  have U4:(ls.map ct).length=ls.length:=by simp
  have hlk:∀H,Over (cM ls (ls.map ct)) H->look H (mid o.toNat)=some (.map none (ct l)):=fun H ho=>by
   rw [ho _ (by simp only [mid];omega) (by simp only [mid];omega),hfo];have:=qf (wo ls.length) (ls:=ls) (ms:=ls.map ct) (i:=0) (k:=f) (m:=ct l) (by omega) FZ (by simp [hll])
   rwa [Nat.zero_add] at this
  by_cases hin:xs∈l
  ·have hsg:aW (ct l) (.s xs)=some (.bool true):=by rw [si,if_pos hin]
   rcases hk3 with rfl|rfl|rfl
   all_goals (repeat (first|refine aw ?_|refine f1 ?_|refine m1 ?_))
   all_goals refine mS _ (hlk _ (by (repeat refine bA ?_ rfl);exact bz)) ?_
   all_goals (repeat (first|refine aw ?_|refine f1 ?_|refine m1 ?_))
   all_goals refine aJ k trivial (tq _ _ _ (fun h=>by rw [hld];exact hin) rfl rfl rfl rfl (by (repeat refine bA ?_ rfl);exact bz) (fun rv mv fam=>?_))
   all_goals (repeat' first|exact trivial|refine ⟨⟨_,rfl,?_⟩,?_⟩|exact cQ (by first|with_reducible rfl|omega)|exact Or.inl ⟨rfl,rfl⟩)
  have hsg:aW (ct l) (.s xs)=none:=by rw [si,if_neg hin]
  -- what is added
  obtain ⟨ms,hms⟩:∃ms,ms=(ls.map ct).set f (dJ (ct l) (.s xs) (.bool true)):=⟨_,rfl⟩
  have U5:ms.length=ls.length:=by rw [hms];simp
  have V9:ms=(ls.set f (l++[xs])).map ct:=by rw [hms,List.map_set,qg]
  have QS:∀b b0,∀id,look ((1000000,b)::(1000000,b0)::loH p (ig ls 0) (jX ls.length 0) (cM ls ms)) id=look ((mid o.toNat,.map none (dJ (ct l) (.s xs) (.bool true)))::(1000000,b)::(1000000,b0)::loH p (ig ls 0) (jX ls.length 0) (cM ls (ls.map ct))) id:=fun b b0 id=>by
   refine IZ (c:=[(1000000,b),(1000000,b0),(2,.var (ig ls 0)),(3,.var (jX ls.length 0)),(1,.map none (thE p.decls)),(0,pgV p)]) ?_ ?_ id
   ·intro q hq
    simp only [List.mem_cons,List.not_mem_nil,or_false] at hq
    rcases hq with rfl|rfl|rfl|rfl|rfl|rfl<;>simp only [mid]<;>omega
   ·intro id
    have:=FY (wo ls.length) (dJ (ct l) (.s xs) (.bool true)) id ls (ls.map ct) 0 f (by omega) FZ (by omega);rw [Nat.zero_add] at this;rw [hms,hfo];exact this
  have hlen2:(ls.set f (l++[xs])).length=ls.length:=by simp
  have hS2:xQ p (k+1)=⟨(63,.d (I ((k+1:Nat):Int)))::(62,.d (I ((p.nodes.map ndL).length:Nat)))::(61,.d (bN p.nodes))::loR p,loH p (ig (ls.set f (l++[xs])) 0) (jX ls.length 0) (cM (ls.set f (l++[xs])) ms),1000000,[],0⟩:=by
   have:(if ((decide (xk=9)||decide (xk=10)||decide (xk=11))&&!decide (xs=[])&&(bp p xs).isNone)=true then addLocal ls o.toNat xs else ls)=ls.set f (l++[xs]):=by
    rw [if_pos (by rcases hk3 with rfl|rfl|rfl<;>simp [hxs,ht]),addLocal,hld,if_neg hin,hfo]
   rw [hS1,this,hlen2,<- V9]
  have hrg:(ig ls 0)[o.toNat * 1]? = some (if l=[] then V.d (.slice 1 [] true) else .ref (rid f) 0 0 l.length):=by
   rw [Nat.mul_one,hfo,List.getElem?_append_left (by rw [eG];exact FZ),ku rid ls 0 f l hll,Nat.zero_add]
  have WC:l.length<300000:=by
   have:=zI p hp k f l (by rw [hls];exact hll);omega
  have hcap:(decide (l.length=(rowT l).length)&&decide ((l.length+((List.replicate 1 [Dat.str []]).set 0 [Dat.str xs]).length) * 16<=70368744177664))=true:=by simp;omega
  have hrk:∀H,Over (cM ls ms) H->l≠[]->look H (rid f)=some (.arr 1 (rowT l)):=fun H ho hne=>by
   rw [ho _ (by simp only [rid];omega) (by simp only [rid];omega)];have:=vq (wo ls.length) (ls:=ls) (ms:=ms) (i:=0) (k:=f) (l:=l) (by omega) (by omega) hll hne
   rwa [Nat.zero_add] at this
  have U6:∀b b0,∀id,look ((1000000,b)::(1000000,b0)::loH p (ig ls 0) (jX ls.length 0) (cM (ls.set f (l++[xs])) ms)) id=look ((rid f,.arr 1 (rowT l++(List.replicate 1 [Dat.str []]).set 0 [Dat.str xs]))::(1000000,b)::(1000000,b0)::loH p (ig ls 0) (jX ls.length 0) (cM ls ms)) id:=fun b b0 id=>by
   refine IZ (c:=[(1000000,b),(1000000,b0),(2,.var (ig ls 0)),(3,.var (jX ls.length 0)),(1,.map none (thE p.decls)),(0,pgV p)]) ?_ ?_ id
   ·intro q hq
    simp only [List.mem_cons,List.not_mem_nil,or_false] at hq
    rcases hq with rfl|rfl|rfl|rfl|rfl|rfl<;>simp only [rid]<;>omega
   ·intro id
    have:=zF (wo ls.length) (l':=l++[xs]) (by simp) id ls ms 0 f (by omega) FZ (by omega);rw [Nat.zero_add] at this;rw [this];have e:rowT (l++[xs])=rowT l++(List.replicate 1 [Dat.str []]).set 0 [Dat.str xs]:=by simp
    rw [e]
  have hset:(ig ls 0).set (o.toNat * 1) (.ref (rid f) 0 0 (l.length+((List.replicate 1 [Dat.str []]).set 0 [Dat.str xs]).length))=cn rid 0 (ls.set f (l++[xs]))++List.replicate 0 (.d .nil):=by
   have:=BL rid ls 0 f (l++[xs]) FZ;rw [if_neg (by simp),Nat.zero_add] at this;rw [<- this,Nat.mul_one,hfo,List.set_append_left _ _ (by rw [eG];exact FZ)];simp
  have U7:(ig ls 0).set (o.toNat * 1) (.ref 1000001 0 0 ((List.replicate 1 [Dat.str []]).set 0 [Dat.str xs]).length)=(ig ls 0).set f (.ref 1000001 0 0 ([]++[xs]).length):=by rw [Nat.mul_one,hfo];rfl
  have hS3:xQ p (k+1)=⟨(63,.d (I ((k+1:Nat):Int)))::(62,.d (I ((p.nodes.map ndL).length:Nat)))::(61,.d (bN p.nodes))::loR p,loH p (ig (ls.set f (l++[xs])) 0) (jX (ls.set f (l++[xs])).length 0) (cM (ls.set f (l++[xs])) ms),1000000,[],0⟩:=by rw [hS2,hlen2]
  have SN:ms.length=(ls.set f (l++[xs])).length:=by rw [U5,hlen2]
  have hlen3:(ls.set f (l++[xs])).length<100000:=by rw [hlen2];omega
  have U8:ls.length<100000:=by omega
  have Wa:some (Blk.var (jX ls.length 0))=some (Blk.var (jX (ls.set f (l++[xs])).length 0)):=by rw [hlen2]
  by_cases hl0:l=[]
  ·subst hl0
   have hrg:(ig ls 0)[o.toNat * 1]? = some (V.d (.slice 1 [] true)):=hrg
   rcases hk3 with rfl|rfl|rfl
   all_goals (repeat (first|refine aw ?_|refine f1 ?_|refine m1 ?_))
   all_goals refine mS _ (hlk _ (by (repeat refine bA ?_ rfl);exact bz)) ?_
   all_goals (repeat (first|refine aw ?_|refine f1 ?_|refine m1 ?_))
   all_goals refine mS _ (hlk _ (by (repeat refine bA ?_ rfl);exact bz)) ?_
   all_goals refine yM _ (QS _ _) ?_
   all_goals (repeat (first|refine aw ?_|refine f1 ?_|refine m1 ?_))
   all_goals refine bZ ⟨(63,.d (I k))::(62,.d (I ((p.nodes.map ndL).length:Nat)))::(61,.d (bN p.nodes))::loR p,loH p (ig (ls.set f ([]++[xs])) 0) (jX (ls.set f ([]++[xs])).length 0) (cM (ls.set f ([]++[xs])) ms),1000000,[],0⟩ ?_ (by
    refine aw ?_;refine aJ k trivial (cX hS3 ?_);refine vr (ls:=ls.set f ([]++[xs])) (ms:=ms) (r:=0) (r':=0) SN hlen3 ?_ rfl rfl rfl rfl rfl (by (repeat refine bA ?_ rfl);exact bz)
    repeat' first|exact trivial|refine ⟨⟨_,rfl,?_⟩,?_⟩|exact cQ (by first|with_reducible rfl|omega)|exact Or.inl ⟨rfl,rfl⟩)
   all_goals (repeat (first|refine aw ?_|refine f1 ?_|refine m1 ?_))
   all_goals refine aY (.inl ⟨rfl,?_⟩)
   all_goals refine SL (p:=p) (ls:=ls) (ms:=ms) (k:=f) (l:=[]++[xs]) U5 U8 FZ (by simp) ⟨⟨_,rfl,cQ rfl⟩,⟨_,rfl,.inl ⟨rfl,rfl⟩⟩,⟨_,rfl,.inl ⟨rfl,rfl⟩⟩,MD rfl rfl rfl rfl rfl⟩ ?_ U7 ?_ ?_ ?_ ?_ ?_
   all_goals first|exact rfl|((repeat refine bA ?_ rfl);exact bz)
  have hrg2:(ig ls 0)[o.toNat * 1]? = some (.ref (rid f) 0 0 l.length):=by rw [hrg,if_neg hl0]
  clear hrg
  rcases hk3 with rfl|rfl|rfl
  all_goals (repeat (first|refine aw ?_|refine f1 ?_|refine m1 ?_))
  all_goals refine mS _ (hlk _ (by (repeat refine bA ?_ rfl);exact bz)) ?_
  all_goals (repeat (first|refine aw ?_|refine f1 ?_|refine m1 ?_))
  all_goals refine mS _ (hlk _ (by (repeat refine bA ?_ rfl);exact bz)) ?_
  all_goals refine yM _ (QS _ _) ?_
  all_goals (repeat (first|refine aw ?_|refine f1 ?_|refine m1 ?_))
  all_goals refine bZ ⟨(63,.d (I k))::(62,.d (I ((p.nodes.map ndL).length:Nat)))::(61,.d (bN p.nodes))::loR p,loH p (ig (ls.set f (l++[xs])) 0) (jX (ls.set f (l++[xs])).length 0) (cM (ls.set f (l++[xs])) ms),1000000,[],0⟩ ?_ (by
   refine aw ?_;refine aJ k trivial (cX hS3 ?_);refine vr (ls:=ls.set f (l++[xs])) (ms:=ms) (r:=0) (r':=0) SN hlen3 ?_ rfl rfl rfl rfl rfl (by (repeat refine bA ?_ rfl);exact bz)
   repeat' first|exact trivial|refine ⟨⟨_,rfl,?_⟩,?_⟩|exact cQ (by first|with_reducible rfl|omega)|exact Or.inl ⟨rfl,rfl⟩)
  all_goals (repeat (first|refine aw ?_|refine f1 ?_|refine m1 ?_))
  all_goals refine mS _ (hrk _ (by (repeat refine bA ?_ rfl);exact bz) hl0) ?_
  all_goals (repeat (first|refine aw ?_|refine f1 ?_|refine m1 ?_))
  all_goals refine yM _ (U6 _ _) ?_
  all_goals (repeat (first|refine aw ?_|refine f1 ?_|refine m1 ?_))
  all_goals refine aY (.inl ⟨rfl,?_⟩)
  all_goals refine vr (p:=p) (ls:=ls.set f (l++[xs])) (ms:=ms) (r:=0) (r':=0) SN hlen3 ⟨⟨_,rfl,cQ rfl⟩,⟨_,rfl,.inl ⟨rfl,rfl⟩⟩,⟨_,rfl,.inl ⟨rfl,rfl⟩⟩,⟨_,rfl,.inl ⟨rfl,rfl⟩⟩,⟨_,rfl,.inl ⟨rfl,rfl⟩⟩,⟨_,rfl,.inl ⟨rfl,rfl⟩⟩,⟨_,rfl,.inl ⟨rfl,rfl⟩⟩,⟨_,rfl,.inl ⟨rfl,rfl⟩⟩,trivial⟩ ?_ hset ?_ ?_ ?_ ?_
  all_goals first|exact rfl|exact Wa|((repeat refine bA ?_ rfl);exact bz)|skip
end Uw.Tryz
namespace Uw.Tryz
open Go Uw
theorem tr {H:Heap}:∀(ls:List (List Str)) (i:Nat),(∀j l,ls[j]? = some l->l≠[]->look H (rid (i+j))=some (.arr 1 (rowT l)))->iU H (cn rid i ls)=some (ls.map fun l=>if l=[] then .slice 1 [] true else .slice 1 (rowT l) false)
 | [],i,h=>rfl
 | l::ls,i,h=>by
  have ih:=tr ls (i+1) (fun j l' hj hne=>by
   have:=h (j+1) l' (by simpa using hj) hne
   rwa [show i+(j+1)=i+1+j by omega] at this)
  rw [cn,iU,ih];by_cases hl:l=[]
  ·subst hl;rfl
  ·have:=h 0 l rfl hl
   rw [if_neg hl,List.map_cons,if_neg hl,V.dat,show rid i=rid (i+0) from rfl,this];have e:(List.drop 0 (rowT l)).take l.length=rowT l:=by rw [List.drop_zero,List.take_of_length_le (by simp)]
   simp only [e];rfl
theorem ME {H:Heap} {p:Pg} {ls:List (List Str)} {ms:List MS} {mv:List V} (hms:ms.length=ls.length) (hl:ls.length<100000) (hH:H=loH p (ig ls 0) mv (cM ls ms)):eI H [.row 2 ls.length]=some [.slice 1 (ls.map O8) false]:=by
 have h1:iU H (ig ls 0)=some (ls.map fun l=>if l=[] then .slice 1 [] true else .slice 1 (rowT l) false):=by
  show iU H (cn rid 0 ls++[])=_;rw [List.append_nil];refine tr ls 0 fun j l hj hne=>?_;have hjl:j<ls.length:=by
   rcases Nat.lt_or_ge j ls.length with h|h
   ·exact h
   ·rw [List.getElem?_eq_none h] at hj;cases hj
  have hov:Over (cM ls ms) H:=by rw [hH];(repeat refine bA ?_ rfl);exact bz
  rw [hov _ (by simp only [rid];omega) (by simp only [rid];omega)];have:=vq (wo ls.length) (ls:=ls) (ms:=ms) (i:=0) (k:=j) (l:=l) (by omega) (by omega) hj hne
  rwa [Nat.zero_add] at this ⊢
 have h2:look H 2=some (.var (ig ls 0)):=by rw [hH];rfl
 have h3:Nat.beq (ig ls 0).length ls.length=true:=by
  rw [List.length_append,eG,List.length_replicate];exact Nat.beq_refl _
 simp only [eI,V.uK,h2,h1,h3,List.map_map];rfl
set_option maxRecDepth 20000 in
set_option maxHeartbeats 4000000 in
theorem SO (p:Pg) (hf:bE p=true) (hp:Lim p) (hn0:p.ae≠[]):Ret P0 jT [pgD p] (.slice 1 ((ao p).map O8) false):=by
 have hth:=nh p hp.decls;have how:=ni p hf hp;have hfl:nF p=p.ae.length:=by simp
 have V4:(p.ae.map fuL).length=p.ae.length:=by simp
 have hF:=hp.ae;have hN:=hp.nodes;have hnl:(p.nodes.map ndL).length=p.nodes.length:=by simp
 have V1:(decide (((p.ae.map fuL).length:Int)=((p.ae.map fuL).length:Nat))&&decide ((0:Int)<=((p.ae.map fuL).length:Nat))&&decide ((((p.ae.map fuL).length:Nat):Int) * ((24:Nat):Int)<=70368744177664))=true:=by simp at hfl ⊢;omega
 have V2:(decide (((p.ae.map fuL).length:Int)=((p.ae.map fuL).length:Nat))&&decide ((0:Int)<=((p.ae.map fuL).length:Nat))&&decide ((((p.ae.map fuL).length:Nat):Int) * ((8:Nat):Int)<=70368744177664))=true:=by simp;omega
 have hpos:0<(p.ae.map fuL).length:=by show 0<nF p;rw [hfl];exact List.length_pos_iff.2 hn0
 have hpi:(0:Int)<((p.ae.map fuL).length:Nat):=by omega
 have hal:(cN p).length=p.ae.length:=by simp
 have hAl:(cN p).length<100000:=by rw [hal];exact hF
 have hS0:xQ p 0=⟨(63,.d (I ((0:Nat):Int)))::(62,.d (I ((p.nodes.map ndL).length:Nat)))::(61,.d (bN p.nodes))::loR p,loH p (cn rid 0 (cN p)++List.replicate 0 (.d .nil)) (bU mid 0 (cN p).length++List.replicate 0 (.d .aV)) (cM (cN p) ((cN p).map ct)),1000000,[],0⟩:=rfl;have hSn:HG p (nF p)=⟨(31,.d (I (nF p:Nat)))::(30,.d (I ((p.ae.map fuL).length:Nat)))::(29,.d (.slice 3 (p.ae.map fuL) false))::loR p,loH p (cn rid 0 (cN p)++List.replicate 0 (.d .nil)) (bU mid 0 (cN p).length++List.replicate 0 (.d .aV)) (cM (cN p) ((cN p).map ct)),1000000,[],0⟩:=by
  have e:(cN p).take (nF p)=cN p:=List.take_of_length_le (by rw [hal,hfl];omega);rw [HG,e,Nat.sub_self,show nF p=(cN p).length by rw [hal,hfl]]
 have hSe:xQ p p.nodes.length=⟨(63,.d (I (p.nodes.length:Nat)))::(62,.d (I ((p.nodes.map ndL).length:Nat)))::(61,.d (bN p.nodes))::loR p,loH p (ig (ao p) 0) (jX (ao p).length 0) (cM (ao p) ((ao p).map ct)),1000000,[],0⟩:=by
  rw [xQ,vt]
 have hll:(ao p).length=nF p:=by rw [<- vt,zH,hfl]
 have hdat:∀H,H=loH p (ig (ao p) 0) (jX (ao p).length 0) (cM (ao p) ((ao p).map ct))->eI H [.row 2 (nF p)]=some [.slice 1 ((ao p).map O8) false]:=fun H h=>by
  have:=ME (by simp) (by rw [hll,hfl];exact hF) h
  rwa [hll] at this
 have hms:((cN p).map ct).length=(cN p).length:=by simp
 refine az qx rfl ?_
 repeat refine aw ?_
 refine ag 1 [] hth ?_
 repeat (first|refine aw ?_|refine f1 ?_)
 refine cb (nF p) (HG p) (fun _=>True) ?_ (fun _=>?_) (fun j hj hpre=>?_)
 ·refine DO (ls:=[]) (ms:=[]) (r:=nF p - 0) (r':=nF p - 0) rfl (by simp) ?_ ?_ ?_ rfl rfl (fun id x h=>by simp [jW,look] at h)
  ·repeat' first|exact trivial|refine ⟨⟨_,rfl,?_⟩,?_⟩|exact cQ (by first|with_reducible rfl|omega)|exact Or.inl ⟨rfl,rfl⟩
  ·rfl
  ·rfl
 ·rw [hSn]
  repeat (first|refine aw ?_|refine f1 ?_)
  refine aC ?_
  repeat (first|refine aw ?_|refine f1 ?_)
  refine cb p.nodes.length (xQ p) (fun _=>True) (cX hS0 ?_) (fun _=>?_) (fun k hk hpre=>?_)
  ·refine vr (ls:=cN p) (ms:=(cN p).map ct) (r:=0) (r':=0) hms hAl ?_ rfl rfl rfl rfl rfl (by (repeat refine bA ?_ rfl);exact bz)
   repeat' first|exact trivial|refine ⟨⟨_,rfl,?_⟩,?_⟩|exact cQ (by first|with_reducible rfl|omega)|exact Or.inl ⟨rfl,rfl⟩
  ·rw [hSe]
   repeat (first|refine aw ?_|refine f1 ?_)
   refine aC ?_
   repeat (first|refine aw ?_|refine f1 ?_)
   exact ak rfl rfl (hdat _ rfl) rfl rfl
  ·exact JP p hf hp k hk hpre
 ·exact JM p hp j (by omega) hpre
theorem Pz (l:List Str):uO (O8 l) [fY l]:=by
 refine .cons ?_ (.refl _)
 split
 ·rename_i h;subst h;exact .slice (.refl _)
 ·exact .refl _
abbrev rP (ls:List (List Str)):Dat:=.slice 1 (ls.map fun l=>[fY l]) false
theorem rQ (p:Pg) (hf:bE p=true) (hp:Lim p):Ret P0 jT [pgD p] (rP (ao p)):=by
 by_cases hn0:p.ae=[]
 ·obtain ⟨h1,h2⟩:=SJ p hf hp hn0
  rw [h1];exact h2.res (.slice (.refl _))
 ·refine (SO p hf hp hn0).res (.slice ?_)
  generalize ao p=ls
  induction ls with
  | nil=>exact .refl _
  | cons l ls ih=>exact .cons (Pz l) ih
end Uw.Tryz
namespace Uw.Tryz
open Go Uw
theorem lk (p:Pg):(ao p).length=p.ae.length:=by rw [<- vt,zH]
set_option maxHeartbeats 1000000 in
theorem zJ (p:Pg) (hp:Lim p) (f:Int):Ret P0 m6 [pgD p,I f] (fY (iY p f)):=by
 have hfm:=rM p hp;have hlo:=fun h=>rQ p h hp;have hfl:(p.ae.map fuL).length=p.ae.length:=by simp
 have hll:=lk p;by_cases hbad:f<0\/(p.ae.length:Int)<=f\/bE p=false
 ·have hr:iY p f=[]:=by rw [iY,if_pos hbad]
  rw [hr];refine Ret.res (r:=.nil) ?_ (.nil 1);refine az qy rfl ?_;by_cases h1:f<0
  ·repeat refine aw ?_
   exact ak rfl rfl rfl rfl rfl
  by_cases h2:(p.ae.length:Int)<=f
  ·repeat refine aw ?_
   exact ak rfl rfl rfl rfl rfl
  ·have h3:bE p=false:=by rcases hbad with h|h|h;exact absurd h h1;exact absurd h h2;exact h
   rw [h3] at hfm
   repeat refine aw ?_
   exact ak rfl rfl rfl rfl rfl
 ·have h1:¬f<0:=fun h=>hbad (.inl h)
  have h2:f<(p.ae.length:Int):=by omega
  have h3:bE p=true:=by
   cases h:bE p with
   | true=>rfl
   | false=>exact absurd (.inr (.inr h)) hbad
  rw [h3] at hfm;have hlo:=hlo h3;have hr:iY p f=(ao p).getD f.toNat []:=by rw [iY,if_neg hbad]
  obtain ⟨l,hl⟩:∃l,(ao p)[f.toNat]? = some l:=⟨(ao p)[f.toNat]'(by omega),by simp⟩
  have hel:((ao p).map fun l=>[fY l])[f.toNat]? = some [fY l]:=by simp [hl]
  have hml:((ao p).map fun l=>[fY l]).length=p.ae.length:=by simp [hll]
  rw [hr,List.getD,hl];refine az qy rfl ?_
  repeat refine aw ?_
  exact ak rfl rfl rfl rfl rfl
def lB (k:Int) (s:Str):Dat:=.tuple [I ((fx k s).getD 0),.bool (fx k s).isSome]
theorem oL (k:Int) (s:Str):Ret P0 tm [I k,.str s] (lB k s):=by
 by_cases k1:k=1
 ·subst k1
  by_cases a1:s=LZ
  ·subst a1;refine az cK rfl ?_;repeat refine aw ?_
   exact ak rfl rfl rfl rfl rfl
  by_cases a2:s=L0
  ·subst a2;refine az cK rfl ?_;repeat refine aw ?_
   exact ak rfl rfl rfl rfl rfl
  by_cases a3:s=L1
  ·subst a3;refine az cK rfl ?_;repeat refine aw ?_
   exact ak rfl rfl rfl rfl rfl
  have e:lB 1 s = .tuple [I 0,.bool false]:=by simp [lB,fx,a1,a2,a3]
  rw [e];have b1:¬s=[103,101,116]:=a1;have b2:¬s=[100,101,108]:=a2;have b3:¬s=[112,117,116]:=a3;refine az cK rfl ?_;repeat refine aw ?_
  exact ak rfl rfl rfl rfl rfl
 by_cases k2:k=2
 ·subst k2
  by_cases a1:s=Fo
  ·subst a1;refine az cK rfl ?_;repeat refine aw ?_
   exact ak rfl rfl rfl rfl rfl
  by_cases a2:s=L2
  ·subst a2;refine az cK rfl ?_;repeat refine aw ?_
   exact ak rfl rfl rfl rfl rfl
  have e:lB 2 s = .tuple [I 0,.bool false]:=by simp [lB,fx,a1,a2]
  rw [e];have b1:¬s=[112,117,115,104]:=a1;have b2:¬s=[112,111,112]:=a2;refine az cK rfl ?_;repeat refine aw ?_
  exact ak rfl rfl rfl rfl rfl
 by_cases k3:k=3
 ·subst k3
  by_cases a1:s=Fp
  ·subst a1;refine az cK rfl ?_;repeat refine aw ?_
   exact ak rfl rfl rfl rfl rfl
  by_cases a2:s=Fq
  ·subst a2;refine az cK rfl ?_;repeat refine aw ?_
   exact ak rfl rfl rfl rfl rfl
  have e:lB 3 s = .tuple [I 0,.bool false]:=by simp [lB,fx,a1,a2]
  rw [e];have b1:¬s=[115,101,110,100]:=a1;have b2:¬s=[114,101,99,118]:=a2;refine az cK rfl ?_;repeat refine aw ?_
  exact ak rfl rfl rfl rfl rfl
 have e:lB k s = .tuple [I 0,.bool false]:=by simp [lB,fx,k1,k2,k3]
 rw [e];refine az cK rfl ?_;repeat refine aw ?_
 exact ak rfl rfl rfl rfl rfl
end Uw.Tryz
namespace Uw.Tryz
open Go Uw
def qO:Nat->List Fu->MS->MS
 | _,[],es=>es
 | i,f::r,es=>qO (i+1) r (if (aW es (.s f.name)).isSome then es else dJ es (.s f.name) (I i))
def fnE (fs:List Fu):MS:=qO 0 fs []
theorem zK (s:Str):∀(fs:List Fu) (i:Nat) (es:MS),aW (qO i fs es) (.s s)=(aW es (.s s)).or ((fs.findIdx? fun f=>decide (f.name=s)).map fun j=>I ((i+j:Nat):Int))
 | [],i,es=>by simp [qO]
 | f::fs,i,es=>by
  rw [qO,zK s fs,List.findIdx?_cons];have h1:aW (if (aW es (.s f.name)).isSome=true then es else dJ es (.s f.name) (I i)) (.s s)=(aW es (.s s)).or (if f.name=s then some (I i) else none):=by
   split
   ·rename_i h
    by_cases he:f.name=s
    ·subst he
     cases hm:aW es (.s f.name) with
     | none=>rw [hm] at h;cases h
     | some v=>rfl
    ·rw [if_neg he];simp
   ·rename_i h
    rw [fy];by_cases he:f.name=s
    ·subst he
     simp only [if_true]
     cases hm:aW es (.s f.name) with
     | none=>rfl
     | some v=>rw [hm] at h;simp at h
    ·rw [if_neg he,if_neg (by simp;exact fun e=>he e.symm)];simp
  rw [h1];by_cases he:f.name=s
  ·rw [if_pos he]
   simp only [he,decide_true,if_true]
   cases aW es (.s s)<;>simp
  ·rw [if_neg he]
   simp only [he,decide_false]
   cases aW es (.s s) with
   | some v=>simp
   | none=>
    simp only [Option.or_none,Option.none_or]
    cases fs.findIdx? fun f=>decide (f.name=s) with
    | none=>rfl
    | some j=>simp;omega
theorem DY (p:Pg) (s:Str):aW (fnE p.ae) (.s s)=(dD p s).map fun (j:Nat)=>I ((j:Nat):Int):=by
 rw [fnE,zK];simp only [aW,Option.none_or,Nat.zero_add];rfl
abbrev sCs (p:Pg):List V:=[.d (.slice 3 (p.decls.map cI) false),.d (.slice 3 (p.ae.map fuL) false),.d (bN p.nodes),.hnd 0,.hnd 1,.d (bT (aU p)),.d (rP (ao p))]
abbrev sBs (p:Pg):List Blk:=[.map none (thE p.decls),.map none (fnE p.ae)]
abbrev sHp (p:Pg):Heap:=[(2,.var (sCs p)),(0,.map none (thE p.decls)),(1,.map none (fnE p.ae))]
set_option maxRecDepth 4000 in
set_option maxHeartbeats 4000000 in
theorem AU (p:Pg) (hp:Lim p):bk P0 lM [.agg (sCs p)] (sBs p) (.d (.bool (o9 p))) (sBs p):=by
 have hN:=hp.nodes;have hnl:(p.nodes.map ndL).length=p.nodes.length:=by simp
 have hall:(∀(j:Nat) (h:j<p.nodes.length),mZ p p.nodes[j]=false)->o9 p=false:=fun h=>by
  rw [o9,List.any_eq_false];intro x hx;obtain ⟨j,hj,rfl⟩:=List.mem_iff_getElem.1 hx;rw [h j hj];simp
 have hone:∀(j:Nat) (h:j<p.nodes.length),mZ p p.nodes[j]=true->o9 p=true:=fun j h e=>by
  rw [o9,List.any_eq_true];exact ⟨_,List.getElem_mem h,e⟩
 generalize o9 p=R at *;refine aG rB rfl ?_
 repeat refine aw ?_
 refine cb p.nodes.length (fun j:Nat=>⟨[(13,.d (I j)),(12,.d (I ((p.nodes.map ndL).length:Nat))),(11,.d (bN p.nodes)),(1,.ptr 2 0)],sHp p,3,[],2⟩) (fun j=>∀h:j<p.nodes.length,mZ p p.nodes[j]=false) (by exact Uw.wM) (fun hg=>?_) (fun j hj hg=>?_)
 ·rw [hall (fun j h=>hg j h h)]
  repeat refine aw ?_
  refine aC ?_
  repeat refine aw ?_
  refine aF 2 rfl rfl ?_;exact Uw.wM
 have he:(p.nodes.map ndL)[(j:Int).toNat]? = some (ndL p.nodes[j]):=by simp [hj]
 have hone:=hone j hj;have hth:=wn p p.nodes[j].name;clear hall;have hG:mZ p p.nodes[j]=false->(fun j=>∀h:j<p.nodes.length,mZ p p.nodes[j]=false) j:=fun h _=>h;have hd:∀x,mZ p x=(if x.kind=2\/x.kind=9 then (match bp p x.name with|some k=>!decide (k=0)|none=>false)
  else if x.kind=10\/x.kind=11 then (bp p x.name).isSome
  else if x.kind=8 then (fx ((bp p x.name).getD 0) x.name2).isNone
  else false):=fun x=>rfl
 rw [hd] at hone hG;clear hd;generalize p.nodes[j]=x at *;obtain ⟨xk,xn,xs,xt,xo⟩:=x;have he:(p.nodes.map ndL)[(j:Int).toNat]? = some [I xk,I xn,.str xs,.str xt,bT xo]:=he;simp only at hone hG hth
 cases ht:bp p xs with
 | none=>
  rw [ht] at hth hone hG;have hth:aW (thE p.decls) (.s xs)=none:=hth;by_cases k8:xk=8
  ·subst k8
   have hne:=oL 0 xt;rw [lB] at hne
   cases hq:fx 0 xt with
   | some c=>
    rw [hq] at hne;have hG1:=hG (by simp [hq])
    repeat (first|refine aw ?_|refine f1 ?_|refine m1 ?_)
    exact aJ j hG1 (by exact Uw.wM)
   | none=>
    rw [hq] at hne;rw [hone (by simp [hq])]
    repeat (first|refine aw ?_|refine f1 ?_|refine m1 ?_)
    refine bj (aF 2 rfl rfl ?_);exact Uw.wM
  have hG1:=hG (by simp [k8]);by_cases h:xk=2\/xk=9\/xk=10\/xk=11
  ·rcases h with rfl|rfl|rfl|rfl
   all_goals repeat (first|refine aw ?_|refine f1 ?_|refine m1 ?_)
   all_goals exact aJ j hG1 (by exact Uw.wM)
  obtain ⟨k2,k9,k10,k11⟩:xk≠2/\xk≠9/\xk≠10/\xk≠11:=by omega
  repeat (first|refine aw ?_|refine f1 ?_|refine m1 ?_)
  exact aJ j hG1 (by exact Uw.wM)
 | some kd=>
  rw [ht] at hth hone hG;have hth:aW (thE p.decls) (.s xs)=some (I kd):=hth;by_cases k8:xk=8
  ·subst k8
   have hne:=oL kd xt;rw [lB] at hne
   cases hq:fx kd xt with
   | some c=>
    rw [hq] at hne;have hG1:=hG (by simp [hq])
    repeat (first|refine aw ?_|refine f1 ?_|refine m1 ?_)
    exact aJ j hG1 (by exact Uw.wM)
   | none=>
    rw [hq] at hne;rw [hone (by simp [hq])]
    repeat (first|refine aw ?_|refine f1 ?_|refine m1 ?_)
    refine bj (aF 2 rfl rfl ?_);exact Uw.wM
  by_cases h2:xk=2\/xk=9
  ·by_cases hk:kd=0
   ·have hG1:=hG (by rw [if_pos h2];simp [hk])
    rcases h2 with rfl|rfl
    all_goals repeat (first|refine aw ?_|refine f1 ?_|refine m1 ?_)
    all_goals exact aJ j hG1 (by exact Uw.wM)
   ·rw [hone (by rw [if_pos h2];simp [hk])]
    rcases h2 with rfl|rfl
    all_goals repeat (first|refine aw ?_|refine f1 ?_|refine m1 ?_)
    all_goals refine bj (aF 2 rfl rfl ?_)
    all_goals exact Uw.wM
  by_cases h1:xk=10\/xk=11
  ·rw [hone (by rw [if_neg h2,if_pos h1];rfl)]
   rcases h1 with rfl|rfl
   all_goals repeat (first|refine aw ?_|refine f1 ?_|refine m1 ?_)
   all_goals refine bj (aF 2 rfl rfl ?_)
   all_goals exact Uw.wM
  have hG1:=hG (by rw [if_neg h2,if_neg h1,if_neg k8]);obtain ⟨k2,k9,k10,k11⟩:xk≠2/\xk≠9/\xk≠10/\xk≠11:=by omega
  repeat (first|refine aw ?_|refine f1 ?_|refine m1 ?_)
  exact aJ j hG1 (by exact Uw.wM)
end Uw.Tryz
namespace Uw.Tryz
open Go Uw
theorem QT (p:Pg) (hF:p.ae≠[]) (s:Str):∃f:Fu,f.args.length=argsAt p s/\((aW (fnE p.ae) (.s s)=none/\(p.ae.map fuL)[(0:Int).toNat]? = some (fuL f))\/∃i:Nat,aW (fnE p.ae) (.s s)=some (I i)/\i<p.ae.length/\(p.ae.map fuL)[((i:Nat):Int).toNat]? = some (fuL f)):=by
 have hpos:=List.length_pos_iff.2 hF
 cases hq:dD p s with
 | none=>
  refine ⟨p.ae[0],?_,.inl ⟨by rw [DY,hq];rfl,?_⟩⟩
  ·rw [argsAt,hq];simp [List.getD,hpos]
  ·show (p.ae.map fuL)[0]? = _
   simp [hpos]
 | some i=>
  have hi:i<p.ae.length:=by
   rw [dD] at hq;exact (List.findIdx?_eq_some_iff_getElem.1 hq).1
  refine ⟨p.ae[i],?_,.inr ⟨i,by rw [DY,hq];rfl,hi,?_⟩⟩
  ·rw [argsAt,hq];simp [List.getD,hi]
  ·show (p.ae.map fuL)[i]? = _
   simp [hi]
theorem iE {P:Program} {Q:aH->St->Prop} {S:Nat->St} {inv:Nat->Prop} {mu:Nat->Nat} {x:Nat} {kk:aH->St->Tree} (hkk:∀s,kk .ret s=Tree.done .ret s) {s:St} (h:WT P Q (.done .ret s)):WT P (mT S inv mu x fun e s=>WT P Q (kk e s)) (.done .ret s):=
 bj (by show WT P Q (kk .ret s);rw [hkk];exact h)
def mnB:b9:=qL (qL (qR (qL (qR (qR iN.code)))))
abbrev mnS (p:Pg) (j:Nat):St:=⟨[(21,.d (I j)),(20,.d (I ((p.nodes.map ndL).length:Nat))),(19,.d (bN p.nodes)),(1,.ptr 2 0)],sHp p,3,[],2⟩
abbrev mnG (p:Pg) (j:Nat):Prop:=∀h:j<p.nodes.length,manyN p p.nodes[j]=false
set_option maxRecDepth 4000 in
set_option maxHeartbeats 4000000 in
theorem zL (p:Pg) (hp:Lim p) (hF0:p.ae≠[]) (R:Bool) (j:Nat) (hj:j<p.nodes.length) (hone:manyN p p.nodes[j]=true->R=true) (hpre:∀i,i<j->mnG p i) {kk:aH->St->Tree} (hkk:∀s,kk .ret s=Tree.done .ret s) :
  WT P0 (mT (mnS p) (AE p.nodes.length (mnG p)) (forM p.nodes.length) j fun e s=>WT P0 (EQ 2 iN.res (.d (.bool R)) (sBs p)) (kk e s)) (exec mnB (mnS p j) Tree.done):=by
 have hN:=hp.nodes;have hF:=hp.ae;have hpos:=List.length_pos_iff.2 hF0;have hpi:(0:Int)<((p.ae.map fuL).length:Nat):=by rw [List.length_map];omega
 have hnl:(p.nodes.map ndL).length=p.nodes.length:=by simp
 have hfl:(p.ae.map fuL).length=p.ae.length:=by simp
 have hfm:=QT p hF0;have he:(p.nodes.map ndL)[(j:Int).toNat]? = some (ndL p.nodes[j]):=by simp [hj]
 have hth:=wn p p.nodes[j].name;have hG:manyN p p.nodes[j]=false->mnG p j:=fun h _=>h;have hd:∀x,manyN p x=(if x.kind=10 then !decide (x.of.length=argsAt p x.name2) else if x.kind=11 then !decide (argsAt p x.name2=1) else if x.kind=8 then !decide ((x.of.length:Int)=(fx ((bp p x.name).getD 0) x.name2).getD 0) else false):=fun x=>rfl;rw [hd] at hone hG;clear hd;generalize p.nodes[j]=x at *;obtain ⟨xk,xn,xs,xt,xo⟩:=x;have he:(p.nodes.map ndL)[(j:Int).toNat]? = some [I xk,I xn,.str xs,.str xt,.slice 1 (xo.map fun i=>[I i]) false]:=he;simp only at hone hG hth;have hol:(xo.map fun i=>[I i]).length=xo.length:=by simp
 obtain ⟨f,hf1,hf2⟩:=hfm xt;have hf3:(f.args.map fun s=>[Dat.str s]).length=argsAt p xt:=by rw [List.length_map];exact hf1
 clear hfm hf1;generalize argsAt p xt=af at *;obtain ⟨fn,fa,fb⟩:=f;simp only at hf3 hf2;by_cases k10:xk=10
 ·by_cases hw:xo.length=af
  ·have hG1:=hG (by rw [if_pos k10];simp [hw])
   have hw2:((xo.map fun i=>[I i]).length:Int)=((fa.map fun s=>[Dat.str s]).length:Nat):=by omega
   subst k10
   rcases hf2 with ⟨h1,h2⟩|⟨i,h1,h3,h2⟩
   all_goals have h2:_=some [.str fn,.slice 1 (fa.map fun s=>[Dat.str s]) false,I fb]:=h2
   all_goals repeat (first|refine aw ?_|refine f1 ?_|refine m1 ?_)
   all_goals exact aJ j hG1 (by exact Uw.wM)
  ·rw [hone (by rw [if_pos k10];simp [hw])]
   have hw2:¬((xo.map fun i=>[I i]).length:Int)=((fa.map fun s=>[Dat.str s]).length:Nat):=by omega
   subst k10
   rcases hf2 with ⟨h1,h2⟩|⟨i,h1,h3,h2⟩
   all_goals have h2:_=some [.str fn,.slice 1 (fa.map fun s=>[Dat.str s]) false,I fb]:=h2
   all_goals repeat (first|refine aw ?_|refine f1 ?_|refine m1 ?_)
   all_goals refine iE hkk (aF 2 rfl rfl ?_)
   all_goals exact Uw.wM
 by_cases k11:xk=11
 ·by_cases hw:af=1
  ·have hG1:=hG (by rw [if_neg k10,if_pos k11];simp [hw])
   have hw2:((fa.map fun s=>[Dat.str s]).length:Int)=1:=by omega
   subst k11
   rcases hf2 with ⟨h1,h2⟩|⟨i,h1,h3,h2⟩
   all_goals have h2:_=some [.str fn,.slice 1 (fa.map fun s=>[Dat.str s]) false,I fb]:=h2
   all_goals repeat (first|refine aw ?_|refine f1 ?_|refine m1 ?_)
   all_goals exact aJ j hG1 (by exact Uw.wM)
  ·rw [hone (by rw [if_neg k10,if_pos k11];simp [hw])]
   have hw2:¬((fa.map fun s=>[Dat.str s]).length:Int)=1:=by omega
   subst k11
   rcases hf2 with ⟨h1,h2⟩|⟨i,h1,h3,h2⟩
   all_goals have h2:_=some [.str fn,.slice 1 (fa.map fun s=>[Dat.str s]) false,I fb]:=h2
   all_goals repeat (first|refine aw ?_|refine f1 ?_|refine m1 ?_)
   all_goals refine iE hkk (aF 2 rfl rfl ?_)
   all_goals exact Uw.wM
 clear hf2 hf3;by_cases k8:xk=8
 ·obtain ⟨kd,hkd⟩:∃kd,(bp p xs).getD 0=kd:=⟨_,rfl⟩
  have hne:=oL kd xt;rw [lB] at hne;rw [hkd] at hone hG;generalize (fx kd xt).isSome=b at hne;generalize (fx kd xt).getD 0=nd at *;by_cases hw:(xo.length:Int)=nd
  ·have hG1:=hG (by rw [if_neg k10,if_neg k11,if_pos k8];simp [hw])
   have hw2:((xo.map fun i=>[I i]).length:Int)=nd:=by omega
   subst k8
   cases ht:bp p xs with
   | none=>
    rw [ht] at hth hkd;have hth:aW (thE p.decls) (.s xs)=none:=hth;obtain rfl:kd=0:=hkd.symm
    repeat (first|refine aw ?_|refine f1 ?_|refine m1 ?_)
    exact aJ j hG1 (by exact Uw.wM)
   | some kd'=>
    rw [ht] at hth hkd;have hth:aW (thE p.decls) (.s xs)=some (I kd'):=hth;obtain rfl:kd' = kd:=hkd
    repeat (first|refine aw ?_|refine f1 ?_|refine m1 ?_)
    exact aJ j hG1 (by exact Uw.wM)
  ·rw [hone (by rw [if_neg k10,if_neg k11,if_pos k8];simp [hw])]
   have hw2:¬((xo.map fun i=>[I i]).length:Int)=nd:=by omega
   subst k8
   cases ht:bp p xs with
   | none=>
    rw [ht] at hth hkd;have hth:aW (thE p.decls) (.s xs)=none:=hth;obtain rfl:kd=0:=hkd.symm
    repeat (first|refine aw ?_|refine f1 ?_|refine m1 ?_)
    refine iE hkk (aF 2 rfl rfl ?_);exact Uw.wM
   | some kd'=>
    rw [ht] at hth hkd;have hth:aW (thE p.decls) (.s xs)=some (I kd'):=hth;obtain rfl:kd' = kd:=hkd
    repeat (first|refine aw ?_|refine f1 ?_|refine m1 ?_)
    refine iE hkk (aF 2 rfl rfl ?_);exact Uw.wM
 have hG1:=hG (by rw [if_neg k10,if_neg k11,if_neg k8])
 repeat (first|refine aw ?_|refine f1 ?_|refine m1 ?_)
 exact aJ j hG1 (by exact Uw.wM)
set_option maxRecDepth 4000 in
set_option maxHeartbeats 4000000 in
theorem AV (p:Pg) (hp:Lim p) (hF0:p.ae≠[]):bk P0 lN [.agg (sCs p)] (sBs p) (.d (.bool (lJ p))) (sBs p):=by
 have hN:=hp.nodes;have hF:=hp.ae;have hpos:=List.length_pos_iff.2 hF0;have hpi:(0:Int)<((p.ae.map fuL).length:Nat):=by rw [List.length_map];omega
 have hnl:(p.nodes.map ndL).length=p.nodes.length:=by simp
 have hfl:(p.ae.map fuL).length=p.ae.length:=by simp
 have hall:¬0<argsAt p gy->(∀(j:Nat) (h:j<p.nodes.length),manyN p p.nodes[j]=false)->lJ p=false:=fun h0 h=>by
  rw [lJ,decide_eq_false h0,Bool.false_or,List.any_eq_false];intro x hx;obtain ⟨j,hj,rfl⟩:=List.mem_iff_getElem.1 hx;rw [h j hj];simp
 have hone:∀(j:Nat) (h:j<p.nodes.length),manyN p p.nodes[j]=true->lJ p=true:=fun j h e=>by
  rw [lJ,Bool.or_eq_true,List.any_eq_true];exact .inr ⟨_,List.getElem_mem h,e⟩
 have hzero:0<argsAt p gy->lJ p=true:=fun h=>by rw [lJ,decide_eq_true h];rfl
 have hfm:=QT p hF0;generalize lJ p=R at *;obtain ⟨fm,hm1,hm2⟩:=hfm gy;have hm3:(fm.args.map fun s=>[Dat.str s]).length=argsAt p gy:=by rw [List.length_map];exact hm1
 rw [<- hm3] at hzero hall;generalize argsAt p gy=am at *;obtain ⟨fmn,fma,fmb⟩:=fm;simp only at hm3 hzero hall hm2;refine aG rC rfl ?_;by_cases ha:0<(fma.map fun s=>[Dat.str s]).length
 ·rw [hzero ha]
  have ha2:(0:Int)<((fma.map fun s=>[Dat.str s]).length:Nat):=by omega
  rcases hm2 with ⟨g1,g2⟩|⟨i,g1,g3,g2⟩
  all_goals have g2:_=some [.str fmn,.slice 1 (fma.map fun s=>[Dat.str s]) false,I fmb]:=g2
  all_goals have g1:aW (fnE p.ae) (.s [109,97,105,110])=_:=g1
  all_goals repeat (first|refine aw ?_|refine f1 ?_|refine m1 ?_)
  all_goals refine aF 2 rfl rfl ?_
  all_goals exact Uw.wM
 have ha2:¬(0:Int)<((fma.map fun s=>[Dat.str s]).length:Nat):=by omega
 have hall:=hall ha;clear hzero
 rcases hm2 with ⟨g1,g2⟩|⟨im,g1,g3,g2⟩
 ·have g2:_=some [.str fmn,.slice 1 (fma.map fun s=>[Dat.str s]) false,I fmb]:=g2
  have g1:aW (fnE p.ae) (.s [109,97,105,110])=_:=g1
  repeat (first|refine aw ?_|refine f1 ?_|refine m1 ?_)
  refine cb p.nodes.length (mnS p) (mnG p) (by exact Uw.wM) (fun hg=>?_) (fun j hj hg=>zL p hp hF0 R j hj (hone j hj) hg (fun s=>rfl));rw [hall (fun j h=>hg j h h)]
  repeat refine aw ?_
  refine aC ?_
  repeat refine aw ?_
  refine aF 2 rfl rfl ?_;exact Uw.wM
 ·have g2:_=some [.str fmn,.slice 1 (fma.map fun s=>[Dat.str s]) false,I fmb]:=g2
  have g1:aW (fnE p.ae) (.s [109,97,105,110])=_:=g1
  repeat (first|refine aw ?_|refine f1 ?_|refine m1 ?_)
  refine cb p.nodes.length (mnS p) (mnG p) (by exact Uw.wM) (fun hg=>?_) (fun j hj hg=>zL p hp hF0 R j hj (hone j hj) hg (fun s=>rfl));rw [hall (fun j h=>hg j h h)]
  repeat refine aw ?_
  refine aC ?_
  repeat refine aw ?_
  refine aF 2 rfl rfl ?_;exact Uw.wM
end Uw.Tryz
namespace Uw.Tryz
open Go Uw
theorem zM:∀(fs:List Fu) (i:Nat) (es:MS),(qO i fs es).length<=es.length+fs.length/\((qO i fs es).length=es.length+fs.length<->(fs.map (·.name)).Nodup/\∀f∈fs,aW es (.s f.name)=none)
 | [],i,es=>by simp [qO]
 | f::fs,i,es=>by
  rw [qO]
  cases hm:aW es (.s f.name) with
  | some v=>
   obtain ⟨h1,h2⟩:=zM fs (i+1) es;rw [if_pos (by rfl)];refine ⟨by simp;omega,⟨fun h=>?_,fun h=>?_⟩⟩
   ·simp at h;omega
   ·have:=h.2 f (by simp);rw [hm] at this;cases this
  | none=>
   obtain ⟨h1,h2⟩:=zM fs (i+1) (dJ es (.s f.name) (I i));rw [if_neg (by simp)];have hs:(dJ es (.s f.name) (I i)).length=es.length+1:=by rw [zy,hm];rfl
   rw [hs] at h1 h2;refine ⟨by simp;omega,?_⟩;rw [show es.length+(f::fs).length=es.length+1+fs.length by simp;omega,h2,List.map_cons,List.nodup_cons];have hg:∀s:Str,aW (dJ es (.s f.name) (I i)) (.s s)=if s=f.name then some (I i) else aW es (.s s):=fun s=>by
    rw [fy];simp
   constructor
   ·rintro ⟨g1,g2⟩
    refine ⟨⟨fun hin=>?_,g1⟩,fun f' hf'=>?_⟩
    ·obtain ⟨f',hf',he⟩:=List.mem_map.1 hin
     have:=g2 f' hf';rw [hg,if_pos he] at this
     cases this
    ·rcases List.mem_cons.1 hf' with rfl|hf'
     ·exact hm
     ·have:=g2 f' hf'
      rw [hg] at this
      split at this
      ·cases this
      ·exact this
   ·rintro ⟨⟨g1,g2⟩,g3⟩
    refine ⟨g2,fun f' hf'=>?_⟩;rw [hg,if_neg (fun e=>g1 (List.mem_map.2 ⟨f',hf',e⟩))];exact g3 f' (by simp [hf'])
theorem HI (p:Pg):(thE p.decls).length<p.decls.length<->¬(p.decls.map (·.name)).Nodup:=by
 obtain ⟨h1,h2⟩:=zB p.decls [];have e:(∀d∈p.decls,aW ([]:MS) (.s d.name)=none):=fun _ _=>rfl;constructor
 ·intro h hn
  have:=h2.2 ⟨hn,e⟩;rw [thE] at h;simp at this;omega
 ·intro h
  refine Classical.byContradiction fun h3=>h (h2.1 ?_).1;rw [thE] at h3;simp at h1 h3 ⊢;omega
theorem HJ (p:Pg):(fnE p.ae).length<p.ae.length<->¬(p.ae.map (·.name)).Nodup:=by
 obtain ⟨h1,h2⟩:=zM p.ae 0 [];have e:(∀f∈p.ae,aW ([]:MS) (.s f.name)=none):=fun _ _=>rfl;constructor
 ·intro h hn
  have:=h2.2 ⟨hn,e⟩;rw [fnE] at h;simp at this;omega
 ·intro h
  refine Classical.byContradiction fun h3=>h (h2.1 ?_).1;rw [fnE] at h3;simp at h1 h3 ⊢;omega
def I1 (p:Pg) (l:List Str) (i:Nat):Prop:=∀h:i<l.length,bp p l[i]=none/\l[i]∉l.take i
theorem F2 (p:Pg):∀(r seen:List Str),rq p seen r=false<->∀(i:Nat) (h:i<r.length),bp p r[i]=none/\r[i]∉seen/\r[i]∉r.take i
 | [],seen=>by simp [rq]
 | a::r,seen=>by
  rw [rq,Bool.or_eq_false_iff,Bool.or_eq_false_iff,F2 p r (a::seen)];constructor
  ·rintro ⟨⟨h1,h2⟩,h3⟩ i h
   cases i with
   | zero=>exact ⟨by simpa using h1,by simpa using h2,by simp⟩
   | succ i=>
    obtain ⟨g1,g2,g3⟩:=h3 i (by simpa using h);rw [List.mem_cons,not_or] at g2;refine ⟨g1,g2.2,?_⟩;rw [List.take_succ_cons,List.mem_cons,not_or];exact ⟨g2.1,g3⟩
  ·intro h
   obtain ⟨a1,a2,a3⟩:=h 0 (by simp);refine ⟨⟨by simpa using a1,by simpa using a2⟩,fun i hi=>?_⟩;obtain ⟨b1,b2,b3⟩:=h (i+1) (by simpa using hi);rw [List.take_succ_cons,List.mem_cons,not_or] at b3;exact ⟨b1,by rw [List.mem_cons,not_or];exact ⟨b3.1,b2⟩,b3.2⟩
theorem JQ (p:Pg) (l:List Str):rq p [] l=false<->∀i,i<l.length->I1 p l i:=by
 rw [F2];constructor
 ·intro h i hi _;exact ⟨(h i hi).1,(h i hi).2.2⟩
 ·intro h i hi;exact ⟨(h i hi hi).1,by simp,(h i hi hi).2⟩
end Uw.Tryz
namespace Uw.Tryz
open Go Uw
abbrev twS (p:Pg) (j:Nat) (fa:List Str) (E:Nat->MS) (i:Nat):St:=⟨[(40,.d (I i)),(39,.d (I ((fa.map fun s=>[Dat.str s]).length:Nat))),(38,.d (fY fa)),(5,.hnd 4),(32,.d (I j)),(31,.d (I ((p.ae.map fuL).length:Nat))),(30,.d (.slice 3 (p.ae.map fuL) false)),(1,.ptr 2 0)],(4,.map none (E i))::sHp p,5,[],2⟩
set_option maxRecDepth 8000 in
set_option maxHeartbeats 4000000 in
theorem zN (p:Pg) (hp:Lim p):bk P0 kU [.agg (sCs p)] (sBs p) (.d (.bool (iK p))) (sBs p):=by
 have hF:=hp.ae;have hD:=hp.decls;have hfl:(p.ae.map fuL).length=p.ae.length:=by simp
 have hdl:(p.decls.map cI).length=p.decls.length:=by simp
 have h1:=HI p;have h2:=HJ p;have hargs:=hp.args;refine aG qG rfl ?_;by_cases hD1:(thE p.decls).length<p.decls.length
 ·have hR:iK p=true:=by rw [iK,decide_eq_false (h1.1 hD1)];rfl
  rw [hR];have hD2:(((thE p.decls).length:Nat):Int)<((p.decls.map cI).length:Nat):=by omega
  repeat (first|refine aw ?_|refine f1 ?_|refine m1 ?_)
  refine aF 2 rfl rfl ?_;exact Uw.wM
 have hDn:(p.decls.map (·.name)).Nodup:=Classical.byContradiction fun h=>hD1 (h1.2 h);have hD2:¬(((thE p.decls).length:Nat):Int)<((p.decls.map cI).length:Nat):=by omega
 by_cases hF1:(fnE p.ae).length<p.ae.length
 ·have hR:iK p=true:=by rw [iK,decide_eq_true hDn,decide_eq_false (h2.1 hF1)];rfl
  rw [hR];have hF2:(((fnE p.ae).length:Nat):Int)<((p.ae.map fuL).length:Nat):=by omega
  repeat (first|refine aw ?_|refine f1 ?_|refine m1 ?_)
  refine aF 2 rfl rfl ?_;exact Uw.wM
 have hFn:(p.ae.map (·.name)).Nodup:=Classical.byContradiction fun h=>hF1 (h2.2 h);have hF2:¬(((fnE p.ae).length:Nat):Int)<((p.ae.map fuL).length:Nat):=by omega
 have hR:iK p=p.ae.any fun f=>rq p [] f.args:=by rw [iK,decide_eq_true hDn,decide_eq_true hFn];rfl
 have hall:(∀(j:Nat) (h:j<p.ae.length),rq p [] p.ae[j].args=false)->iK p=false:=fun h=>by
  rw [hR,List.any_eq_false];intro x hx;obtain ⟨j,hj,rfl⟩:=List.mem_iff_getElem.1 hx;rw [h j hj];simp
 have hone:∀(j:Nat) (h:j<p.ae.length),rq p [] p.ae[j].args=true->iK p=true:=fun j h e=>by
  rw [hR,List.any_eq_true];exact ⟨_,List.getElem_mem h,e⟩
 generalize iK p=R at *;clear hR h1 h2
 repeat (first|refine aw ?_|refine f1 ?_|refine m1 ?_)
 refine cb p.ae.length (fun j:Nat=>⟨[(32,.d (I j)),(31,.d (I ((p.ae.map fuL).length:Nat))),(30,.d (.slice 3 (p.ae.map fuL) false)),(1,.ptr 2 0)],sHp p,3,[],2⟩) (fun j=>∀h:j<p.ae.length,rq p [] p.ae[j].args=false) (by exact Uw.wM) (fun hg=>?_) (fun j hj hg=>?_)
 ·rw [hall (fun j h=>hg j h h)]
  repeat refine aw ?_
  refine aC ?_
  repeat refine aw ?_
  refine aF 2 rfl rfl ?_;exact Uw.wM
 have he:(p.ae.map fuL)[(j:Int).toNat]? = some (fuL p.ae[j]):=by simp [hj]
 have hone:=hone j hj;have hG:rq p [] p.ae[j].args=false->(fun j=>∀h:j<p.ae.length,rq p [] p.ae[j].args=false) j:=fun h _=>h;have hal:=hargs _ (List.getElem_mem hj);clear hall hargs;generalize p.ae[j]=x at *;obtain ⟨fn,fa,fb⟩:=x;have he:(p.ae.map fuL)[(j:Int).toNat]? = some [.str fn,.slice 1 (fa.map fun s=>[Dat.str s]) false,I fb]:=he;simp only at hone hG hal;have WJ:(fa.map fun s=>[Dat.str s]).length=fa.length:=by simp
 have hda:=JQ p fa;obtain ⟨E,hE⟩:∃E:Nat->MS,∀i,E i=ct (fa.take i):=⟨_,fun _=>rfl⟩
 have hE0:([]:MS)=E 0:=by rw [hE];rfl
 have hEs:∀(i:Nat) (h:i<fa.length),dJ (E i) (.s fa[i]) (.bool true)=E (i+1):=fun i h=>by rw [hE,hE,List.take_succ_eq_append_getElem h,qg]
 have hEg:∀(i:Nat) (s:Str),aW (E i) (.s s)=if s∈fa.take i then some (.bool true) else none:=fun i s=>by rw [hE,si]
 have hge:∀(i:Nat) (h:i<fa.length),(fa.map fun s=>[Dat.str s])[(i:Int).toNat]? = some [.str fa[i]]:=fun i h=>by simp [h]
 have hbad:∀i,∀h:i<fa.length,¬(bp p fa[i]=none/\fa[i]∉fa.take i)->R=true:=fun i h hn=>hone (by
  cases hd:rq p [] fa with
  | true=>rfl
  | false=>exact absurd (hda.1 hd i h h) hn)
 have hgood:(∀i,i<fa.length->I1 p fa i)->∀h:j<p.ae.length,rq p [] p.ae[j].args=false:=fun h=>hG (hda.2 h);have hS0:twS p j fa E 0=⟨[(40,.d (I (0:Nat))),(39,.d (I ((fa.map fun s=>[Dat.str s]).length:Nat))),(38,.d (fY fa)),(5,.hnd 4),(32,.d (I j)),(31,.d (I ((p.ae.map fuL).length:Nat))),(30,.d (.slice 3 (p.ae.map fuL) false)),(1,.ptr 2 0)],(4,.map none [])::sHp p,5,[],2⟩:=by rw [twS,<- hE0]
 clear hone hG hda hE
 repeat (first|refine aw ?_|refine f1 ?_|refine m1 ?_)
 refine cb fa.length (twS p j fa E) (I1 p fa) (cX hS0 ?_) (fun hg2=>?_) (fun i hi hg2=>?_)
 ·exact Uw.wM
 ·have hg3:=hgood hg2
  refine aw ?_;refine aC ?_;refine aw ?_;exact aJ j hg3 (by exact Uw.wM)
 have hel:=hge i hi;have hs:=hEs i hi;have hbad:=hbad i hi;have hfree:bp p fa[i]=none/\fa[i]∉fa.take i->I1 p fa i:=fun h _=>h;have hth:=wn p fa[i];have hEg:=hEg i fa[i];clear hge hEs hgood;generalize fa[i]=a at *
 cases ht:bp p a with
 | some kd=>
  rw [ht] at hth;have hth:aW (thE p.decls) (.s a)=some (I kd):=hth;rw [hbad (by rw [ht];simp)]
  repeat (first|refine aw ?_|refine f1 ?_|refine m1 ?_)
  refine bj (bj (aF 2 rfl rfl ?_));exact Uw.wM
 | none=>
  rw [ht] at hth;have hth:aW (thE p.decls) (.s a)=none:=hth;by_cases hin:a∈fa.take i
  ·rw [if_pos hin] at hEg
   rw [hbad (fun h=>h.2 hin)]
   repeat (first|refine aw ?_|refine f1 ?_|refine m1 ?_)
   refine bj (bj (aF 2 rfl rfl ?_));exact Uw.wM
  ·rw [if_neg hin] at hEg
   have hfr:=hfree ⟨ht,hin⟩
   repeat (first|refine aw ?_|refine f1 ?_|refine m1 ?_)
   exact aJ i hfr (by exact Uw.wM)
end Uw.Tryz
namespace Uw
open Go
theorem cP {P:Program} {Q:aH->St->Prop} {o:Option Dat} {k:Dat->Tree} (z v:Dat) (h:o.getD z=v) (h2:WT P Q (k v)):WT P Q (.test o.isSome (.val o k) (k z)):=by
 cases o with
 | none=>exact E3 rfl (by rw [<- h] at h2;exact h2)
 | some d=>exact IB (v:=d) rfl (by rw [<- h] at h2;exact h2)
end Uw
namespace Uw.Tryz
open Go Uw
def DZ (es:MS) (d:Dec):MS:=dJ es (.i d.kind) (match (aW es (.i d.kind)).getD (I 0) with | .int _ c=>I (c+1)|_=>I 1)
def ctE (ds:List Dec):MS:=ds.foldl DZ []
abbrev ctN (ds:List Dec) (k:Int):Nat:=ds.countP fun d=>decide (d.kind=k)
theorem F3 (ds:List Dec) (d:Dec):ctE (ds++[d])=DZ (ctE ds) d:=by rw [ctE,List.foldl_append];rfl
theorem uh (ds:List Dec):∀k:Int,(aW (ctE ds) (.i k)).getD (I 0)=I (ctN ds k:Nat):=by
 have key:∀n,∀k:Int,(aW (ctE (ds.take n)) (.i k)).getD (I 0)=I (ctN (ds.take n) k:Nat):=by
  intro n
  induction n with
  | zero=>intro k;rfl
  | succ n ih=>
   intro k
   rcases Nat.lt_or_ge n ds.length with h|h
   ·rw [List.take_succ_eq_append_getElem h,F3,DZ,fy,ih]
    have e:ctN (List.take n ds++[ds[n]]) k=ctN (List.take n ds) k+if ds[n].kind=k then 1 else 0:=by
     rw [ctN,List.countP_append,List.countP_singleton];simp
    rw [e];by_cases hk:k=ds[n].kind
    ·subst hk
     rw [if_pos rfl,if_pos rfl];show I _=I _
     congr 1
    ·rw [if_neg (by simp;exact hk),if_neg (fun e=>hk e.symm),ih];rfl
   ·have e:ds.take (n+1)=ds.take n:=by rw [List.take_of_length_le h,List.take_of_length_le (by omega)]
    rw [e];exact ih k
 intro k;have:=key ds.length k
 rwa [List.take_length] at this
theorem I2 (ds:List Dec) (d:Dec):dJ (ctE ds) (.i d.kind) (I ((ctN ds d.kind:Nat)+1))=ctE (ds++[d]):=by
 rw [F3,DZ,uh]
end Uw.Tryz
namespace Uw.Tryz
open Go Uw
def AW:List Dec->List Dec->MS->MS
 | _,[],es=>es
 | pre,d::r,es=>AW (pre++[d]) r (dJ es (.s d.name) (.agg [I d.kind,I (ctN pre d.kind:Nat)]))
def tgE (ds:List Dec):MS:=AW [] ds []
theorem BM (d:Dec):∀(l pre:List Dec) (es:MS),AW pre (l++[d]) es=dJ (AW pre l es) (.s d.name) (.agg [I d.kind,I (ctN (pre++l) d.kind:Nat)])
 | [],pre,es=>by rw [List.nil_append,AW,AW,AW,List.append_nil]
 | e::l,pre,es=>by rw [List.cons_append,AW,BM d l,AW,List.append_assoc];rfl
theorem zO (ds:List Dec) (d:Dec):tgE (ds++[d])=dJ (tgE ds) (.s d.name) (.agg [I d.kind,I (ctN ds d.kind:Nat)]):=by rw [tgE,BM];rfl
theorem D1 (s:Str):∀(n:Nat) (ds:List Dec),(∀(i:Nat) (h:i<ds.length),i<n->ds[i].name≠s)->aW (tgE (ds.take n)) (.s s)=none
 | 0,ds,_=>by simp [tgE,AW,aW]
 | n+1,ds,h=>by
  rcases Nat.lt_or_ge n ds.length with hn|hn
  ·rw [List.take_succ_eq_append_getElem hn,zO,fy,if_neg (by simp;exact fun e=>h n hn (by omega) e.symm)]
   exact D1 s n ds fun i hi hin=>h i hi (by omega)
  ·rw [show ds.take (n+1)=ds.take n by rw [List.take_of_length_le (by omega),List.take_of_length_le hn]]
   exact D1 s n ds fun i hi hin=>h i hi (by omega)
theorem D2 (s:Str) (ds:List Dec) (i:Nat) (hi:i<ds.length) (hs:ds[i].name=s) (hu:∀(j:Nat) (h:j<ds.length),ds[j].name=s->j=i):∀n,i<n->aW (tgE (ds.take n)) (.s s)=some (.agg [I ds[i].kind,I (ctN (ds.take i) ds[i].kind:Nat)])
 | 0,h=>by omega
 | n+1,h=>by
  rcases Nat.lt_or_ge n ds.length with hn|hn
  ·rw [List.take_succ_eq_append_getElem hn,zO,fy]
   by_cases e:n=i
   ·subst e
    rw [if_pos (by rw [hs])]
   ·rw [if_neg (by simp;exact fun e2=>e (hu n hn e2.symm))]
    exact D2 s ds i hi hs hu n (by omega)
  ·rw [show ds.take (n+1)=ds.take n by rw [List.take_of_length_le (by omega),List.take_of_length_le hn]]
   exact D2 s ds i hi hs hu n (by omega)
theorem SQ (p:Pg) (hn:(p.decls.map (·.name)).Nodup) (s:Str):aW (tgE p.decls) (.s s)=(bp p s).map fun k=>Dat.agg [I k,I (rO p s:Nat)]:=by
 have e:=List.take_length (l:=p.decls);by_cases h:∃(i:Nat) (hi:i<p.decls.length),p.decls[i].name=s
 ·obtain ⟨i,hi,hs⟩:=h
  have hu:∀(j:Nat) (h:j<p.decls.length),p.decls[j].name=s->j=i:=fun j hj hjs=>po hn (by simpa using hj) (by simpa using hi) (by simp [hjs,hs]);have h1:=D2 s p.decls i hi hs hu p.decls.length hi;rw [e] at h1;have h2:bp p s=some p.decls[i].kind:=by rw [<- hs];exact HE hn (List.getElem_mem hi)
  have h3:rO p s=ctN (p.decls.take i) p.decls[i].kind:=by
   have:(p.decls.findIdx? fun d=>decide (d.name=s))=some i:=List.findIdx?_eq_some_iff_getElem.2 ⟨hi,by simpa using hs,fun j hj hjs=>by
    have:=hu j (by omega) (by simpa using hjs);omega⟩
   rw [rO,this,h2];rfl
  rw [h1,h2,h3];rfl
 ·have h1:=D1 s p.decls.length p.decls fun i hi _ hs=>h ⟨i,hi,hs⟩
  rw [e] at h1;have h2:bp p s=none:=FN.2 fun d hd he=>by
   obtain ⟨j,hj,rfl⟩:=List.mem_iff_getElem.1 hd;exact h ⟨j,hj,he⟩
  rw [h1,h2];rfl
def fuE (fs:List Fu):MS:=fs.zipIdx.foldl (fun es y=>dJ es (.s y.1.name) (I (y.2:Nat))) []
theorem zP (fs:List Fu) (f:Fu):fuE (fs++[f])=dJ (fuE fs) (.s f.name) (I (fs.length:Nat)):=by
 rw [fuE,List.zipIdx_append,List.foldl_append];simp [fuE]
theorem D3 (s:Str):∀(n:Nat) (fs:List Fu),(∀(i:Nat) (h:i<fs.length),i<n->fs[i].name≠s)->aW (fuE (fs.take n)) (.s s)=none
 | 0,fs,_=>by simp [fuE,aW]
 | n+1,fs,h=>by
  rcases Nat.lt_or_ge n fs.length with hn|hn
  ·rw [List.take_succ_eq_append_getElem hn,zP,fy,if_neg (by simp;exact fun e=>h n hn (by omega) e.symm)]
   exact D3 s n fs fun i hi hin=>h i hi (by omega)
  ·rw [show fs.take (n+1)=fs.take n by rw [List.take_of_length_le (by omega),List.take_of_length_le hn]]
   exact D3 s n fs fun i hi hin=>h i hi (by omega)
theorem D4 (s:Str) (fs:List Fu) (i:Nat) (hi:i<fs.length) (hs:fs[i].name=s) (hu:∀(j:Nat) (h:j<fs.length),fs[j].name=s->j=i):∀n,i<n->aW (fuE (fs.take n)) (.s s)=some (I (i:Nat))
 | 0,h=>by omega
 | n+1,h=>by
  rcases Nat.lt_or_ge n fs.length with hn|hn
  ·rw [List.take_succ_eq_append_getElem hn,zP,fy]
   by_cases e:n=i
   ·subst e
    rw [if_pos (by rw [hs]),List.length_take,Nat.min_eq_left (by omega)]
   ·rw [if_neg (by simp;exact fun e2=>e (hu n hn e2.symm))]
    exact D4 s fs i hi hs hu n (by omega)
  ·rw [show fs.take (n+1)=fs.take n by rw [List.take_of_length_le (by omega),List.take_of_length_le hn]]
   exact D4 s fs i hi hs hu n (by omega)
theorem HK (p:Pg) (hn:(p.ae.map (·.name)).Nodup) (s:Str):aW (fuE p.ae) (.s s)=(dD p s).map fun (i:Nat)=>I (i:Nat):=by
 have e:=List.take_length (l:=p.ae)
 cases h:dD p s with
 | some i=>
  obtain ⟨hi,hs⟩:=mF h;have h1:=D4 s p.ae i hi hs (fun j hj hjs=>po hn (by simpa using hj) (by simpa using hi) (by simp [hjs,hs])) p.ae.length hi;rw [e] at h1;rw [h1];rfl
 | none=>
  have h1:=D3 s p.ae.length p.ae fun i hi _ hs=>by
   rw [<- hs,BI hn hi] at h;cases h
  rw [e] at h1;rw [h1];rfl
def hpE (n:Nat) (l:List Str):MS:=l.zipIdx.foldl (fun es y=>dJ es (.s y.1) (I ((n+y.2:Nat):Int))) []
theorem zQ (n:Nat) (l:List Str) (s:Str):hpE n (l++[s])=dJ (hpE n l) (.s s) (I ((n+l.length:Nat):Int)):=by
 rw [hpE,List.zipIdx_append,List.foldl_append];simp [hpE]
theorem HL (n:Nat) (s:Str):∀(l:List Str),l.Nodup->aW (hpE n l) (.s s)=(oK l s).map fun i=>I ((n:Nat)+i):=by
 intro l;have key:∀(k:Nat) (l:List Str),l.length=k->l.Nodup->aW (hpE n l) (.s s)=(oK l s).map fun i=>I ((n:Nat)+i):=by
  intro k
  induction k with
  | zero=>
   intro l hl _;have:l=[]:=List.eq_nil_of_length_eq_zero hl;subst this;rfl
  | succ k ih=>
   intro l hl hd;have hne:l≠[]:=by intro e;subst e;cases hl
   obtain ⟨r,x,rfl⟩:∃r x,l=r++[x]:=⟨l.dropLast,l.getLast hne,(List.dropLast_concat_getLast hne).symm⟩
   rw [List.nodup_append] at hd;rw [zQ,fy];have ih:=ih r (by simpa using hl) hd.1;by_cases e:x=s
   ·subst e
    have hx:x∉r:=fun hm=>hd.2.2 x hm x (by simp) rfl;have hf:(r.findIdx? fun t=>decide (t=x))=none:=List.findIdx?_eq_none_iff.2 fun t ht=>by
     have:t≠x:=fun e=>hx (e ▸ ht);simpa using this
    rw [if_pos rfl,oK,List.findIdx?_append,hf];simp
   ·rw [if_neg (by simp;exact fun h=>e h.symm),ih,oK,oK,List.findIdx?_append]
    cases r.findIdx? fun t=>decide (t=s) with
    | some i=>rfl
    | none=>simp [e]
 exact key l.length l rfl
theorem ui (x:Nd):∀(r:List Nd) (l:List Str),fZ (r++[x]) l=if x.kind=11/\x.name2∉fZ r l then fZ r l++[x.name2] else fZ r l
 | [],l=>rfl
 | y::r,l=>by rw [List.cons_append,fZ,ui x r,fZ]
theorem ll:∀(r:List Nd) (l:List Str),l.Nodup->(fZ r l).Nodup
 | [],l,h=>h
 | x::r,l,h=>by
  rw [fZ];refine ll r _ ?_
  split
  ·rename_i hx
   rw [List.nodup_append];exact ⟨h,by simp,fun a ha b hb=>by simp at hb;subst hb;exact fun e=>hx.2 (e ▸ ha)⟩
  ·exact h
theorem BN {l:List Str} {s:Str}:(oK l s).isSome=decide (s∈l):=by
 rw [oK,Option.isSome_map];by_cases h:s∈l
 ·rw [decide_eq_true h]
  cases hf:l.findIdx? fun t=>decide (t=s) with
  | some i=>rfl
  | none=>
   have:=List.findIdx?_eq_none_iff.1 hf s h;simp at this
 ·rw [decide_eq_false h]
  cases hf:l.findIdx? fun t=>decide (t=s) with
  | none=>rfl
  | some i=>
   obtain ⟨h1,h2,_⟩:=List.findIdx?_eq_some_iff_getElem.1 hf;simp at h2;exact absurd (h2 ▸ List.getElem_mem h1) h
end Uw.Tryz
namespace Uw.Tryz
open Go Uw
structure Mk where
 ns:List Nd
 te:MS
 fe:MS
 he:MS
 le:MS
 pd:Dat
abbrev mkB (M:Mk) (l:List In4):List Blk:=[.var [.d (bN M.ns),.hnd 1,.hnd 2,.hnd 3,.d M.pd,.hnd 4,.ref 5 l.length 0 l.length],.map none M.te,.map none M.fe,.map none M.he,.map none M.le,.mt 4 l.length (l.map in4)]
theorem bL (M:Mk) (l:List In4) (hl:l.length<1000000) (op a b c:Int):bk P0 lO [.ptr 0 0,.d (I op),.d (I a),.d (I b),.d (I c)] (mkB M l) (.tuple []) (mkB M (l++[⟨op,a,b,c⟩])):=by
 have hS:mkB M (l++[⟨op,a,b,c⟩])=[.var [.d (bN M.ns),.hnd 1,.hnd 2,.hnd 3,.d M.pd,.hnd 4,.ref 5 (l.length+1) 0 (l.length+1)],.map none M.te,.map none M.fe,.map none M.he,.map none M.le,.mt 4 (l.length+1) ((l.map in4).take l.length++[[I op,I a,I b,I c]])]:=by
  have e:(l.map in4).take l.length=l.map in4:=List.take_of_length_le (by simp);rw [mkB,e];simp [in4]
 have hv:Nat.beq l.length l.length=true:=Nat.beq_refl _;have hby:decide ((l.length+1) * 32<=70368744177664)=true:=by rw [decide_eq_true_eq];omega
 rw [hS];refine aG rE rfl ?_
 repeat refine aw ?_
 refine dp 6 rfl rfl ?_;exact Uw.wM
abbrev opE:MS:=[(.s LZ,I 1),(.s L1,I 2),(.s L0,I 3),(.s Fo,I 4),(.s L2,I 5),(.s Fp,I 6),(.s Fq,I 7)]
theorem SR (s:Str):(li s=0/\aW opE (.s s)=none)\/aW opE (.s s)=some (I (li s)):=by
 by_cases a1:s=LZ
 ·subst a1;exact .inr rfl
 by_cases a2:s=L1
 ·subst a2;exact .inr rfl
 by_cases a3:s=L0
 ·subst a3;exact .inr rfl
 by_cases a4:s=Fo
 ·subst a4;exact .inr rfl
 by_cases a5:s=L2
 ·subst a5;exact .inr rfl
 by_cases a6:s=Fp
 ·subst a6;exact .inr rfl
 by_cases a7:s=Fq
 ·subst a7;exact .inr rfl
 exact .inl ⟨by simp [li,a1,a2,a3,a4,a5,a6,a7],by simp [aW,a1,a2,a3,a4,a5,a6,a7]⟩
theorem sO (s:Str):Ret P0 lR [.str s] (I (li s)):=by
 rcases SR s with ⟨e,hg⟩|hg
 ·rw [e]
  refine az kY rfl ?_
  repeat (first|refine aw ?_|refine m1 ?_)
  exact ak rfl rfl rfl rfl rfl
 ·refine az kY rfl ?_
  repeat (first|refine aw ?_|refine m1 ?_)
  exact ak rfl rfl rfl rfl rfl
theorem vu (k:Int) (hk:3<=k/\k<=7):Ret P0 od [I k] (I (k+3)):=by
 have:k=3\/k=4\/k=5\/k=6\/k=7:=by omega
 rcases this with rfl|rfl|rfl|rfl|rfl
 all_goals refine az t8 rfl ?_
 all_goals repeat refine aw ?_
 all_goals exact ak rfl rfl rfl rfl rfl
theorem lC (M:Mk) (l:List In4) (s:Str) (v:Option Int) (h:aW M.le (.s s)=v.map I):bk P0 kc [.ptr 0 0,.d (.str s)] (mkB M l) (.d (I (v.getD (-1)))) (mkB M l):=by
 cases v with
 | some i=>
  have h:aW M.le (.s s)=some (I i):=h;refine aG jV rfl ?_
  repeat (first|refine aw ?_|refine m1 ?_)
  refine aF 6 rfl rfl ?_;exact Uw.wM
 | none=>
  have h:aW M.le (.s s)=none:=h;refine aG jV rfl ?_
  repeat (first|refine aw ?_|refine m1 ?_)
  refine aF 6 rfl rfl ?_;exact Uw.wM
theorem jY (M:Mk) (l:List In4) (s:Str) (v:Option Int) (h:aW M.le (.s s)=v.map I):bk P0 kZ [.ptr 0 0,.d (.str s)] (mkB M l) (.d (I (if s=[] then -1 else v.getD (-1)))) (mkB M l):=by
 by_cases q:s=[]
 ·rw [if_pos q]
  refine aG ke rfl ?_
  repeat refine aw ?_
  refine aF 6 rfl rfl ?_;exact Uw.wM
 ·rw [if_neg q]
  have hlo:=lC M l s v h;refine aG ke rfl ?_
  repeat refine aw ?_
  refine ag 6 [0,1,2,3,4,5] hlo ?_
  repeat refine aw ?_
  refine aF 6 rfl rfl ?_;exact Uw.wM
end Uw.Tryz
namespace Uw.Tryz
open Go Uw
structure SS (M:Mk) (N:Nms):Prop where
 things:∀s,aW M.te (.s s)=(N.things s).map fun t=>Dat.agg [I t.1,I t.2]
 ae:∀s,(aW M.fe (.s s)).getD (I 0)=I (N.ae s)
 helps:∀s,(aW M.he (.s s)).getD (I 0)=I (N.helps s)
 xO:∀s,aW M.le (.s s)=(N.xO s).map I
abbrev ndC (xk xn:Int) (xs xt:Str) (xo:List Int):V:=.agg [.d (I xk),.d (I xn),.d (.str xs),.d (.str xt),.d (bT xo)]
abbrev lsS (M:Mk) (l:List In4) (xk xn:Int) (xs xt:Str) (xo:List Int) (b:Bool) (tk tn:Int):St:=⟨[(5,.d (.bool b)),(4,.ptr 7 0),(3,.ptr 6 0),(0,.ptr 0 0)],(7,.var [.d (I tk),.d (I tn)])::(6,.var [.d (I xk),.d (I xn),.d (.str xs),.d (.str xt),.d (bT xo)])::br 0 (mkB M l),8,[],6⟩
def PD (M:Mk) (xs:Str) (b:Bool) (tk tn:Int):Prop:=(aW M.te (.s xs)=none/\b=false/\tk=0/\tn=0)\/(aW M.te (.s xs)=some (.agg [I tk,I tn])/\b=true)
set_option maxRecDepth 8000 in
set_option maxHeartbeats 4000000 in
theorem wu (M:Mk) (l:List In4) (hl:l.length<1000000) (xk xn:Int) (xs xt:Str) (xo:List Int) (hxo:xo.length<1000000) (b:Bool) (tk tn:Int) (hth:PD M xs b tk tn) (i:In4) (h:(xk=1/\i=⟨1,xn,0,0⟩)\/(xk=12/\i=⟨14,0,0,0⟩)\/(xk=15/\i=⟨17,0,0,0⟩)\/(xk=16/\i=⟨18,0,0,0⟩)\/(xk=17/\i=⟨12,0,0,0⟩)\/(xk=8/\i=⟨11,li xt,tn,((xo.map fun i=>[I i]).length:Nat)⟩)):bk P0 aT [.ptr 0 0,ndC xk xn xs xt xo] (mkB M l) (.tuple []) (mkB M (l++[i])):=by
 have hol:(xo.map fun i=>[I i]).length=xo.length:=by simp
 have hput:=bL M l hl i.op i.a i.b i.c;have hop:=sO xt
 rcases hth with ⟨h2,rfl,rfl,rfl⟩|⟨h2,rfl⟩
 ·rcases h with ⟨hk,rfl⟩|⟨hk,rfl⟩|⟨hk,rfl⟩|⟨hk,rfl⟩|⟨hk,rfl⟩|⟨hk,rfl⟩
  all_goals
   refine aG bg rfl ?_
   repeat refine aw ?_
   refine bZ (lsS M l xk xn xs xt xo false 0 0) ?_ ?_
   ·repeat (first|refine aw ?_|refine m1 ?_)
    exact aY (.inl ⟨rfl,by exact Uw.wM⟩)
   repeat (first|refine aw ?_|refine m1 ?_)
   refine ag 8 [0,1,2,3,4,5] hput ?_
   repeat refine aw ?_
   refine dp 6 rfl rfl ?_;exact Uw.wM
 ·rcases h with ⟨hk,rfl⟩|⟨hk,rfl⟩|⟨hk,rfl⟩|⟨hk,rfl⟩|⟨hk,rfl⟩|⟨hk,rfl⟩
  all_goals
   refine aG bg rfl ?_
   repeat refine aw ?_
   refine bZ (lsS M l xk xn xs xt xo true tk tn) ?_ ?_
   ·repeat (first|refine aw ?_|refine m1 ?_)
    exact aY (.inl ⟨rfl,by exact Uw.wM⟩)
   repeat (first|refine aw ?_|refine m1 ?_)
   refine ag 8 [0,1,2,3,4,5] hput ?_
   repeat refine aw ?_
   refine dp 6 rfl rfl ?_;exact Uw.wM
set_option maxRecDepth 8000 in
set_option maxHeartbeats 4000000 in
theorem PG (M:Mk) (l:List In4) (hl:l.length<1000000) (xn:Int) (xs xt:Str) (xo:List Int) (hxo:xo.length<1000000) (tk tn:Int) (h:aW M.te (.s xs)=some (.agg [I tk,I tn])):bk P0 aT [.ptr 0 0,ndC 2 xn xs xt xo] (mkB M l) (.tuple []) (mkB M (l++[⟨4,tn,0,0⟩])):=by
 have hol:(xo.map fun i=>[I i]).length=xo.length:=by simp
 have hput:=bL M l hl;have hput:=hput 4 tn 0 0;refine aG bg rfl ?_
 repeat refine aw ?_
 refine bZ (lsS M l 2 xn xs xt xo true tk tn) ?_ ?_
 ·repeat (first|refine aw ?_|refine m1 ?_)
  exact aY (.inl ⟨rfl,by exact Uw.wM⟩)
 repeat (first|refine aw ?_|refine m1 ?_)
 refine ag 8 [0,1,2,3,4,5] hput ?_
 repeat refine aw ?_
 refine dp 6 rfl rfl ?_;exact Uw.wM
set_option maxRecDepth 8000 in
set_option maxHeartbeats 4000000 in
theorem PH (M:Mk) (l:List In4) (hl:l.length<1000000) (xn:Int) (xs xt:Str) (xo:List Int) (hxo:xo.length<1000000) (h:aW M.te (.s xs)=none) (v:Option Int) (hv:aW M.le (.s xs)=v.map I):bk P0 aT [.ptr 0 0,ndC 2 xn xs xt xo] (mkB M l) (.tuple []) (mkB M (l++[⟨2,v.getD (-1),0,0⟩])):=by
 have hol:(xo.map fun i=>[I i]).length=xo.length:=by simp
 have hput:=bL M l hl;have hput:=hput 2 (v.getD (-1)) 0 0;have hlo:=lC M l xs v hv;refine aG bg rfl ?_
 repeat refine aw ?_
 refine bZ (lsS M l 2 xn xs xt xo false 0 0) ?_ ?_
 ·repeat (first|refine aw ?_|refine m1 ?_)
  exact aY (.inl ⟨rfl,by exact Uw.wM⟩)
 repeat (first|refine aw ?_|refine m1 ?_)
 refine ag 8 [0,1,2,3,4,5] hlo ?_
 repeat refine aw ?_
 refine ag 8 [0,1,2,3,4,5] hput ?_
 repeat refine aw ?_
 refine dp 6 rfl rfl ?_;exact Uw.wM
set_option maxRecDepth 8000 in
set_option maxHeartbeats 4000000 in
theorem PI (M:Mk) (l:List In4) (hl:l.length<1000000) (xn:Int) (xs xt:Str) (xo:List Int) (hxo:xo.length<1000000) (tk tn:Int) (h:aW M.te (.s xs)=some (.agg [I tk,I tn])):bk P0 aT [.ptr 0 0,ndC 9 xn xs xt xo] (mkB M l) (.tuple []) (mkB M (l++[⟨5,tn,0,0⟩])):=by
 have hol:(xo.map fun i=>[I i]).length=xo.length:=by simp
 have hput:=bL M l hl;have hput:=hput 5 tn 0 0;refine aG bg rfl ?_
 repeat refine aw ?_
 refine bZ (lsS M l 9 xn xs xt xo true tk tn) ?_ ?_
 ·repeat (first|refine aw ?_|refine m1 ?_)
  exact aY (.inl ⟨rfl,by exact Uw.wM⟩)
 repeat (first|refine aw ?_|refine m1 ?_)
 refine ag 8 [0,1,2,3,4,5] hput ?_
 repeat refine aw ?_
 refine dp 6 rfl rfl ?_;exact Uw.wM
set_option maxRecDepth 8000 in
set_option maxHeartbeats 4000000 in
theorem PK (M:Mk) (l:List In4) (hl:l.length<1000000) (xn:Int) (xs xt:Str) (xo:List Int) (hxo:xo.length<1000000) (h:aW M.te (.s xs)=none) (v:Option Int) (hv:aW M.le (.s xs)=v.map I):bk P0 aT [.ptr 0 0,ndC 9 xn xs xt xo] (mkB M l) (.tuple []) (mkB M (l++[⟨3,v.getD (-1),0,0⟩])):=by
 have hol:(xo.map fun i=>[I i]).length=xo.length:=by simp
 have hput:=bL M l hl;have hput:=hput 3 (v.getD (-1)) 0 0;have hlo:=lC M l xs v hv;refine aG bg rfl ?_
 repeat refine aw ?_
 refine bZ (lsS M l 9 xn xs xt xo false 0 0) ?_ ?_
 ·repeat (first|refine aw ?_|refine m1 ?_)
  exact aY (.inl ⟨rfl,by exact Uw.wM⟩)
 repeat (first|refine aw ?_|refine m1 ?_)
 refine ag 8 [0,1,2,3,4,5] hlo ?_
 repeat refine aw ?_
 refine ag 8 [0,1,2,3,4,5] hput ?_
 repeat refine aw ?_
 refine dp 6 rfl rfl ?_;exact Uw.wM
set_option maxRecDepth 8000 in
set_option maxHeartbeats 4000000 in
theorem SU (M:Mk) (l:List In4) (hl:l.length<1000000) (xk xn:Int) (xs xt:Str) (xo:List Int) (hxo:xo.length<1000000) (b:Bool) (tk tn:Int) (hth:PD M xs b tk tn) (hk:3<=xk/\xk<=7):bk P0 aT [.ptr 0 0,ndC xk xn xs xt xo] (mkB M l) (.tuple []) (mkB M (l++[⟨xk+3,0,0,0⟩])):=by
 have hput:=bL M l hl (xk+3) 0 0 0;have hrk:=vu xk hk;have h:xk=3\/xk=4\/xk=5\/xk=6\/xk=7:=by omega
 rcases hth with ⟨h2,rfl,rfl,rfl⟩|⟨h2,rfl⟩
 ·rcases h with hk|hk|hk|hk|hk
  all_goals
   refine aG bg rfl ?_
   repeat refine aw ?_
   refine bZ (lsS M l xk xn xs xt xo false 0 0) ?_ ?_
   ·repeat (first|refine aw ?_|refine m1 ?_)
    exact aY (.inl ⟨rfl,by exact Uw.wM⟩)
   repeat (first|refine aw ?_|refine m1 ?_)
   refine ag 8 [0,1,2,3,4,5] hput ?_
   repeat refine aw ?_
   refine dp 6 rfl rfl ?_;exact Uw.wM
 ·rcases h with hk|hk|hk|hk|hk
  all_goals
   refine aG bg rfl ?_
   repeat refine aw ?_
   refine bZ (lsS M l xk xn xs xt xo true tk tn) ?_ ?_
   ·repeat (first|refine aw ?_|refine m1 ?_)
    exact aY (.inl ⟨rfl,by exact Uw.wM⟩)
   repeat (first|refine aw ?_|refine m1 ?_)
   refine ag 8 [0,1,2,3,4,5] hput ?_
   repeat refine aw ?_
   refine dp 6 rfl rfl ?_;exact Uw.wM
end Uw.Tryz
namespace Uw.Tryz
open Go Uw
set_option maxRecDepth 8000 in
set_option maxHeartbeats 4000000 in
theorem MF (M:Mk) (l:List In4) (hl:l.length<1000000) (xn:Int) (xs xt:Str) (xo:List Int) (hxo:xo.length<1000000) (h:aW M.te (.s xs)=none) (fn:Int) (hfu:(aW M.fe (.s xt)).getD (I 0)=I fn) (v:Option Int) (hv:aW M.le (.s xs)=v.map I):bk P0 aT [.ptr 0 0,ndC 10 xn xs xt xo] (mkB M l) (.tuple []) (mkB M (l++[⟨13,fn,((xo.map fun i=>[I i]).length:Nat),if xs=[] then -1 else v.getD (-1)⟩])):=by
 have hol:(xo.map fun i=>[I i]).length=xo.length:=by simp
 have hput:=bL M l hl 13 fn (((xo.map fun i=>[I i]).length:Nat)) (if xs=[] then -1 else v.getD (-1));have hde:=jY M l xs v hv;generalize (if xs=[] then -1 else v.getD (-1))=de at *;refine aG bg rfl ?_
 repeat refine aw ?_
 refine bZ (lsS M l 10 xn xs xt xo false 0 0) ?_ ?_
 ·repeat (first|refine aw ?_|refine m1 ?_)
  exact aY (.inl ⟨rfl,by exact Uw.wM⟩)
 repeat (first|refine aw ?_|refine m1 ?_)
 refine bZ ⟨[],br 0 (mkB M (l++[⟨13,fn,((xo.map fun i=>[I i]).length:Nat),de⟩])),8,[],6⟩ ?_ ?_
 ·repeat (first|refine aw ?_|refine m1 ?_)
  refine cP (I 0) _ hfu ?_
  repeat (first|refine aw ?_|refine m1 ?_)
  refine ag 8 [0,1,2,3,4,5] hde ?_
  repeat (first|refine aw ?_|refine m1 ?_)
  refine cP (I 0) _ hfu ?_
  repeat (first|refine aw ?_|refine m1 ?_)
  refine ag 8 [0,1,2,3,4,5] hput ?_
  repeat (first|refine aw ?_|refine m1 ?_)
  exact aY (.inl ⟨rfl,by exact Uw.wM⟩)
 refine dp 6 rfl rfl ?_;exact Uw.wM
set_option maxRecDepth 8000 in
set_option maxHeartbeats 4000000 in
theorem MG (M:Mk) (l:List In4) (hl:l.length<1000000) (xn:Int) (xs xt:Str) (xo:List Int) (hxo:xo.length<1000000) (tk tn:Int) (h:aW M.te (.s xs)=some (.agg [I tk,I tn])) (fn:Int) (hfu:(aW M.fe (.s xt)).getD (I 0)=I fn) (v:Option Int) (hv:aW M.le (.s xs)=v.map I):bk P0 aT [.ptr 0 0,ndC 10 xn xs xt xo] (mkB M l) (.tuple []) (mkB M (l++[⟨13,fn,((xo.map fun i=>[I i]).length:Nat),if xs=[] then -1 else v.getD (-1)⟩])):=by
 have hol:(xo.map fun i=>[I i]).length=xo.length:=by simp
 have hput:=bL M l hl 13 fn (((xo.map fun i=>[I i]).length:Nat)) (if xs=[] then -1 else v.getD (-1));have hde:=jY M l xs v hv;generalize (if xs=[] then -1 else v.getD (-1))=de at *;refine aG bg rfl ?_
 repeat refine aw ?_
 refine bZ (lsS M l 10 xn xs xt xo true tk tn) ?_ ?_
 ·repeat (first|refine aw ?_|refine m1 ?_)
  exact aY (.inl ⟨rfl,by exact Uw.wM⟩)
 repeat (first|refine aw ?_|refine m1 ?_)
 refine bZ ⟨[],br 0 (mkB M (l++[⟨13,fn,((xo.map fun i=>[I i]).length:Nat),de⟩])),8,[],6⟩ ?_ ?_
 ·repeat (first|refine aw ?_|refine m1 ?_)
  refine cP (I 0) _ hfu ?_
  repeat (first|refine aw ?_|refine m1 ?_)
  refine ag 8 [0,1,2,3,4,5] hde ?_
  repeat (first|refine aw ?_|refine m1 ?_)
  refine cP (I 0) _ hfu ?_
  repeat (first|refine aw ?_|refine m1 ?_)
  refine ag 8 [0,1,2,3,4,5] hput ?_
  repeat (first|refine aw ?_|refine m1 ?_)
  exact aY (.inl ⟨rfl,by exact Uw.wM⟩)
 refine dp 6 rfl rfl ?_;exact Uw.wM
set_option maxRecDepth 8000 in
set_option maxHeartbeats 4000000 in
theorem MH (M:Mk) (l:List In4) (hl:l.length<1000000) (xn:Int) (xs xt:Str) (xo:List Int) (hxo:xo.length<1000000) (h:aW M.te (.s xs)=none) (fn:Int) (hfu:(aW M.he (.s xt)).getD (I 0)=I fn) (v:Option Int) (hv:aW M.le (.s xs)=v.map I):bk P0 aT [.ptr 0 0,ndC 11 xn xs xt xo] (mkB M l) (.tuple []) (mkB M (l++[⟨13,fn,2,if xs=[] then -1 else v.getD (-1)⟩])):=by
 have hol:(xo.map fun i=>[I i]).length=xo.length:=by simp
 have hput:=bL M l hl 13 fn 2 (if xs=[] then -1 else v.getD (-1));have hde:=jY M l xs v hv;generalize (if xs=[] then -1 else v.getD (-1))=de at *;refine aG bg rfl ?_
 repeat refine aw ?_
 refine bZ (lsS M l 11 xn xs xt xo false 0 0) ?_ ?_
 ·repeat (first|refine aw ?_|refine m1 ?_)
  exact aY (.inl ⟨rfl,by exact Uw.wM⟩)
 repeat (first|refine aw ?_|refine m1 ?_)
 refine bZ ⟨[],br 0 (mkB M (l++[⟨13,fn,2,de⟩])),8,[],6⟩ ?_ ?_
 ·repeat (first|refine aw ?_|refine m1 ?_)
  refine cP (I 0) _ hfu ?_
  repeat (first|refine aw ?_|refine m1 ?_)
  refine ag 8 [0,1,2,3,4,5] hde ?_
  repeat (first|refine aw ?_|refine m1 ?_)
  refine cP (I 0) _ hfu ?_
  repeat (first|refine aw ?_|refine m1 ?_)
  refine ag 8 [0,1,2,3,4,5] hput ?_
  repeat (first|refine aw ?_|refine m1 ?_)
  exact aY (.inl ⟨rfl,by exact Uw.wM⟩)
 refine dp 6 rfl rfl ?_;exact Uw.wM
set_option maxRecDepth 8000 in
set_option maxHeartbeats 4000000 in
theorem MJ (M:Mk) (l:List In4) (hl:l.length<1000000) (xn:Int) (xs xt:Str) (xo:List Int) (hxo:xo.length<1000000) (tk tn:Int) (h:aW M.te (.s xs)=some (.agg [I tk,I tn])) (fn:Int) (hfu:(aW M.he (.s xt)).getD (I 0)=I fn) (v:Option Int) (hv:aW M.le (.s xs)=v.map I):bk P0 aT [.ptr 0 0,ndC 11 xn xs xt xo] (mkB M l) (.tuple []) (mkB M (l++[⟨13,fn,2,if xs=[] then -1 else v.getD (-1)⟩])):=by
 have hol:(xo.map fun i=>[I i]).length=xo.length:=by simp
 have hput:=bL M l hl 13 fn 2 (if xs=[] then -1 else v.getD (-1));have hde:=jY M l xs v hv;generalize (if xs=[] then -1 else v.getD (-1))=de at *;refine aG bg rfl ?_
 repeat refine aw ?_
 refine bZ (lsS M l 11 xn xs xt xo true tk tn) ?_ ?_
 ·repeat (first|refine aw ?_|refine m1 ?_)
  exact aY (.inl ⟨rfl,by exact Uw.wM⟩)
 repeat (first|refine aw ?_|refine m1 ?_)
 refine bZ ⟨[],br 0 (mkB M (l++[⟨13,fn,2,de⟩])),8,[],6⟩ ?_ ?_
 ·repeat (first|refine aw ?_|refine m1 ?_)
  refine cP (I 0) _ hfu ?_
  repeat (first|refine aw ?_|refine m1 ?_)
  refine ag 8 [0,1,2,3,4,5] hde ?_
  repeat (first|refine aw ?_|refine m1 ?_)
  refine cP (I 0) _ hfu ?_
  repeat (first|refine aw ?_|refine m1 ?_)
  refine ag 8 [0,1,2,3,4,5] hput ?_
  repeat (first|refine aw ?_|refine m1 ?_)
  exact aY (.inl ⟨rfl,by exact Uw.wM⟩)
 refine dp 6 rfl rfl ?_;exact Uw.wM
end Uw.Tryz
namespace Uw.Tryz
open Go Uw
abbrev i2 (o a:Int):In4:=⟨o,a,0,0⟩
theorem U9 {l:List In4} {i:Nat} {x:In4} (h:l[i]? = some x):(l.map in4)[i]? = some (in4 x):=by rw [List.getElem?_map,h];rfl
theorem xj {l:List Int} {i:Nat} {c:Int} (h:l[i]? = some c):(l.map fun i=>[I i])[((i:Nat):Int).toNat]? = some [I c]:=by
 rw [Int.toNat_natCast,List.getElem?_map,h];rfl
theorem MK {l:List Int} {i:Nat} {c:Int} (h:l[i]? = some c):(i:Int)<((l.map fun i=>[I i]).length:Nat):=by
 have:=(List.getElem?_eq_some_iff.1 h).1;rw [List.length_map];omega
theorem D5 (M:Mk) (l:List In4) (i:Nat) (o a:Int):mkB M (l.set i (i2 o a))=[.var [.d (bN M.ns),.hnd 1,.hnd 2,.hnd 3,.d M.pd,.hnd 4,.ref 5 l.length 0 l.length],.map none M.te,.map none M.fe,.map none M.he,.map none M.le,.mt 4 l.length ((l.map in4).set (0+((i:Nat):Int).toNat) (setAt [I o,I 0,I 0,I 0] (0+1) [I a]))]:=by
 simp [List.map_set,in4,i2,setAt]
theorem D6 {l:List In4} {i:Nat} {o:Int} (h:l[i]? = some (i2 o 0)):(l.map in4)[0+((i:Nat):Int).toNat]? = some [I o,I 0,I 0,I 0]:=by
 have hr:=U9 h;simpa [in4] using hr
set_option maxRecDepth 8000 in
set_option maxHeartbeats 4000000 in
theorem zR (M:Mk) (l l1 l3:List In4) (xk xn:Int) (xs xt:Str) (xo:List Int) (c0 c1:Int) (h0:xo[0]? = some c0) (h1:xo[1]? = some c1)
  (hA:bk P0 aS [.ptr 0 0,.d (I c0)] (mkB M l) (.tuple []) (mkB M l1))
  (hB:bk P0 aS [.ptr 0 0,.d (I c1)] (mkB M (l1++[(i2 16 0)])) (.tuple []) (mkB M l3))
  (h16:l3[l1.length]? = some (i2 16 0)) (hl1:l1.length<1000000) (hl3:l3.length+1<1000000) :
  bk P0 g9 [.ptr 0 0,ndC xk xn xs xt xo] (mkB M l) (.tuple []) (mkB M ((l3++[i2 15 (l.length:Nat)]).set l1.length (i2 16 ((l3++[i2 15 (l.length:Nat)]).length:Nat)))):=by
 have xl:=bL M l1 hl1 16 0 0 0;have zS:=bL M l3 (by omega) 15 (l.length:Nat) 0 0;have hlt:l1.length<l3.length:=(List.getElem?_eq_some_iff.1 h16).1;have h17:(l3++[i2 15 (l.length:Nat)])[l1.length]? = some (i2 16 0):=by rw [List.getElem?_append_left hlt];exact h16
 have hl4:(l3++[i2 15 (l.length:Nat)]).length=l3.length+1:=by simp
 generalize (l3++[i2 15 (l.length:Nat)])=l4 at *;have hr:=D6 h17;rw [D5];have he0:=xj h0;have he1:=xj h1;have hlx:=MK h1;refine aG qH rfl ?_
 repeat refine aw ?_
 refine ag 7 [0,1,2,3,4,5] hA ?_
 repeat refine aw ?_
 refine dF eO rfl ?_
 repeat refine aw ?_
 refine ag 9 [0,1,2,3,4,5] xl ?_
 repeat refine aw ?_
 refine dX rfl rfl ?_
 repeat refine aw ?_
 refine ag 9 [0,1,2,3,4,5] hB ?_
 repeat refine aw ?_
 refine ag 9 [0,1,2,3,4,5] zS ?_
 repeat refine aw ?_
 refine dF d5 rfl ?_
 repeat refine aw ?_
 refine uM rfl rfl ?_
 repeat refine aw ?_
 refine dp 6 rfl rfl ?_;exact Uw.wM
end Uw.Tryz
namespace Uw.Tryz
open Go Uw
set_option maxRecDepth 8000 in
set_option maxHeartbeats 4000000 in
theorem vv (M:Mk) (l l1 l3:List In4) (xk xn:Int) (xs xt:Str) (xo:List Int) (c0 c1:Int) (h0:xo[0]? = some c0) (h1:xo[1]? = some c1) (hxo:xo.length=2)
  (hA:bk P0 aS [.ptr 0 0,.d (I c0)] (mkB M l) (.tuple []) (mkB M l1))
  (hB:bk P0 aS [.ptr 0 0,.d (I c1)] (mkB M (l1++[(i2 16 0)])) (.tuple []) (mkB M l3))
  (h16:l3[l1.length]? = some (i2 16 0)) (hl1:l1.length<1000000) (hl3:l3.length<1000000) :
  bk P0 eA [.ptr 0 0,ndC xk xn xs xt xo] (mkB M l) (.tuple []) (mkB M (l3.set l1.length (i2 16 (l3.length:Nat)))):=by
 have xl:=bL M l1 hl1 16 0 0 0;have hlt:l1.length<l3.length:=(List.getElem?_eq_some_iff.1 h16).1;have hr:=D6 h16;rw [D5];have he0:=xj h0;have he1:=xj h1;have hlx:(xo.map fun i=>[I i]).length=2:=by simpa using hxo
 refine aG jA rfl ?_
 repeat refine aw ?_
 refine ag 7 [0,1,2,3,4,5] hA ?_
 repeat refine aw ?_
 refine dF eO rfl ?_
 repeat refine aw ?_
 refine ag 9 [0,1,2,3,4,5] xl ?_
 repeat refine aw ?_
 refine dX rfl rfl ?_
 repeat refine aw ?_
 refine ag 9 [0,1,2,3,4,5] hB ?_
 repeat refine aw ?_
 refine dF d5 rfl ?_
 repeat refine aw ?_
 refine uM rfl rfl ?_
 repeat refine aw ?_
 refine aF 6 rfl rfl ?_;exact Uw.wM
set_option maxRecDepth 8000 in
set_option maxHeartbeats 4000000 in
theorem vx (M:Mk) (l l1 l3 l4 l6:List In4) (xk xn:Int) (xs xt:Str) (xo:List Int) (c0 c1 c2:Int) (h0:xo[0]? = some c0) (h1:xo[1]? = some c1) (h2:xo[2]? = some c2)
  (hA:bk P0 aS [.ptr 0 0,.d (I c0)] (mkB M l) (.tuple []) (mkB M l1))
  (hB:bk P0 aS [.ptr 0 0,.d (I c1)] (mkB M (l1++[(i2 16 0)])) (.tuple []) (mkB M l3))
  (hl4:l4=l3++[i2 15 0])
  (hC:bk P0 aS [.ptr 0 0,.d (I c2)] (mkB M (l4.set l1.length (i2 16 (l4.length:Nat)))) (.tuple []) (mkB M l6))
  (h16:l3[l1.length]? = some (i2 16 0)) (h15:l6[l3.length]? = some (i2 15 0)) (hl1:l1.length<1000000) (hl3:l3.length<1000000) (hl6:l6.length<1000000) :
  bk P0 eA [.ptr 0 0,ndC xk xn xs xt xo] (mkB M l) (.tuple []) (mkB M (l6.set l3.length (i2 15 (l6.length:Nat)))):=by
 have xl:=bL M l1 hl1 16 0 0 0;have zS:=bL M l3 hl3 15 0 0 0;have hlt:l1.length<l3.length:=(List.getElem?_eq_some_iff.1 h16).1;have h17:l4[l1.length]? = some (i2 16 0):=by rw [hl4,List.getElem?_append_left hlt];exact h16
 have hn4:l4.length=l3.length+1:=by rw [hl4];simp
 rw [<- hl4] at zS;clear hl4;have WL:l3.length<l6.length:=(List.getElem?_eq_some_iff.1 h15).1;have hr:=D6 h17;have hr6:=D6 h15;rw [D5];rw [D5] at hC;have he0:=xj h0;have he1:=xj h1;have he2:=xj h2;have hlx:=MK h2;refine aG jA rfl ?_
 repeat refine aw ?_
 refine ag 7 [0,1,2,3,4,5] hA ?_
 repeat refine aw ?_
 refine dF eO rfl ?_
 repeat refine aw ?_
 refine ag 9 [0,1,2,3,4,5] xl ?_
 repeat refine aw ?_
 refine dX rfl rfl ?_
 repeat refine aw ?_
 refine ag 9 [0,1,2,3,4,5] hB ?_
 repeat refine aw ?_
 refine dF eO rfl ?_
 repeat refine aw ?_
 refine ag 11 [0,1,2,3,4,5] zS ?_
 repeat refine aw ?_
 refine dX rfl rfl ?_
 repeat refine aw ?_
 refine dF d5 rfl ?_
 repeat refine aw ?_
 refine uM rfl rfl ?_
 repeat refine aw ?_
 refine ag 11 [0,1,2,3,4,5] hC ?_
 repeat refine aw ?_
 refine dF d5 rfl ?_
 repeat refine aw ?_
 refine uM rfl rfl ?_
 repeat refine aw ?_
 refine dp 6 rfl rfl ?_;exact Uw.wM
end Uw.Tryz
namespace Uw.Tryz
open Go Uw
set_option maxRecDepth 8000 in
set_option maxHeartbeats 4000000 in
theorem SV (M:Mk) (l:List In4) (xk xn:Int) (xs xt:Str) (xo:List Int) (b:Bool) (tk tn:Int) (hth:PD M xs b tk tn) (hk:xk<1\/17<xk\/xk=13\/xk=14):bk P0 aT [.ptr 0 0,ndC xk xn xs xt xo] (mkB M l) (.tuple []) (mkB M l):=by
 have k1:¬xk=1:=by omega
 have k2:¬xk=2:=by omega
 have k3:¬xk=3:=by omega
 have k4:¬xk=4:=by omega
 have k5:¬xk=5:=by omega
 have k6:¬xk=6:=by omega
 have k7:¬xk=7:=by omega
 have k8:¬xk=8:=by omega
 have k9:¬xk=9:=by omega
 have k10:¬xk=10:=by omega
 have k11:¬xk=11:=by omega
 have k12:¬xk=12:=by omega
 have k15:¬xk=15:=by omega
 have k16:¬xk=16:=by omega
 have k17:¬xk=17:=by omega
 clear hk
 rcases hth with ⟨h,rfl,rfl,rfl⟩|⟨h,rfl⟩
 ·refine aG bg rfl ?_
  repeat refine aw ?_
  refine bZ (lsS M l xk xn xs xt xo false 0 0) ?_ ?_
  ·repeat (first|refine aw ?_|refine m1 ?_)
   exact aY (.inl ⟨rfl,by exact Uw.wM⟩)
  repeat (first|refine aw ?_|refine m1 ?_)
  refine dp 6 rfl rfl ?_;exact Uw.wM
 ·refine aG bg rfl ?_
  repeat refine aw ?_
  refine bZ (lsS M l xk xn xs xt xo true tk tn) ?_ ?_
  ·repeat (first|refine aw ?_|refine m1 ?_)
   exact aY (.inl ⟨rfl,by exact Uw.wM⟩)
  repeat (first|refine aw ?_|refine m1 ?_)
  refine dp 6 rfl rfl ?_;exact Uw.wM
theorem zT (M:Mk) (N:Nms) (hM:SS M N) (l:List In4) (hl:l.length<1000000) (x:Nd) (hxo:x.of.length<1000000):bk P0 aT [.ptr 0 0,ndC x.kind x.n x.name x.name2 x.of] (mkB M l) (.tuple []) (mkB M (l++dP N x)):=by
 obtain ⟨xk,xn,xs,xt,xo⟩:=x;show bk P0 aT [.ptr 0 0,ndC xk xn xs xt xo] (mkB M l) (.tuple []) (mkB M (l++dP N ⟨xk,xn,xs,xt,xo⟩));have hxo:xo.length<1000000:=hxo;have xR:=hM.things xs;have hfu:=hM.ae xt;have hhe:=hM.helps xt;have hlo:=hM.xO xs;have hol:(xo.map fun i=>[I i]).length=xo.length:=by simp
 obtain ⟨b,tk,tn,hth,htn⟩:∃b tk tn,PD M xs b tk tn/\tn=((N.things xs).getD (0,0)).2:=by
  cases ht:N.things xs with
  | none=>rw [ht] at xR;exact ⟨false,0,0,.inl ⟨xR,rfl,rfl,rfl⟩,rfl⟩
  | some t=>rw [ht] at xR;exact ⟨true,t.1,t.2,.inr ⟨xR,rfl⟩,rfl⟩
 by_cases k1:xk=1
 ·subst k1;exact wu M l hl _ xn xs xt xo hxo b tk tn hth _ (.inl ⟨rfl,rfl⟩)
 by_cases k2:xk=2
 ·subst k2
  cases ht:N.things xs with
  | none=>
   rw [ht] at xR;have e:dP N ⟨2,xn,xs,xt,xo⟩=[⟨2,(N.xO xs).getD (-1),0,0⟩]:=by simp [dP,ht,xP]
   rw [e];exact PH M l hl xn xs xt xo hxo xR _ hlo
  | some t=>
   rw [ht] at xR;have e:dP N ⟨2,xn,xs,xt,xo⟩=[⟨4,t.2,0,0⟩]:=by simp [dP,ht]
   rw [e];exact PG M l hl xn xs xt xo hxo _ _ xR
 by_cases k9:xk=9
 ·subst k9
  cases ht:N.things xs with
  | none=>
   rw [ht] at xR;have e:dP N ⟨9,xn,xs,xt,xo⟩=[⟨3,(N.xO xs).getD (-1),0,0⟩]:=by simp [dP,ht,xP]
   rw [e];exact PK M l hl xn xs xt xo hxo xR _ hlo
  | some t=>
   rw [ht] at xR;have e:dP N ⟨9,xn,xs,xt,xo⟩=[⟨5,t.2,0,0⟩]:=by simp [dP,ht]
   rw [e];exact PI M l hl xn xs xt xo hxo _ _ xR
 by_cases hk:3<=xk/\xk<=7
 ·have e:dP N ⟨xk,xn,xs,xt,xo⟩=[⟨xk+3,0,0,0⟩]:=by simp [dP,k1,k2,hk]
  rw [e];exact SU M l hl xk xn xs xt xo hxo b tk tn hth hk
 by_cases k8:xk=8
 ·subst k8
  have e:dP N ⟨8,xn,xs,xt,xo⟩=[⟨11,li xt,tn,((xo.map fun i=>[I i]).length:Nat)⟩]:=by simp [dP,htn]
  rw [e];exact wu M l hl _ xn xs xt xo hxo b tk tn hth _ (.inr (.inr (.inr (.inr (.inr ⟨rfl,rfl⟩)))))
 by_cases k10:xk=10
 ·subst k10
  have e:dP N ⟨10,xn,xs,xt,xo⟩=[⟨13,N.ae xt,((xo.map fun i=>[I i]).length:Nat),if xs=[] then -1 else (N.xO xs).getD (-1)⟩]:=by simp [dP,lU,xP]
  rw [e]
  rcases hth with ⟨h,rfl,rfl,rfl⟩|⟨h,rfl⟩
  ·exact MF M l hl xn xs xt xo hxo h _ hfu _ hlo
  ·exact MG M l hl xn xs xt xo hxo _ _ h _ hfu _ hlo
 by_cases k11:xk=11
 ·subst k11
  have e:dP N ⟨11,xn,xs,xt,xo⟩=[⟨13,N.helps xt,2,if xs=[] then -1 else (N.xO xs).getD (-1)⟩]:=by simp [dP,lU,xP]
  rw [e]
  rcases hth with ⟨h,rfl,rfl,rfl⟩|⟨h,rfl⟩
  ·exact MH M l hl xn xs xt xo hxo h _ hhe _ hlo
  ·exact MJ M l hl xn xs xt xo hxo _ _ h _ hhe _ hlo
 by_cases k12:xk=12
 ·subst k12;exact wu M l hl _ xn xs xt xo hxo b tk tn hth _ (.inr (.inl ⟨rfl,rfl⟩))
 by_cases k15:xk=15
 ·subst k15;exact wu M l hl _ xn xs xt xo hxo b tk tn hth _ (.inr (.inr (.inl ⟨rfl,rfl⟩)))
 by_cases k16:xk=16
 ·subst k16;exact wu M l hl _ xn xs xt xo hxo b tk tn hth _ (.inr (.inr (.inr (.inl ⟨rfl,rfl⟩))))
 by_cases k17:xk=17
 ·subst k17;exact wu M l hl _ xn xs xt xo hxo b tk tn hth _ (.inr (.inr (.inr (.inr (.inl ⟨rfl,rfl⟩)))))
 have e:dP N ⟨xk,xn,xs,xt,xo⟩=[]:=by simp [dP,k1,k2,hk,k8,k9,k10,k11,k12,k15,k16,k17]
 rw [e,List.append_nil];exact SV M l xk xn xs xt xo b tk tn hth (by omega)
end Uw.Tryz
namespace Uw.Tryz
open Go Uw
theorem oM (g:Int->Nat->List In4):∀(r r' : List Int) (a:Nat),layAll g (r++r') a=layAll g r a++layAll g r' (a+(layAll g r a).length)
 | [],r',a=>by simp [layAll]
 | k::r,r',a=>by
  rw [List.cons_append,layAll,layAll,oM g r r' _,List.append_assoc,List.length_append,Nat.add_assoc]
theorem F4 (g:Int->Nat->List In4) (r:List Int) (j:Nat) (c:Int) (h:r[j]? = some c) (a:Nat):layAll g (r.take (j+1)) a=layAll g (r.take j) a++g c (a+(layAll g (r.take j) a).length):=by
 have e:r.take (j+1)=r.take j++[c]:=by rw [List.take_add_one,h];rfl
 rw [e,oM];simp [layAll]
theorem JR (g:Int->Nat->List In4) (r:List Int) (j:Nat) (a:Nat):(layAll g (r.take j) a).length<=(layAll g r a).length:=by
 have e:layAll g r a=layAll g (r.take j++r.drop j) a:=by rw [List.take_append_drop]
 rw [e,oM,List.length_append];omega
theorem set_mid (l1 B:List In4) (x y:In4):(l1++x::B).set l1.length y=l1++y::B:=by simp [List.set_append]
theorem PL (l1 B:List In4) (x:In4):(l1++x::B)[l1.length]? = some x:=by simp
set_option maxRecDepth 8000 in
set_option maxHeartbeats 4000000 in
theorem I3 (M:Mk) (l l' : List In4) (k:Nat) (xn:Int) (xs xt:Str) (xo:List Int) (hk:(k:Int)<((M.ns.map ndL).length:Nat)) (he:(M.ns.map ndL)[(k:Int).toNat]? = some [I 13,I xn,.str xs,.str xt,bT xo])
  (h:bk P0 eA [.ptr 0 0,ndC 13 xn xs xt xo] (mkB M l) (.tuple []) (mkB M l')):bk P0 aS [.ptr 0 0,.d (I k)] (mkB M l) (.tuple []) (mkB M l'):=by
 refine aG gp rfl ?_
 repeat refine aw ?_
 refine ag 7 [0,1,2,3,4,5] h ?_
 repeat refine aw ?_
 refine aF 6 rfl rfl ?_;exact Uw.wM
set_option maxRecDepth 8000 in
set_option maxHeartbeats 4000000 in
theorem PN (M:Mk) (l l' : List In4) (k:Nat) (xn:Int) (xs xt:Str) (xo:List Int) (hk:(k:Int)<((M.ns.map ndL).length:Nat)) (he:(M.ns.map ndL)[(k:Int).toNat]? = some [I 14,I xn,.str xs,.str xt,bT xo])
  (h:bk P0 g9 [.ptr 0 0,ndC 14 xn xs xt xo] (mkB M l) (.tuple []) (mkB M l')):bk P0 aS [.ptr 0 0,.d (I k)] (mkB M l) (.tuple []) (mkB M l'):=by
 refine aG gp rfl ?_
 repeat refine aw ?_
 refine ag 7 [0,1,2,3,4,5] h ?_
 repeat refine aw ?_
 refine aF 6 rfl rfl ?_;exact Uw.wM
set_option maxRecDepth 8000 in
set_option maxHeartbeats 4000000 in
theorem PO (M:Mk) (l' : List In4) (L:Nat->List In4) (k:Nat) (xk xn:Int) (xs xt:Str) (xo:List Int) (k13:¬xk=13) (k14:¬xk=14) (hxo:xo.length<1000000) (hk:(k:Int)<((M.ns.map ndL).length:Nat)) (he:(M.ns.map ndL)[(k:Int).toNat]? = some [I xk,I xn,.str xs,.str xt,bT xo])
  (hN:∀(j:Nat) (c:Int),xo[j]? = some c->bk P0 aS [.ptr 0 0,.d (I c)] (mkB M (L j)) (.tuple []) (mkB M (L (j+1))))
  (h:bk P0 aT [.ptr 0 0,ndC xk xn xs xt xo] (mkB M (L xo.length)) (.tuple []) (mkB M l')):bk P0 aS [.ptr 0 0,.d (I k)] (mkB M (L 0)) (.tuple []) (mkB M l'):=by
 have hol:(xo.map fun i=>[I i]).length=xo.length:=by simp
 refine aG gp rfl ?_
 repeat refine aw ?_
 refine cb xo.length (fun j=>⟨[(29,.d (I j)),(28,.d (I ((xo.map fun i=>[I i]).length:Nat))),(27,.d (bT xo)),(4,.ptr 6 0),(0,.ptr 0 0)],(6,.var [.d (I xk),.d (I xn),.d (.str xs),.d (.str xt),.d (bT xo)])::br 0 (mkB M (L j)),7,[],6⟩) (fun _=>True) (by exact Uw.wM) ?_ ?_
 ·intro _
  repeat refine aw ?_
  refine aC ?_
  repeat refine aw ?_
  refine ag 7 [0,1,2,3,4,5] h ?_
  repeat refine aw ?_
  refine dp 6 rfl rfl ?_;exact Uw.wM
 ·intro j hj hpre
  obtain ⟨c,hc⟩:∃c,xo[j]? = some c:=⟨xo[j],List.getElem?_eq_getElem hj⟩
  have hn:=hN j c hc;have hec:=xj hc
  repeat refine aw ?_
  refine ag 7 [0,1,2,3,4,5] hn ?_
  repeat refine aw ?_
  exact aJ j trivial (by exact Uw.wM)
end Uw.Tryz
namespace Uw.Tryz
open Go Uw
theorem zU (M:Mk) (N:Nms) (hM:SS M N) (hL:Lays M.ns) (hof:∀(i:Nat) (h:i<M.ns.length),M.ns[i].of.length<1000000) (k:Nat):k<M.ns.length->∀l:List In4,l.length+(lay M.ns N (k:Int) l.length).length<1000000->bk P0 aS [.ptr 0 0,.d (I k)] (mkB M l) (.tuple []) (mkB M (l++lay M.ns N (k:Int) l.length)):=by
 induction k using Nat.strongRecOn with
 | ind k ih=>
  intro hk l hl;have hkl:(k:Int)<((M.ns.map ndL).length:Nat):=by simpa using hk
  have he:(M.ns.map ndL)[(k:Int).toNat]? = some (ndL M.ns[k]):=by simp [hk]
  have hc:∀c∈M.ns[k].of,∀l:List In4,l.length+(lay M.ns N c l.length).length<1000000->bk P0 aS [.ptr 0 0,.d (I c)] (mkB M l) (.tuple []) (mkB M (l++lay M.ns N c l.length)):=fun c hcm l=>by
   obtain ⟨h1,h2⟩:=hL.low k hk c hcm;obtain ⟨m,rfl⟩:∃m:Nat,c=(m:Int):=⟨c.toNat,by omega⟩
   exact ih m (by omega) (by omega) l
  have h13:=hL.ifs k hk;have h14:=hL.zC k hk;have hxo:=hof k hk;have hq:=DT N hL k hk l.length;have hown:∀l:List In4,l.length<1000000->_:=fun l hl=>zT M N hM l hl M.ns[k] hxo;rw [hq] at hl ⊢;clear hq ih;generalize M.ns[k]=x at *;obtain ⟨xk,xn,xs,xt,xo⟩:=x;have he:(M.ns.map ndL)[(k:Int).toNat]? = some [I xk,I xn,.str xs,.str xt,bT xo]:=he;simp only at hc h13 h14 hxo hl ⊢;have hown:∀l:List In4,l.length<1000000->bk P0 aT [.ptr 0 0,ndC xk xn xs xt xo] (mkB M l) (.tuple []) (mkB M (l++dP N ⟨xk,xn,xs,xt,xo⟩)):=hown;by_cases k13:xk=13
  ·have h13:=h13 k13
   simp only [if_pos k13] at hl ⊢;subst k13;have h0:xo[0]? = some (xo.getD 0 0):=by simp [List.getD,show 0<xo.length by omega]
   have h1:xo[1]? = some (xo.getD 1 0):=by simp [List.getD,show 1<xo.length by omega]
   have hA:=hc _ (List.mem_of_getElem? h0) l;have hB:=hc _ (List.mem_of_getElem? h1);generalize hAA:lay M.ns N (xo.getD 0 0) l.length=A at *;have hB:=hB ((l++A)++[i2 16 0]);rw [show ((l++A)++[i2 16 0]).length=l.length+A.length+1 by simp<;>omega] at hB;generalize hBB:lay M.ns N (xo.getD 1 0) (l.length+A.length+1)=B at *;by_cases h3:xo.length<3
   ·simp only [if_pos h3,List.length_append,List.length_cons] at hl ⊢
    have hs:=vv M l (l++A) ((l++A)++[i2 16 0]++B) 13 xn xs xt xo _ _ h0 h1 (by omega) (hA (by omega)) (hB (by omega)) (by simp) (by simp<;>omega) (by simp<;>omega);rw [List.append_assoc (l++A),List.singleton_append,set_mid] at hs;rw [List.append_assoc] at hs;have e:((l++A++i2 16 0::B).length:Int)=((l.length+A.length+1+B.length:Nat):Int):=by simp<;>omega
    rw [e] at hs;exact I3 M l _ k xn xs xt xo hkl he hs
   ·simp only [if_neg h3,List.length_append,List.length_cons] at hl ⊢
    have h2:xo[2]? = some (xo.getD 2 0):=by simp [List.getD,show 2<xo.length by omega]
    have hC:=hc _ (List.mem_of_getElem? h2);have hC:=hC (l++A++i2 16 ((l.length+A.length+1+B.length+1:Nat):Int)::(B++[i2 15 0]));have eC:(l++A++i2 16 ((l.length+A.length+1+B.length+1:Nat):Int)::(B++[i2 15 0])).length=l.length+A.length+1+B.length+1:=by simp<;>omega
    rw [eC] at hC;generalize hCC:lay M.ns N (xo.getD 2 0) (l.length+A.length+1+B.length+1)=C at *;have e3:l++A++[i2 16 0]++B++[i2 15 0]=l++A++i2 16 0::(B++[i2 15 0]):=by simp
    have hs:=vx M l (l++A) ((l++A)++[i2 16 0]++B) (l++A++i2 16 0::(B++[i2 15 0])) ((l++A++i2 16 ((l.length+A.length+1+B.length+1:Nat):Int)::(B++[i2 15 0]))++C) 13 xn xs xt xo _ _ _ h0 h1 h2 (hA (by omega)) (hB (by omega)) e3.symm
     (by
      rw [set_mid];have e4:((l++A++i2 16 0::(B++[i2 15 0])).length:Int)=((l.length+A.length+1+B.length+1:Nat):Int):=by simp<;>omega
      rw [e4];exact hC (by omega)) (by simp) ?_ (by simp<;>omega) (by simp<;>omega) (by simp<;>omega)
    ·have e5:((l++A++i2 16 ((l.length+A.length+1+B.length+1:Nat):Int)::(B++[i2 15 0]))++C)=(l++A++i2 16 ((l.length+A.length+1+B.length+1:Nat):Int)::B)++i2 15 0::C:=by simp
     have e6:((l++A)++[i2 16 0]++B).length=(l++A++i2 16 ((l.length+A.length+1+B.length+1:Nat):Int)::B).length:=by simp<;>omega
     rw [e5,e6,set_mid] at hs;have e7:(((l++A++i2 16 ((l.length+A.length+1+B.length+1:Nat):Int)::B)++i2 15 0::C).length:Int)=((l.length+A.length+1+B.length+1+C.length:Nat):Int):=by simp<;>omega
     rw [e7] at hs;refine I3 M l _ k xn xs xt xo hkl he ?_;simpa using hs
    ·have e5:((l++A++i2 16 ((l.length+A.length+1+B.length+1:Nat):Int)::(B++[i2 15 0]))++C)=(l++A++i2 16 ((l.length+A.length+1+B.length+1:Nat):Int)::B)++i2 15 0::C:=by simp
     have e6:((l++A)++[i2 16 0]++B).length=(l++A++i2 16 ((l.length+A.length+1+B.length+1:Nat):Int)::B).length:=by simp<;>omega
     rw [e5,e6];exact PL _ _ _
  by_cases k14:xk=14
  ·have h14:=h14 k14
   simp only [if_neg k13,if_pos k14] at hl ⊢;clear k13;subst k14;have h0:xo[0]? = some (xo.getD 0 0):=by simp [List.getD,show 0<xo.length by omega]
   have h1:xo[1]? = some (xo.getD 1 0):=by simp [List.getD,show 1<xo.length by omega]
   have hA:=hc _ (List.mem_of_getElem? h0) l;have hB:=hc _ (List.mem_of_getElem? h1);generalize hAA:lay M.ns N (xo.getD 0 0) l.length=A at *;have hB:=hB ((l++A)++[i2 16 0]);rw [show ((l++A)++[i2 16 0]).length=l.length+A.length+1 by simp<;>omega] at hB;generalize hBB:lay M.ns N (xo.getD 1 0) (l.length+A.length+1)=B at *;simp only [List.length_append,List.length_cons,List.length_nil] at hl;have hs:=zR M l (l++A) ((l++A)++[i2 16 0]++B) 14 xn xs xt xo _ _ h0 h1 (hA (by omega)) (hB (by omega)) (by simp) (by simp<;>omega) (by simp<;>omega);have e5:(l++A)++[i2 16 0]++B++[i2 15 (l.length:Nat)]=(l++A)++i2 16 0::(B++[i2 15 (l.length:Nat)]):=by simp
   rw [e5,set_mid] at hs;have e7:(((l++A)++i2 16 0::(B++[i2 15 (l.length:Nat)])).length:Int)=((l.length+A.length+1+B.length+1:Nat):Int):=by simp<;>omega
   rw [e7] at hs;refine PN M l _ k xn xs xt xo hkl he ?_;simpa using hs
  simp only [if_neg k13,if_neg k14,List.length_append] at hl ⊢;have ho:(dP N ⟨xk,xn,xs,xt,xo⟩).length=0\/0<(dP N ⟨xk,xn,xs,xt,xo⟩).length:=by omega
  have hlen:l.length+(layAll (lay M.ns N) xo l.length).length<1000000:=by omega
  have hs:=PO M (l++layAll (lay M.ns N) xo l.length++dP N ⟨xk,xn,xs,xt,xo⟩) (fun j=>l++layAll (lay M.ns N) (xo.take j) l.length) k xk xn xs xt xo k13 k14 hxo hkl he ?_ ?_
  ·simp only [List.take_zero,layAll,List.append_nil] at hs
   rw [List.append_assoc] at hs;exact hs
  ·intro j c hj
   have hle:=JR (lay M.ns N) xo (j+1) l.length;rw [F4 _ _ _ _ hj] at hle ⊢;rw [List.length_append] at hle;have:=hc c (List.mem_of_getElem? hj) (l++layAll (lay M.ns N) (xo.take j) l.length) (by rw [List.length_append];omega);rw [List.length_append] at this;rw [<- List.append_assoc];exact this
  ·rw [List.take_length]
   exact hown _ (by rw [List.length_append];omega)
end Uw.Tryz
namespace Uw.Tryz
open Go Uw
abbrev pgA (p:Pg):V:=.agg [.d (.slice 3 (p.decls.map cI) false),.d (.slice 3 (p.ae.map fuL) false),.d (bN p.nodes)]
def lV (p:Pg) (l:List Str):List Int:=l.map fun s=>(((dD p s).getD 0:Nat):Int)
abbrev nuH (p:Pg) (C T F H:MS) (l:List Int):Heap:=[(7,.arr 1 (l.map fun i=>[I i])),(6,.map (some .i64) C),(5,.var [.hnd 2,.hnd 3,.hnd 4,.ref 7 0 0 (l.map fun i=>[I i]).length]),(4,.map none H),(3,.map none F),(2,.map none T),(1,.var [.d .aV,.d .aV,.d .aV,.d .nil]),(0,.var [.d (.slice 3 (p.decls.map cI) false),.d (.slice 3 (p.ae.map fuL) false),.d (bN p.nodes)])]
abbrev SX (p:Pg) (C T:MS) (F:Nat->MS) (j:Nat):St:=⟨[(45,.d (I j)),(44,.d (I ((p.ae.map fuL).length:Nat))),(43,.d (.slice 3 (p.ae.map fuL) false)),(4,.hnd 6),(3,.ptr 5 0),(2,.ptr 1 0),(1,.ptr 0 0)],nuH p C T (F j) [] [],8,[],0⟩
abbrev HM (p:Pg) (C T F:MS) (H:Nat->MS) (L:Nat->List Int) (j:Nat):St:=⟨[(59,.d (I j)),(58,.d (I ((p.nodes.map ndL).length:Nat))),(57,.d (bN p.nodes)),(4,.hnd 6),(3,.ptr 5 0),(2,.ptr 1 0),(1,.ptr 0 0)],nuH p C T F (H j) (L j),8,[],0⟩
abbrev SY (p:Pg) (C T:Nat->MS) (j:Nat):St:=⟨[(21,.d (I j)),(20,.d (I ((p.decls.map cI).length:Nat))),(19,.d (.slice 3 (p.decls.map cI) false)),(4,.hnd 6),(3,.ptr 5 0),(2,.ptr 1 0),(1,.ptr 0 0)],nuH p (C j) (T j) [] [] [],8,[],0⟩
set_option maxRecDepth 8000 in
set_option maxHeartbeats 4000000 in
theorem wv (p:Pg) (hp:Lim p) (hm:May p):bk P0 pf [pgA p] [] (.agg [.hnd 0,.hnd 1,.hnd 2,.d (bT (lV p (bF p)))]) [.map none (tgE p.decls),.map none (fuE p.ae),.map none (hpE p.ae.length (bF p))]:=by
 have hF:=hp.ae;have hD:=hp.decls;have hN:=hp.nodes;have hfl:(p.ae.map fuL).length=p.ae.length:=by simp
 have hdl:(p.decls.map cI).length=p.decls.length:=by simp
 have hnl:(p.nodes.map ndL).length=p.nodes.length:=by simp
 obtain ⟨C,hC⟩:∃E:Nat->MS,∀j,E j=ctE (p.decls.take j):=⟨_,fun _=>rfl⟩
 obtain ⟨T,hT⟩:∃E:Nat->MS,∀j,E j=tgE (p.decls.take j):=⟨_,fun _=>rfl⟩
 have hst:∀(j:Nat) (h:j<p.decls.length),∃c:Nat,c<=100000/\(aW (C j) (.i p.decls[j].kind)).getD (I 0)=I (c:Nat)/\dJ (C j) (.i p.decls[j].kind) (I ((c:Nat)+1))=C (j+1)/\dJ (T j) (.s p.decls[j].name) (.agg [I p.decls[j].kind,I (c:Nat)])=T (j+1):=fun j h=>by
  refine ⟨ctN (p.decls.take j) p.decls[j].kind,?_,by rw [hC,uh],?_,?_⟩
  ·have h2:(p.decls.take j).length<=j:=by rw [List.length_take];omega
   have h3:ctN (p.decls.take j) p.decls[j].kind<=(p.decls.take j).length:=List.countP_le_length;omega
  ·rw [hC,hC,I2,<- List.take_succ_eq_append_getElem h]
  ·rw [hT,hT,List.take_succ_eq_append_getElem h,zO]
 have hdel:∀(j:Nat) (h:j<p.decls.length),(p.decls.map cI)[(j:Int).toNat]? = some (cI p.decls[j]):=fun j h=>by simp [h]
 obtain ⟨F,hF1⟩:∃E:Nat->MS,∀j,E j=fuE (p.ae.take j):=⟨_,fun _=>rfl⟩
 obtain ⟨H,hH⟩:∃E:Nat->MS,∀j,E j=hpE p.ae.length (fZ (p.nodes.take j) []):=⟨_,fun _=>rfl⟩
 obtain ⟨L,hL⟩:∃E:Nat->List Int,∀j,E j=lV p (fZ (p.nodes.take j) []):=⟨_,fun _=>rfl⟩
 have hfs:∀(j:Nat) (h:j<p.ae.length),dJ (F j) (.s p.ae[j].name) (I (j:Nat))=F (j+1):=fun j h=>by
  rw [hF1,hF1,List.take_succ_eq_append_getElem h,zP,List.length_take,Nat.min_eq_left (by omega)]
 have JS:∀(j:Nat) (h:j<p.ae.length),(p.ae.map fuL)[(j:Int).toNat]? = some (fuL p.ae[j]):=fun j h=>by simp [h]
 have ML:∀(j:Nat) (h:j<p.nodes.length),(p.nodes.map ndL)[(j:Int).toNat]? = some (ndL p.nodes[j]):=fun j h=>by simp [h]
 have hFg:∀s,(aW (F p.ae.length) (.s s)).getD (I 0)=I (((dD p s).getD 0:Nat):Int):=fun s=>by
  rw [hF1,List.take_length,HK p hm.names.2.1]
  cases dD p s<;>rfl
 have hns:∀(j:Nat) (h:j<p.nodes.length),(∃i,aW (H j) (.s p.nodes[j].name2)=some (I i)/\H j=H (j+1)/\L j=L (j+1))\/(p.nodes[j].kind≠11/\H j=H (j+1)/\L j=L (j+1))\/
   (p.nodes[j].kind=11/\aW (H j) (.s p.nodes[j].name2)=none/\dJ (H j) (.s p.nodes[j].name2) (I (((p.ae.map fuL).length:Nat)+((L j).map fun i=>[I i]).length:Int))=H (j+1)/\L j++[(((dD p p.nodes[j].name2).getD 0:Nat):Int)]=L (j+1)):=fun j h=>by
  have hS:=ui p.nodes[j] (p.nodes.take j) [];rw [<- List.take_succ_eq_append_getElem h] at hS;have hg:=HL p.ae.length p.nodes[j].name2 (fZ (p.nodes.take j) []) (ll _ _ List.nodup_nil);have hi:=BN (l:=fZ (p.nodes.take j) []) (s:=p.nodes[j].name2);simp only [hH,hL];rw [hS];by_cases k11:p.nodes[j].kind=11
  ·by_cases hm2:p.nodes[j].name2∈fZ (p.nodes.take j) []
   ·rw [decide_eq_true hm2] at hi
    rw [if_neg (fun e=>e.2 hm2)]
    cases hq:oK (fZ (p.nodes.take j) []) p.nodes[j].name2 with
    | none=>rw [hq] at hi;cases hi
    | some i=>rw [hq] at hg;exact .inl ⟨_,hg,rfl,rfl⟩
   ·rw [decide_eq_false hm2] at hi
    rw [if_pos ⟨k11,hm2⟩]
    cases hq:oK (fZ (p.nodes.take j) []) p.nodes[j].name2 with
    | some i=>rw [hq] at hi;cases hi
    | none=>
     rw [hq] at hg;refine .inr (.inr ⟨k11,hg,?_,by simp [lV]⟩);rw [zQ]
     congr 2
     simp [lV]
  ·rw [if_neg (fun e=>k11 e.1)]
   exact .inr (.inl ⟨k11,rfl,rfl⟩)
 have hLl:∀j,(L j).length<=j:=fun j=>by
  rw [hL,lV,List.length_map];have:∀n,(fZ (p.nodes.take n) []).length<=n:=by
   intro n
   induction n with
   | zero=>simp [fZ]
   | succ n ih=>
    rcases Nat.lt_or_ge n p.nodes.length with h|h
    ·rw [List.take_succ_eq_append_getElem h,ui]
     split
     ·simp;omega
     ·omega
    ·rw [List.take_of_length_le (by omega)]
     rw [List.take_of_length_le h] at ih;omega
  exact this j
 have hC0:C 0=[]:=by rw [hC];rfl
 have hT0:T 0=[]:=by rw [hT];rfl
 have hF0:F 0=[]:=by rw [hF1];rfl
 have hH0:H 0=[]:=by rw [hH];rfl
 have hL0:L 0=[]:=by rw [hL];rfl
 have hTn:tgE p.decls=T p.decls.length:=by rw [hT,List.take_length]
 have hFn:fuE p.ae=F p.ae.length:=by rw [hF1,List.take_length]
 have hHn:hpE p.ae.length (bF p)=H p.nodes.length:=by rw [hH,List.take_length];rfl
 have hLn:lV p (bF p)=L p.nodes.length:=by rw [hL,List.take_length];rfl
 rw [hTn,hFn,hHn,hLn];clear hTn hFn hHn hLn hC hT hF1 hH hL;have hS0:SY p C T 0=⟨[(21,.d (I (0:Nat))),(20,.d (I ((p.decls.map cI).length:Nat))),(19,.d (.slice 3 (p.decls.map cI) false)),(4,.hnd 6),(3,.ptr 5 0),(2,.ptr 1 0),(1,.ptr 0 0)],nuH p [] [] [] [] [],8,[],0⟩:=by rw [SY,hC0,hT0]
 have hS1:SX p (C p.decls.length) (T p.decls.length) F 0=⟨[(45,.d (I (0:Nat))),(44,.d (I ((p.ae.map fuL).length:Nat))),(43,.d (.slice 3 (p.ae.map fuL) false)),(4,.hnd 6),(3,.ptr 5 0),(2,.ptr 1 0),(1,.ptr 0 0)],nuH p (C p.decls.length) (T p.decls.length) [] [] [],8,[],0⟩:=by rw [SX,hF0]
 have hS2:HM p (C p.decls.length) (T p.decls.length) (F p.ae.length) H L 0=⟨[(59,.d (I (0:Nat))),(58,.d (I ((p.nodes.map ndL).length:Nat))),(57,.d (bN p.nodes)),(4,.hnd 6),(3,.ptr 5 0),(2,.ptr 1 0),(1,.ptr 0 0)],nuH p (C p.decls.length) (T p.decls.length) (F p.ae.length) [] [],8,[],0⟩:=by rw [HM,hH0,hL0]
 have hLn:=hLl p.nodes.length;have hrow:(((L p.nodes.length).map fun i=>[I i]).drop 0).take ((L p.nodes.length).map fun i=>[I i]).length=(L p.nodes.length).map fun i=>[I i]:=by rw [List.drop_zero,List.take_length]
 refine aG uW rfl ?_
 repeat (first|refine aw ?_|refine f1 ?_|refine m1 ?_)
 refine cb p.decls.length (SY p C T) (fun _=>True) (cX hS0 ?_) (fun _=>?_) (fun j hj _=>?_)
 ·exact Uw.wM
 rotate_left 1
 ·have he:=hdel j hj
  obtain ⟨c,hcl,hcg,hcs,hcu⟩:=hst j hj;clear hdel hst hfs hns hLl;generalize p.decls[j]=d at *;obtain ⟨dk,ds,dn⟩:=d;have he:(p.decls.map cI)[(j:Int).toNat]? = some [I dk,.str ds,I dn]:=he;simp only at hcg hcs hcu
  repeat (first|refine aw ?_|refine f1 ?_)
  refine cP (I 0) _ hcg ?_
  repeat (first|refine aw ?_|refine f1 ?_)
  refine cP (I 0) _ hcg ?_
  repeat (first|refine aw ?_|refine f1 ?_)
  exact aJ j trivial (by exact Uw.wM)
 clear hdel hst
 repeat (first|refine aw ?_|refine f1 ?_)
 refine aC ?_
 repeat (first|refine aw ?_|refine f1 ?_)
 refine cb p.ae.length (SX p (C p.decls.length) (T p.decls.length) F) (fun _=>True) (cX hS1 ?_) (fun _=>?_) (fun j hj _=>?_)
 ·exact Uw.wM
 rotate_left 1
 ·have he:=JS j hj
  have hcu:=hfs j hj;clear JS hfs hns hLl;generalize p.ae[j]=d at *;obtain ⟨fn,fa,fb⟩:=d;have he:(p.ae.map fuL)[(j:Int).toNat]? = some [.str fn,.slice 1 (fa.map fun s=>[Dat.str s]) false,I fb]:=he;simp only at hcu
  repeat (first|refine aw ?_|refine f1 ?_)
  exact aJ j trivial (by exact Uw.wM)
 clear JS hfs
 repeat (first|refine aw ?_|refine f1 ?_)
 refine aC ?_
 repeat (first|refine aw ?_|refine f1 ?_)
 refine cb p.nodes.length (HM p (C p.decls.length) (T p.decls.length) (F p.ae.length) H L) (fun _=>True) (cX hS2 ?_) (fun _=>?_) (fun j hj _=>?_)
 ·exact Uw.wM
 rotate_left 1
 ·have he:=ML j hj
  have hcu:=hns j hj;have hLj:=hLl j;clear ML hns hLl;generalize p.nodes[j]=d at *;obtain ⟨xk,xn,xs,xt,xo⟩:=d;have he:(p.nodes.map ndL)[(j:Int).toNat]? = some [I xk,I xn,.str xs,.str xt,bT xo]:=he;simp only at hcu;have hFg:=hFg xt;have hll:((L j).map fun i=>[I i]).length=(L j).length:=by simp
  rcases hcu with ⟨i,h1,h2,h3⟩|⟨h1,h2,h3⟩|⟨k11,h1,h2,h3⟩
  ·by_cases k11:xk=11
   ·subst k11
    repeat (first|refine aw ?_|refine f1 ?_|refine m1 ?_)
    refine aJ j trivial (cX (by rw [HM,<- h2,<- h3]) ?_);exact Uw.wM
   ·repeat (first|refine aw ?_|refine f1 ?_|refine m1 ?_)
    refine aJ j trivial (cX (by rw [HM,<- h2,<- h3]) ?_);exact Uw.wM
  ·repeat (first|refine aw ?_|refine f1 ?_|refine m1 ?_)
   refine aJ j trivial (cX (by rw [HM,<- h2,<- h3]) ?_);exact Uw.wM
  ·have h4:((L (j+1)).map fun i=>[I i])=((L j).map fun i=>[I i])++(List.replicate 1 [Dat.int .i64 0]).set 0 [I (((dD p xt).getD 0:Nat):Int)]:=by rw [<- h3,List.map_append];rfl
   clear h3;subst k11
   repeat (first|refine aw ?_|refine f1 ?_|refine m1 ?_)
   refine cP (I 0) _ hFg ?_
   repeat (first|refine aw ?_|refine f1 ?_|refine m1 ?_)
   refine aJ j trivial (cX (by rw [HM,nuH,h4,<- h2]) ?_);exact Uw.wM
 repeat (first|refine aw ?_|refine f1 ?_)
 refine aC ?_
 repeat (first|refine aw ?_|refine f1 ?_)
 refine aF 0 rfl rfl (Weak.ofR [(0,2),(1,3),(2,4)] ?_ ?_ rfl rfl ?_ rfl rfl rfl)
 ·refine ⟨⟨_,rfl,?_⟩,trivial⟩
  exact Or.inr (Or.inr (Or.inr (Or.inr (Or.inl ⟨_,_,rfl,rfl,.inl ⟨rfl,rfl⟩,.inl ⟨rfl,rfl⟩,.inl ⟨rfl,rfl⟩,.inr (.inr (.inr ⟨_,_,_,_,_,_,_,rfl,rfl,hrow,rfl⟩)),trivial⟩))))
 ·exact ⟨⟨.inl ⟨_,rfl,⟨rfl,rfl⟩⟩,rfl⟩,⟨.inl ⟨_,rfl,⟨rfl,rfl⟩⟩,rfl⟩,⟨.inl ⟨_,rfl,⟨rfl,rfl⟩⟩,rfl⟩,trivial⟩
 ·trivial
end Uw.Tryz
namespace Uw.Tryz
open Go Uw
abbrev bdS (p:Pg) (E:Nat->MS) (j:Nat):St:=⟨[(20,.d (I j)),(19,.d (I ((p.decls.map cI).length:Nat))),(18,.d (.slice 3 (p.decls.map cI) false)),(3,.hnd 3),(1,.ptr 2 0)],(3,.map (some .i64) (E j))::sHp p,4,[],2⟩
set_option maxRecDepth 8000 in
set_option maxHeartbeats 4000000 in
theorem zV (p:Pg) (hp:Lim p):bk P0 kT [.agg (sCs p)] (sBs p) (.d (.bool (gk p))) (sBs p):=by
 have hF:=hp.ae;have hD:=hp.decls;have hN:=hp.nodes;have hfl:(p.ae.map fuL).length=p.ae.length:=by simp
 have hdl:(p.decls.map cI).length=p.decls.length:=by simp
 have hnl:(p.nodes.map ndL).length=p.nodes.length:=by simp
 have hll:=lk p;have hml:((ao p).map fun l=>[fY l]).length=(ao p).length:=by simp
 obtain ⟨c0,hc0⟩:∃c,ctN p.decls 0=c:=⟨_,rfl⟩
 obtain ⟨c1,hc1⟩:∃c,ctN p.decls 1=c:=⟨_,rfl⟩
 obtain ⟨c2,hc2⟩:∃c,ctN p.decls 2=c:=⟨_,rfl⟩
 obtain ⟨c3,hc3⟩:∃c,ctN p.decls 3=c:=⟨_,rfl⟩
 have hB:gk p=(decide (16<p.ae.length)||decide (16<c0)||decide (8<c1)||decide (8<c2)||decide (8<c3)||((ao p).any fun l=>decide (16<l.length))||(p.nodes.any fun x=>decide (x.kind=10)&&decide (16<x.of.length))):=by rw [<- hc0,<- hc1,<- hc2,<- hc3];rfl
 have b0:16<p.ae.length->gk p=true:=fun h=>by rw [hB];simp [h]
 have b1:16<c0->gk p=true:=fun h=>by rw [hB];simp [h]
 have b2:8<c1->gk p=true:=fun h=>by rw [hB];simp [h]
 have b3:8<c2->gk p=true:=fun h=>by rw [hB];simp [h]
 have b4:8<c3->gk p=true:=fun h=>by rw [hB];simp [h]
 have b5:∀(j:Nat) (h:j<(ao p).length),16<(ao p)[j].length->gk p=true:=fun j h e=>by
  have:((ao p).any fun l=>decide (16<l.length))=true:=List.any_eq_true.2 ⟨_,List.getElem_mem h,by simp [e]⟩;rw [hB,this];simp
 have b6:∀(j:Nat) (h:j<p.nodes.length),p.nodes[j].kind=10/\16<p.nodes[j].of.length->gk p=true:=fun j h e=>by
  have:(p.nodes.any fun x=>decide (x.kind=10)&&decide (16<x.of.length))=true:=List.any_eq_true.2 ⟨_,List.getElem_mem h,by simp [e]⟩;rw [hB,this];simp
 have D7:¬16<p.ae.length->¬16<c0->¬8<c1->¬8<c2->¬8<c3->(∀(j:Nat) (h:j<(ao p).length),¬16<(ao p)[j].length)->(∀(j:Nat) (h:j<p.nodes.length),¬(p.nodes[j].kind=10/\16<p.nodes[j].of.length))->gk p=false:=fun g0 g1 g2 g3 g4 g5 g6=>by
  have h5:((ao p).any fun l=>decide (16<l.length))=false:=List.any_eq_false.2 fun x hx=>by
   obtain ⟨j,hj,rfl⟩:=List.mem_iff_getElem.1 hx;simpa using g5 j hj
  have h6:(p.nodes.any fun x=>decide (x.kind=10)&&decide (16<x.of.length))=false:=List.any_eq_false.2 fun x hx=>by
   obtain ⟨j,hj,rfl⟩:=List.mem_iff_getElem.1 hx;simpa using g6 j hj
  rw [hB,h5,h6];simp [g0,g1,g2,g3,g4]
 clear hB;generalize gk p=R at *;obtain ⟨E,hE⟩:∃E:Nat->MS,∀j,E j=ctE (p.decls.take j):=⟨_,fun _=>rfl⟩
 have hE0:([]:MS)=E 0:=by rw [hE];rfl
 have hst:∀(j:Nat) (h:j<p.decls.length),∃c:Nat,c<=100000/\(aW (E j) (.i p.decls[j].kind)).getD (I 0)=I (c:Nat)/\dJ (E j) (.i p.decls[j].kind) (I ((c:Nat)+1))=E (j+1):=fun j h=>by
  refine ⟨ctN (p.decls.take j) p.decls[j].kind,?_,by rw [hE,uh],?_⟩
  ·have h2:(p.decls.take j).length<=j:=by rw [List.length_take];omega
   have h3:ctN (p.decls.take j) p.decls[j].kind<=(p.decls.take j).length:=List.countP_le_length;omega
  ·rw [hE,hE,I2,<- List.take_succ_eq_append_getElem h]
 have hg0:(aW (E p.decls.length) (.i 0)).getD (I 0)=I (c0:Nat):=by rw [hE,List.take_length,uh,hc0]
 have hg1:(aW (E p.decls.length) (.i 1)).getD (I 0)=I (c1:Nat):=by rw [hE,List.take_length,uh,hc1]
 have hg2:(aW (E p.decls.length) (.i 2)).getD (I 0)=I (c2:Nat):=by rw [hE,List.take_length,uh,hc2]
 have hg3:(aW (E p.decls.length) (.i 3)).getD (I 0)=I (c3:Nat):=by rw [hE,List.take_length,uh,hc3]
 have hdel:∀(j:Nat) (h:j<p.decls.length),(p.decls.map cI)[(j:Int).toNat]? = some (cI p.decls[j]):=fun j h=>by simp [h]
 clear hc0 hc1 hc2 hc3 hE;have hS0:bdS p E 0=⟨[(20,.d (I (0:Nat))),(19,.d (I ((p.decls.map cI).length:Nat))),(18,.d (.slice 3 (p.decls.map cI) false)),(3,.hnd 3),(1,.ptr 2 0)],(3,.map (some .i64) [])::sHp p,4,[],2⟩:=by rw [bdS,<- hE0]
 refine aG qF rfl ?_;by_cases h16:16<p.ae.length
 ·rw [b0 h16]
  have h17:(16:Int)<((p.ae.map fuL).length:Nat):=by omega
  repeat (first|refine aw ?_|refine f1 ?_|refine m1 ?_)
  refine aF 2 rfl rfl ?_;exact Uw.wM
 have D7:=D7 h16;have h17:¬(16:Int)<((p.ae.map fuL).length:Nat):=by omega
 repeat (first|refine aw ?_|refine f1 ?_|refine m1 ?_)
 refine cb p.decls.length (bdS p E) (fun _=>True) (cX hS0 ?_) (fun _=>?_) (fun j hj _=>?_)
 ·exact Uw.wM
 rotate_left 1
 ·have he:=hdel j hj
  obtain ⟨c,hcl,hcg,hcs⟩:=hst j hj;clear hdel hst;generalize p.decls[j]=d at *;obtain ⟨dk,ds,dn⟩:=d;have he:(p.decls.map cI)[(j:Int).toNat]? = some [I dk,.str ds,I dn]:=he;simp only at hcg hcs
  repeat (first|refine aw ?_|refine f1 ?_)
  refine cP (I 0) _ hcg ?_
  repeat (first|refine aw ?_|refine f1 ?_)
  exact aJ j trivial (by exact Uw.wM)
 by_cases q1:16<c0
 ·rw [b1 q1]
  have q1' : (16:Int)<(c0:Nat):=by omega
  repeat (first|refine aw ?_|refine f1 ?_)
  refine aC ?_
  repeat (first|refine aw ?_|refine f1 ?_)
  refine cP (I 0) _ hg0 ?_
  repeat (first|refine aw ?_|refine f1 ?_)
  refine aF 2 rfl rfl ?_;exact Uw.wM
 have q1' : ¬(16:Int)<(c0:Nat):=by omega
 by_cases q2:8<c1
 ·rw [b2 q2]
  have q2' : (8:Int)<(c1:Nat):=by omega
  repeat (first|refine aw ?_|refine f1 ?_)
  refine aC ?_
  repeat (first|refine aw ?_|refine f1 ?_)
  refine cP (I 0) _ hg0 ?_
  repeat (first|refine aw ?_|refine f1 ?_)
  refine cP (I 0) _ hg1 ?_
  repeat (first|refine aw ?_|refine f1 ?_)
  refine aF 2 rfl rfl ?_;exact Uw.wM
 have q2' : ¬(8:Int)<(c1:Nat):=by omega
 by_cases q3:8<c2
 ·rw [b3 q3]
  have q3' : (8:Int)<(c2:Nat):=by omega
  repeat (first|refine aw ?_|refine f1 ?_)
  refine aC ?_
  repeat (first|refine aw ?_|refine f1 ?_)
  refine cP (I 0) _ hg0 ?_
  repeat (first|refine aw ?_|refine f1 ?_)
  refine cP (I 0) _ hg1 ?_
  repeat (first|refine aw ?_|refine f1 ?_)
  refine cP (I 0) _ hg2 ?_
  repeat (first|refine aw ?_|refine f1 ?_)
  refine aF 2 rfl rfl ?_;exact Uw.wM
 have q3' : ¬(8:Int)<(c2:Nat):=by omega
 by_cases q4:8<c3
 ·rw [b4 q4]
  have q4' : (8:Int)<(c3:Nat):=by omega
  repeat (first|refine aw ?_|refine f1 ?_)
  refine aC ?_
  repeat (first|refine aw ?_|refine f1 ?_)
  refine cP (I 0) _ hg0 ?_
  repeat (first|refine aw ?_|refine f1 ?_)
  refine cP (I 0) _ hg1 ?_
  repeat (first|refine aw ?_|refine f1 ?_)
  refine cP (I 0) _ hg2 ?_
  repeat (first|refine aw ?_|refine f1 ?_)
  refine cP (I 0) _ hg3 ?_
  repeat (first|refine aw ?_|refine f1 ?_)
  refine aF 2 rfl rfl ?_;exact Uw.wM
 have q4' : ¬(8:Int)<(c3:Nat):=by omega
 have D7:=D7 q1 q2 q3 q4;have SZ:∀(j:Nat) (h:j<(ao p).length),((ao p).map fun l=>[fY l])[(j:Int).toNat]? = some [.slice 1 ((ao p)[j].map fun s=>[Dat.str s]) false]:=fun j h=>by simp [h];rfl
 have ML:∀(j:Nat) (h:j<p.nodes.length),(p.nodes.map ndL)[(j:Int).toNat]? = some (ndL p.nodes[j]):=fun j h=>by simp [h]
 repeat (first|refine aw ?_|refine f1 ?_)
 refine aC ?_
 repeat (first|refine aw ?_|refine f1 ?_)
 refine cP (I 0) _ hg0 ?_
 repeat (first|refine aw ?_|refine f1 ?_)
 refine cP (I 0) _ hg1 ?_
 repeat (first|refine aw ?_|refine f1 ?_)
 refine cP (I 0) _ hg2 ?_
 repeat (first|refine aw ?_|refine f1 ?_)
 refine cP (I 0) _ hg3 ?_
 repeat (first|refine aw ?_|refine f1 ?_)
 clear hst hdel hg0 hg1 hg2 hg3 hS0 b0 b1 b2 b3 b4;refine cb (ao p).length (fun j:Nat=>⟨[(51,.d (I j)),(50,.d (I (((ao p).map fun l=>[fY l]).length:Nat))),(49,.d (rP (ao p))),(1,.ptr 2 0)],sHp p,3,[],2⟩) (fun j=>∀h:j<(ao p).length,¬16<(ao p)[j].length) (by exact Uw.wM) (fun g5=>?_) (fun j hj _=>?_);rotate_left 1
 ·have he:=SZ j hj
  have b5:=b5 j hj;have hgd:¬16<(ao p)[j].length->(fun j=>∀h:j<(ao p).length,¬16<(ao p)[j].length) j:=fun h _=>h;clear SZ D7 b6;generalize (ao p)[j]=l at *;have hl:(l.map fun s=>[Dat.str s]).length=l.length:=by simp
  by_cases q:16<l.length
  ·rw [b5 q]
   have q' : (16:Int)<((l.map fun s=>[Dat.str s]).length:Nat):=by omega
   repeat (first|refine aw ?_|refine f1 ?_)
   refine bj (aF 2 rfl rfl ?_);exact Uw.wM
  ·have hgd:=hgd q
   have q' : ¬(16:Int)<((l.map fun s=>[Dat.str s]).length:Nat):=by omega
   repeat (first|refine aw ?_|refine f1 ?_)
   exact aJ j hgd (by exact Uw.wM)
 have D7:=D7 fun j h=>g5 j h h;clear g5 b5 SZ
 repeat (first|refine aw ?_|refine f1 ?_)
 refine aC ?_
 repeat (first|refine aw ?_|refine f1 ?_)
 refine cb p.nodes.length (fun j:Nat=>⟨[(63,.d (I j)),(62,.d (I ((p.nodes.map ndL).length:Nat))),(61,.d (bN p.nodes))],sHp p,3,[],2⟩) (fun j=>∀h:j<p.nodes.length,¬(p.nodes[j].kind=10/\16<p.nodes[j].of.length)) (by exact Uw.wM) (fun g6=>?_) (fun j hj _=>?_)
 ·rw [D7 fun j h=>g6 j h h]
  repeat (first|refine aw ?_|refine f1 ?_)
  refine aC ?_
  repeat (first|refine aw ?_|refine f1 ?_)
  refine aF 2 rfl rfl ?_;exact Uw.wM
 have he:=ML j hj;have b6:=b6 j hj;have hgd:¬(p.nodes[j].kind=10/\16<p.nodes[j].of.length)->(fun j=>∀h:j<p.nodes.length,¬(p.nodes[j].kind=10/\16<p.nodes[j].of.length)) j:=fun h _=>h;clear ML D7;generalize p.nodes[j]=x at *;obtain ⟨xk,xn,xs,xt,xo⟩:=x;have he:(p.nodes.map ndL)[(j:Int).toNat]? = some [I xk,I xn,.str xs,.str xt,.slice 1 (xo.map fun i=>[I i]) false]:=he;simp only at b6 hgd;have hol:(xo.map fun i=>[I i]).length=xo.length:=by simp
 by_cases k10:xk=10
 ·by_cases q:16<xo.length
  ·rw [b6 ⟨k10,q⟩]
   have q' : (16:Int)<((xo.map fun i=>[I i]).length:Nat):=by omega
   subst k10
   repeat (first|refine aw ?_|refine f1 ?_)
   refine bj (aF 2 rfl rfl ?_);exact Uw.wM
  ·have hgd1:=hgd (fun h=>q h.2)
   have q' : ¬(16:Int)<((xo.map fun i=>[I i]).length:Nat):=by omega
   subst k10
   repeat (first|refine aw ?_|refine f1 ?_)
   exact aJ j hgd1 (by exact Uw.wM)
 ·have hgd1:=hgd (fun h=>k10 h.1)
  repeat (first|refine aw ?_|refine f1 ?_)
  exact aJ j hgd1 (by exact Uw.wM)
end Uw.Tryz
namespace Uw.Tryz
open Go Uw
abbrev Wb (p:Pg):List V:=[.d (.slice 3 (p.decls.map cI) false),.d (.slice 3 (p.ae.map fuL) false),.d (bN p.nodes),.hnd 1,.hnd 2,.d (bT (aU p)),.d (rP (ao p))]
abbrev wyH (p:Pg) (es:MS):Heap:=[(2,.map none es),(3,.var (Wb p)),(1,.map none (thE p.decls)),(0,pgV p)]
theorem BO (f:Fu):∀(fs:List Fu) (i:Nat) (es:MS),qO i (fs++[f]) es=(if (aW (qO i fs es) (.s f.name)).isSome then qO i fs es else dJ (qO i fs es) (.s f.name) (I ((i+fs.length:Nat):Int)))
 | [],i,es=>rfl
 | g::fs,i,es=>by
  rw [List.cons_append,qO,BO f fs,qO,List.length_cons,show i+1+fs.length=i+(fs.length+1) by omega]
theorem PP (p:Pg) (j:Nat) (h:j<p.ae.length):((∃v,aW (fnE (p.ae.take j)) (.s p.ae[j].name)=some (I v))/\fnE (p.ae.take j)=fnE (p.ae.take (j+1)))\/(aW (fnE (p.ae.take j)) (.s p.ae[j].name)=none/\dJ (fnE (p.ae.take j)) (.s p.ae[j].name) (I (j:Nat))=fnE (p.ae.take (j+1))):=by
 have hl:(p.ae.take j).length=j:=by rw [List.length_take];omega
 rw [List.take_succ_eq_append_getElem h];have e:=BO p.ae[j] (p.ae.take j) 0 [];rw [hl,Nat.zero_add] at e;show ((∃v,_)/\_=qO 0 _ [])\/(_/\_=qO 0 _ [])
 rw [e];have hg:=zK p.ae[j].name (p.ae.take j) 0 []
 cases hq:aW (qO 0 (p.ae.take j) []) (.s p.ae[j].name) with
 | none=>exact .inr ⟨hq,by simp [fnE]⟩
 | some v=>
  refine .inl ⟨?_,by simp [fnE]⟩;rw [hq] at hg;simp only [aW,Option.none_or] at hg
  cases hi:(p.ae.take j).findIdx? fun f=>decide (f.name=p.ae[j].name) with
  | none=>rw [hi] at hg;cases hg
  | some i=>rw [hi] at hg;exact ⟨_,hq.trans hg⟩
abbrev wyS (p:Pg) (E:Nat->MS) (j:Nat):St:=⟨[(26,.d (I j)),(25,.d (I ((p.ae.map fuL).length:Nat))),(24,.d (.slice 3 (p.ae.map fuL) false)),(3,.ptr 3 0),(1,.ptr 0 0)],wyH p (E j),4,[],0⟩
set_option maxRecDepth 8000 in
set_option maxHeartbeats 2000000 in
theorem S0 (p:Pg) (hp:Lim p) (hnm:bE p=true->bk P0 iM [.agg (sCs p)] (sBs p) (.d (.bool (nameP p))) (sBs p)):Ret P0 nV [pgD p] (I (m3 p)):=by
 have hfm:=rM p hp;have hF:=hp.ae;have hfl:(p.ae.map fuL).length=p.ae.length:=by simp
 refine az Dq rfl ?_
 cases hf:bE p with
 | false=>
  rw [hf] at hfm;have hw:m3 p=1:=by rw [m3,if_pos hf]
  rw [hw]
  repeat (first|refine aw ?_|refine f1 ?_)
  exact ak rfl rfl rfl rfl rfl
 | true=>
 rw [hf] at hfm;have how:=ni p hf hp;have hlo:=rQ p hf hp;have hth:=nh p hp.decls;obtain ⟨E,hE⟩:∃E:Nat->MS,∀j,E j=fnE (p.ae.take j):=⟨_,fun _=>rfl⟩
 have hS0:wyS p E 0=⟨[(26,.d (I (0:Nat))),(25,.d (I ((p.ae.map fuL).length:Nat))),(24,.d (.slice 3 (p.ae.map fuL) false)),(3,.ptr 3 0),(1,.ptr 0 0)],wyH p [],4,[],0⟩:=by
  rw [wyS,hE];rfl
 have hSn:wyS p E p.ae.length=⟨[(26,.d (I (p.ae.length:Nat))),(25,.d (I ((p.ae.map fuL).length:Nat))),(24,.d (.slice 3 (p.ae.map fuL) false)),(3,.ptr 3 0),(1,.ptr 0 0)],wyH p (fnE p.ae),4,[],0⟩:=by
  rw [wyS,hE,List.take_length]
 have hst:∀(j:Nat) (h:j<p.ae.length),((∃v,aW (E j) (.s p.ae[j].name)=some (I v))/\E j=E (j+1))\/(aW (E j) (.s p.ae[j].name)=none/\dJ (E j) (.s p.ae[j].name) (I (j:Nat))=E (j+1)):=fun j h=>by
  rw [hE,hE];exact PP p j h
 have hel:∀(j:Nat) (h:j<p.ae.length),(p.ae.map fuL)[(j:Int).toNat]? = some (fuL p.ae[j]):=fun j h=>by simp [h]
 clear hE
 repeat (first|refine aw ?_|refine f1 ?_)
 refine bZ ⟨[(3,.ptr 3 0),(1,.ptr 0 0)],wyH p [],4,[],0⟩ ?_ ?_
 ·repeat' (first|refine aw ?_|refine f1 ?_|refine Iw ?_ ?_|refine ag 1 [] hth ?_|refine ag 2 [] hth ?_|refine ag 3 [] hth ?_)
  all_goals first|exact aY (.inl ⟨rfl,Weak.eqs [(1,1),(2,2),(3,3)] rfl rfl rfl rfl rfl rfl rfl rfl rfl rfl⟩)|exact aY (.inl ⟨rfl,Weak.eqs [(1,1),(2,3),(3,2)] rfl rfl rfl rfl rfl rfl rfl rfl rfl rfl⟩)|exact aY (.inl ⟨rfl,Weak.eqs [(1,2),(2,1),(3,3)] rfl rfl rfl rfl rfl rfl rfl rfl rfl rfl⟩)|exact aY (.inl ⟨rfl,Weak.eqs [(1,2),(2,3),(3,1)] rfl rfl rfl rfl rfl rfl rfl rfl rfl rfl⟩)|exact aY (.inl ⟨rfl,Weak.eqs [(1,3),(2,1),(3,2)] rfl rfl rfl rfl rfl rfl rfl rfl rfl rfl⟩)|exact aY (.inl ⟨rfl,Weak.eqs [(1,3),(2,2),(3,1)] rfl rfl rfl rfl rfl rfl rfl rfl rfl rfl⟩)
 repeat (first|refine aw ?_|refine f1 ?_)
 refine cb p.ae.length (wyS p E) (fun _=>True) (cX hS0 ?_) (fun _=>?_) (fun j hj _=>?_)
 ·exact Uw.wM
 rotate_left 1
 ·have he:=hel j hj
  have hs:=hst j hj;clear hel hst hSn hS0 hfm how hlo hth;generalize p.ae[j]=f at *;obtain ⟨fn,fa,fb⟩:=f;have he:(p.ae.map fuL)[(j:Int).toNat]? = some [.str fn,.slice 1 (fa.map fun s=>[Dat.str s]) false,I fb]:=he;simp only at hs
  rcases hs with ⟨⟨v,hv⟩,h2⟩|⟨hv,h2⟩
  ·repeat (first|refine aw ?_|refine f1 ?_|refine m1 ?_)
   exact aJ j trivial (by exact Uw.wM)
  ·repeat (first|refine aw ?_|refine f1 ?_|refine m1 ?_)
   exact aJ j trivial (by exact Uw.wM)
 rw [hSn];clear hel hst hSn hS0 hfm how hlo hth;have hb:=zV p hp;have ht:=zN p hp;have hnm:=hnm hf;have hs:=AU p hp;have hm:=fun h=>AV p hp h;have hmain:nameP p=false->p.ae≠[]:=fun h e=>by
  rw [nameP,Bool.or_eq_false_iff,Bool.or_eq_false_iff,dD,e] at h;simp at h
 have hw:m3 p=(if gk p=true then 2 else if iK p=true then 5 else if nameP p=true then 4 else if o9 p=true then 6 else if lJ p=true then 7 else 0):=by rw [m3,hf];rfl
 cases h1:gk p with
 | true=>
  rw [h1] at hb;rw [show m3 p=2 by rw [hw,h1];rfl];refine aw ?_;refine aC ?_
  repeat (first|refine aw ?_|refine f1 ?_)
  refine dY 6 ?_
  repeat (first|refine aw ?_|refine f1 ?_)
  refine ag 6 [1,2] hb ?_
  repeat (first|refine aw ?_|refine f1 ?_)
  refine jv ?_;exact ak rfl rfl rfl rfl rfl
 | false=>
 rw [h1] at hb
 cases h2:iK p with
 | true=>
  rw [h2] at ht;rw [show m3 p=5 by rw [hw,h1,h2];rfl];refine aw ?_;refine aC ?_
  repeat (first|refine aw ?_|refine f1 ?_)
  refine dY 6 ?_
  repeat (first|refine aw ?_|refine f1 ?_)
  refine ag 6 [1,2] hb ?_
  repeat (first|refine aw ?_|refine f1 ?_)
  refine c8 ?_
  repeat (first|refine aw ?_|refine f1 ?_)
  refine ag 7 [1,2] ht ?_
  repeat (first|refine aw ?_|refine f1 ?_)
  refine jv ?_;exact ak rfl rfl rfl rfl rfl
 | false=>
 rw [h2] at ht
 cases h3:nameP p with
 | true=>
  rw [h3] at hnm;rw [show m3 p=4 by rw [hw,h1,h2,h3];rfl];refine aw ?_;refine aC ?_
  repeat (first|refine aw ?_|refine f1 ?_)
  refine dY 6 ?_
  repeat (first|refine aw ?_|refine f1 ?_)
  refine ag 6 [1,2] hb ?_
  repeat (first|refine aw ?_|refine f1 ?_)
  refine c8 ?_
  repeat (first|refine aw ?_|refine f1 ?_)
  refine ag 7 [1,2] ht ?_
  repeat (first|refine aw ?_|refine f1 ?_)
  refine c8 ?_
  repeat (first|refine aw ?_|refine f1 ?_)
  refine ag 8 [1,2] hnm ?_
  repeat (first|refine aw ?_|refine f1 ?_)
  refine jv ?_;exact ak rfl rfl rfl rfl rfl
 | false=>
 rw [h3] at hnm
 cases h4:o9 p with
 | true=>
  rw [h4] at hs;rw [show m3 p=6 by rw [hw,h1,h2,h3,h4];rfl];refine aw ?_;refine aC ?_
  repeat (first|refine aw ?_|refine f1 ?_)
  refine dY 6 ?_
  repeat (first|refine aw ?_|refine f1 ?_)
  refine ag 6 [1,2] hb ?_
  repeat (first|refine aw ?_|refine f1 ?_)
  refine c8 ?_
  repeat (first|refine aw ?_|refine f1 ?_)
  refine ag 7 [1,2] ht ?_
  repeat (first|refine aw ?_|refine f1 ?_)
  refine c8 ?_
  repeat (first|refine aw ?_|refine f1 ?_)
  refine ag 8 [1,2] hnm ?_
  repeat (first|refine aw ?_|refine f1 ?_)
  refine c8 ?_
  repeat (first|refine aw ?_|refine f1 ?_)
  refine ag 9 [1,2] hs ?_
  repeat (first|refine aw ?_|refine f1 ?_)
  refine jv ?_;exact ak rfl rfl rfl rfl rfl
 | false=>
 rw [h4] at hs;have hm:=hm (hmain h3)
 cases h5:lJ p with
 | true=>
  rw [h5] at hm;rw [show m3 p=7 by rw [hw,h1,h2,h3,h4,h5];rfl];refine aw ?_;refine aC ?_
  repeat (first|refine aw ?_|refine f1 ?_)
  refine dY 6 ?_
  repeat (first|refine aw ?_|refine f1 ?_)
  refine ag 6 [1,2] hb ?_
  repeat (first|refine aw ?_|refine f1 ?_)
  refine c8 ?_
  repeat (first|refine aw ?_|refine f1 ?_)
  refine ag 7 [1,2] ht ?_
  repeat (first|refine aw ?_|refine f1 ?_)
  refine c8 ?_
  repeat (first|refine aw ?_|refine f1 ?_)
  refine ag 8 [1,2] hnm ?_
  repeat (first|refine aw ?_|refine f1 ?_)
  refine c8 ?_
  repeat (first|refine aw ?_|refine f1 ?_)
  refine ag 9 [1,2] hs ?_
  repeat (first|refine aw ?_|refine f1 ?_)
  refine c8 ?_
  repeat (first|refine aw ?_|refine f1 ?_)
  refine ag 10 [1,2] hm ?_
  repeat (first|refine aw ?_|refine f1 ?_)
  refine jv ?_;exact ak rfl rfl rfl rfl rfl
 | false=>
 rw [h5] at hm;rw [show m3 p=0 by rw [hw,h1,h2,h3,h4,h5];rfl];refine aw ?_;refine aC ?_
 repeat (first|refine aw ?_|refine f1 ?_)
 refine dY 6 ?_
 repeat (first|refine aw ?_|refine f1 ?_)
 refine ag 6 [1,2] hb ?_
 repeat (first|refine aw ?_|refine f1 ?_)
 refine c8 ?_
 repeat (first|refine aw ?_|refine f1 ?_)
 refine ag 7 [1,2] ht ?_
 repeat (first|refine aw ?_|refine f1 ?_)
 refine c8 ?_
 repeat (first|refine aw ?_|refine f1 ?_)
 refine ag 8 [1,2] hnm ?_
 repeat (first|refine aw ?_|refine f1 ?_)
 refine c8 ?_
 repeat (first|refine aw ?_|refine f1 ?_)
 refine ag 9 [1,2] hs ?_
 repeat (first|refine aw ?_|refine f1 ?_)
 refine c8 ?_
 repeat (first|refine aw ?_|refine f1 ?_)
 refine ag 10 [1,2] hm ?_
 repeat (first|refine aw ?_|refine f1 ?_)
 refine c8 ?_
 repeat (first|refine aw ?_|refine f1 ?_)
 refine mC ?_
 repeat (first|refine aw ?_|refine f1 ?_)
 exact ak rfl rfl rfl rfl rfl
end Uw.Tryz
