/- N6: Cd Ce Cf Cb Da Db Ck Cg Ch Ci Cj Cl Cm Ck0 Fa Ba Bb Bc Bd Ob Oc Oe Of Og Oh Oi Oj Ok Ol Om On Oo Op Oq (merged by merge2.py from the working texts). -/
import Derived.Test.YtikpfliiodgonaaGreatDoorN4
import Derived.Test.YtikpfliiodgonaaGreatDoorN5
import Derived.Test.YtikpfliiodgonaaGreatDoorN3
import Derived.RangeFuncBound
import Derived.Shelf.Abstract
import Derived.OwnWalkIn
import Derived.TacticsInMore
import Derived.LoopNIn
import Derived.LoopIn
set_option maxRecDepth 100000
set_option maxHeartbeats 4000000
set_option linter.unusedSimpArgs false
set_option linter.unnecessarySimpa false
set_option linter.unusedVariables false
set_option linter.unusedSectionVars false
namespace Uw.Tryz
open Go Uw
end Uw.Tryz
namespace Uw.Tryz
open Go Uw
def vQ (ns:List Nd):Dat:=.slice 5 (ns.map ndL) false
end Uw.Tryz
namespace Uw.Tryz
open Go Uw
structure Lim (p:Pg):Prop where
 nodes:p.nodes.length<100000
 az:p.az.length<100000
 decls:p.decls.length<100000
 of:∀x∈p.nodes,x.of.length<100000
 args:∀f∈p.az,f.args.length<100000
def RR (L:List Int) (n:Nat):List Int:=(List.range n).map fun (k:Nat)=>((L.count (k:Int):Nat):Int)
theorem M9 (L:List Int) (n:Nat):(RR L n).length=n:=by simp [RR]
theorem UY (L:List Int) (n k:Nat) (h:k<n):(RR L n)[k]'(by rw [M9];exact h)=(L.count (k:Int):Nat):=by simp [RR]
def bu (l:List Int):List (List Dat):=l.map fun i=>[I i]
theorem y7 {L:List Int} {n:Nat} {k:Int} (h0:0<=k) (h:k<n):(bu (RR L n))[k.toNat]? = some [I (L.count k:Nat)]:=by
 have hk:k.toNat<n:=by omega
 have hkk:((k.toNat:Nat):Int)=k:=by omega
 rw [bu,abE,aa9 (by rw [M9];exact hk),UY _ _ _ hk,hkk];rfl
structure Wn (p:Pg) (R:Bool):Prop where
 kid:∀(i:Nat) (h:i<p.nodes.length) (k:Int),k∈p.nodes[i].of->¬(0<=k/\k<i)->R=false
 shape:∀(i:Nat) (h:i<p.nodes.length),wJ p.nodes p.nodes[i]=false->R=false
 body:∀(i:Nat) (h:i<p.az.length),GU p.nodes p.az[i]=false->R=false
 time:∀(k:Nat),k<p.nodes.length->(RD p).count (k:Int)≠1->R=false
 all:(∀(i:Nat) (h:i<p.nodes.length),(∀k∈p.nodes[i].of,0<=k/\k<i)/\wJ p.nodes p.nodes[i]=true)->(∀(i:Nat) (h:i<p.az.length),GU p.nodes p.az[i]=true)->(∀(k:Nat),k<p.nodes.length->(RD p).count (k:Int)=1)->R=true
end Uw.Tryz
namespace Uw.Tryz
open Go Uw
theorem Dt:∀(fs:List Fu) (i:Nat) (o:List Int),(CN fs i o).length=o.length
 | [],_,_=>rfl
 | f::fs,i,o=>by rw [CN,Dt fs];simp
theorem y8 {i:Nat}:∀(l:List Int) (o:List Int),(l.foldl (fun o k=>o.set k.toNat (o.getD i 0)) o).length=o.length
 | [],_=>rfl
 | k::l,o=>by rw [acG,y8 l];simp
theorem tG:∀(l:List (Nat×Nd)) (o:List Int),(mP l o).length=o.length
 | [],_=>rfl
 | (i,x)::r,o=>by rw [mP,tG r,wK,y8]
theorem zO (p:Pg):(fw p).length=p.nodes.length:=by rw [fw,tG,Dt];simp
theorem Na {α β:Type}:∀{l:List α} {l' : List β} {x:α},l'.length=l.length->x∈l->∃y,(x,y)∈l.zip l'
 | a::l,[],x,h,_=>by simp at h
 | a::l,b::l',x,h,hx=>by
  rcases abG.1 hx with rfl|hx
  ·exact ⟨b,by simp⟩
  ·obtain ⟨y,hy⟩:=Na (l:=l) (l':=l') (by simpa using h) hx
   exact ⟨y,by simp [hy]⟩
structure May (p:Pg):Prop where
 formed:mO p=true
 bound:RG p=false
 twice:RJ p=false
 name:nameP p=false
 sort:dN p=false
 many:RL p=false
theorem FP {p:Pg} {s:Str} {i:Nat} (h:I0 p s=some i):∃h:i<p.az.length,p.az[i].name=s:=by
 obtain ⟨h1,h2,_⟩:=List.findIdx?_eq_some_iff_getElem.1 h;exact ⟨h1,by simpa using h2⟩
theorem May.names {p:Pg} (h:May p):(p.decls.map (·.name)).Nodup/\(p.az.map (·.name)).Nodup/\∀f∈p.az,RH p [] f.args=false:=by
 have:=h.twice;simp only [RJ,abJ,Bool.not_eq_false',decide_eq_true_eq,acy] at this;exact ⟨this.1.1,this.1.2,fun f hf=>by simpa using this.2 f hf⟩
theorem May.main {p:Pg} (h:May p):∃m,∃hm:m<p.az.length,I0 p M8=some m/\p.az[m].args=[]:=by
 have h1:=h.name;have h2:=h.many;simp only [nameP,abJ] at h1;simp only [RL,abJ,decide_eq_false_iff_not] at h2
 cases hf:I0 p M8 with
 | none=>rw [hf] at h1;simp at h1
 | some m=>
  obtain ⟨hm,_⟩:=FP hf;refine ⟨m,hm,rfl,?_⟩;have:=h2.1;rw [argsAt,hf] at this;simp only [Option.getD_some,List.getD,aa9 hm] at this;exact abf (by omega)
theorem May.call {p:Pg} (h:May p) {x:Nd} (hx:x∈p.nodes) (hk:x.kind=10\/x.kind=11):∃k,∃hk:k<p.az.length,I0 p x.name2=some k/\(x.kind=10->x.of.length=p.az[k].args.length)/\(x.kind=11->p.az[k].args.length=1):=by
 have h2:=h.many;simp only [RL,abJ,decide_eq_false_iff_not,acy] at h2;have h1:=h.name;simp only [nameP,abJ,acy] at h1;have h3:=h2.2 x hx;obtain ⟨o,ho⟩:∃o,(x,o)∈p.nodes.zip (fw p):=Na (zO p) hx;have h4:=h1.1.2 _ ho;simp only [Wm,if_pos hk] at h4
 cases hf:I0 p x.name2 with
 | none=>rw [hf] at h4;simp at h4
 | some k=>
  obtain ⟨hkl,_⟩:=FP hf;refine ⟨k,hkl,rfl,fun h10=>?_,fun h11=>?_⟩
  ·simp [manyN,h10,argsAt,hf,hkl] at h3;exact h3
  ·simp [manyN,h11,argsAt,hf,hkl] at h3;exact h3
theorem Nb {p:Pg}:∀(l seen:List Str),RH p seen l=false->l.Nodup/\(∀a∈l,a∉seen)/\∀a∈l,ny p a=none
 | [],_,_=>⟨adt,by simp,by simp⟩
 | a::r,seen,h=>by
  simp only [RH,abJ,decide_eq_false_iff_not] at h;obtain ⟨h1,h2,h3⟩:=Nb r (a::seen) h.2;refine ⟨List.nodup_cons.2 ⟨fun hm=>h2 a hm (by simp),h1⟩,?_,?_⟩
  ·intro b hb
   rcases abG.1 hb with rfl|hb
   ·exact h.1.2
   ·exact fun hs=>h2 b hb (by simp [hs])
  ·intro b hb
   rcases abG.1 hb with rfl|hb
   ·simpa using h.1.1
   ·exact h3 b hb
def Loc (p:Pg) (a l:List Str):Prop:=(∃t,l=a++t)/\l.Nodup/\∀s∈l,ny p s=none
def Hj (p:Pg) (ls:List (List Str)):Prop:=ls.length=p.az.length/\∀(f:Nat) (h:f<p.az.length),Loc p p.az[f].args (ls.getD f [])
theorem Hj.add {p:Pg} {ls:List (List Str)} (h:Hj p ls) (f:Nat) (s:Str) (hs:ny p s=none):Hj p (addLocal ls f s):=by
 unfold addLocal
 split
 ·exact h
 ·rename_i hm
  refine ⟨by simpa using h.1,fun g hg=>?_⟩;by_cases hgf:g=f
  ·subst hgf
   obtain ⟨⟨t,ht⟩,h2,h3⟩:=h.2 g hg;have e:(ls.set g (ls.getD g []++[s])).getD g []=ls.getD g []++[s]:=by simp [h.1,hg]
   rw [e];refine ⟨⟨t++[s],by rw [ht,ab8]⟩,?_,?_⟩
   ·rw [adf]
    exact ⟨h2,by simp,fun a ha b hb=>by simp at hb;subst hb;exact fun e=>hm (e ▸ ha)⟩
   ·intro b hb
    rcases abr.1 hb with hb|hb
    ·exact h3 b hb
    ·simp at hb;subst hb;exact hs
  ·have e:(ls.set f (ls.getD f []++[s])).getD g []=ls.getD g []:=by simp [List.getD,acN,Ne.symm hgf]
   rw [e];exact h.2 g hg
theorem Hj.go {p:Pg}:∀(r:List (Nd×Int)) (ls:List (List Str)),Hj p ls->Hj p (wL p r ls)
 | [],ls,h=>h
 | (x,o)::r,ls,h=>by
  rw [wL];refine Hj.go r _ ?_
  split
  ·rename_i hl
   refine h.add _ _ ?_;simp only [RE,aa5] at hl;simpa using hl.2
  ·exact h
theorem May.pA {p:Pg} (h:May p):Hj p (mQ p):=by
 refine Hj.go _ _ ⟨by simp,fun f hf=>?_⟩;obtain ⟨h1,_,h3⟩:=Nb _ _ (h.names.2.2 p.az[f] (abg hf));have e:(p.az.map (·.args)).getD f []=p.az[f].args:=by simp [List.getD,hf]
 rw [e];exact ⟨⟨[],by simp⟩,h1,h3⟩
theorem May.lof {p:Pg} (h:May p) (k:Nat) (hk:k<p.az.length):wN p k=(mQ p).getD k []:=by
 rw [wN,if_neg (by simp [h.formed];omega)];simp
theorem May.locals {p:Pg} (h:May p) (k:Nat) (hk:k<p.az.length):Loc p p.az[k].args (wN p k)/\(wN p k).length<=16:=by
 rw [h.lof k hk];refine ⟨h.pA.2 k hk,?_⟩;have:=h.bound;simp only [RG,abJ,acy] at this;have hl:k<(mQ p).length:=by rw [h.pA.1];exact hk
 have:=this.1.2 (mQ p)[k] (abg hl);have e:(mQ p).getD k []=(mQ p)[k]:=by simp [List.getD,hl]
 rw [e];simpa using this
end Uw.Tryz
namespace Uw.Tryz
open Go Uw
structure Down (n:Nat) (l:List (Nat×Nd)):Prop where
 dec:l.Pairwise fun a c=>c.1<a.1
 kid:∀y∈l,y.1<n/\∀k∈y.2.of,0<=k/\k<(y.1:Int)
 once:(l.flatMap fun y=>y.2.of).Nodup
structure aaC (p:Pg):Prop where
 body:∀(i:Nat) (h:i<p.az.length),(fw p).getD p.az[i].body.toNat 0=(i:Int)
 kid:∀(i:Nat) (h:i<p.nodes.length) (j:Nat),(j:Int)∈p.nodes[i].of->(fw p).getD j 0=(fw p).getD i 0
end Uw.Tryz
namespace Uw.Tryz
open Go Uw
theorem Jp {p:Pg} (h:mO p=true) (i:Nat) (hi:i<p.nodes.length):(∀k∈p.nodes[i].of,0<=k/\k<(i:Int))/\wJ p.nodes p.nodes[i]=true:=by
 have h1:=h;simp only [mO,aa5] at h1;have key:∀(l:List Nd) (b:Nat),Be p.nodes b l=true->∀(i:Nat) (hi:i<l.length),(∀k∈l[i].of,0<=k/\k<((b+i:Nat):Int))/\wJ p.nodes l[i]=true:=by
  intro l
  induction l with
  | nil=>intro b _ i hi;simp at hi
  | cons y l ih=>
   intro b hb i hi;simp only [Be,aa5] at hb
   cases i with
   | zero=>
    have h2:=hb.1;simp only [RB,aa5,abe] at h2;exact ⟨fun k hk=>by simpa using h2.1 k hk,h2.2⟩
   | succ i=>
    obtain ⟨h3,h4⟩:=ih (b+1) hb.2 i (by simpa using hi);exact ⟨fun k hk=>by have:=h3 k hk;omega,h4⟩
 obtain ⟨h3,h4⟩:=key p.nodes 0 h1.1.1 i hi;exact ⟨fun k hk=>by have:=h3 k hk;omega,h4⟩
theorem zP {p:Pg} (h:mO p=true) (i:Nat) (hi:i<p.az.length):0<=p.az[i].body/\p.az[i].body<p.nodes.length/\GR p.nodes p.az[i].body=18:=by
 simp only [mO,aa5,abe] at h;have:=h.1.2 _ (abg hi);simp only [GU,aa5,decide_eq_true_eq] at this;exact ⟨this.1.1,this.1.2,this.2⟩
structure Ups (p:Pg) (own:List Int):Prop where
 len:own.length=p.nodes.length
 body:∀(i:Nat) (h:i<p.az.length) (k:Nat),k<p.nodes.length->p.az[i].body=(k:Int)->own.getD k 0=(i:Int)
 kid:∀(i:Nat) (h:i<p.nodes.length) (k:Nat),(k:Int)∈p.nodes[i].of->own.getD k 0=own.getD i 0/\k<i
 up:∀(k:Nat),k<p.nodes.length->(∀(i:Nat) (hi:i<p.az.length),p.az[i].body≠(k:Int))->(∀(i:Nat) (hi:i<p.nodes.length),(k:Int)∉p.nodes[i].of)->False
end Uw.Tryz
namespace Uw.Tryz
open Go Uw
end Uw.Tryz
namespace Go.Proofs
open Go.RowKit Go.Shelf
attribute [local go_sem] Oper.semAt_some
theorem Tryz.Jq (l Bs b off len cap:Nat) (C:Nat->Value) (hreach:len<1000000) (J:Nat->World->Prop)
  (hY:∀k W1,J k W1->k<len->YieldAt Fence.wide 0 Tryz.prog l #[.int .i64 ((len - 1 - k:Nat):Int),.agg #[C ((len - 1 - k) * 5),C ((len - 1 - k) * 5+1),C ((len - 1 - k) * 5+2),C ((len - 1 - k) * 5+3),C ((len - 1 - k) * 5+4)]] W1 fun e W'=>e = .returned (.bool true)/\J (k+1) W')
  (hOK:∀k W1,J k W1->W1.cell? ⟨Bs,0,none⟩=some (.slice (some ⟨b,off,none⟩) len cap)/\∀m,m<len * 5->W1.cell? ⟨b,off+m,none⟩=some (C m))
  (W:World) (h0:J 0 W) :
  CallsIn Fence.wide 0 Tryz.prog 194 #[.func (.yield l) #[] #[],.pointer (some ⟨Bs,0,none⟩)] W fun e W'=>(∃v,e = .returned v)/\J len W':=by
 refine callsIn_of_wp Tryz.func194 rfl trivial ?_ rfl;simp only [Tryz.ntmps194,List.size_toArray,List.length_cons,List.length_nil,Nat.reduceAdd,Nat.reduceSub,Array.replicate_succ,Array.replicate_zero,List.push_toArray,List.append_toArray,List.nil_append,List.cons_append];have hB:=(hOK 0 W h0).1
 gi_wp2
 gi_loopw [3] (fun i wr=>∃k:Nat,k<=len/\i = .int .i64 ((len:Int) - 1 - k)/\J k wr) (fun i _=>(intOf i+1).toNat)
 case atStart=>exact ⟨0,Nat.zero_le _,by simp,h0⟩
 case round=>
  obtain ⟨k,hk,rfl,hJs⟩:=hrel;obtain ⟨hB2,hC⟩:=hOK k wr hJs;by_cases hlt:k<len
  ·obtain ⟨fn,tmps,assign,body,hy,hR⟩:=hY k wr hJs hlt
   have he:((len - 1 - k:Nat):Int)=(len:Int) - 1 - k:=by omega
   rw [he] at hy;have c0:wr.cell? ⟨b,off+(len - 1 - k) * 5,none⟩=some (C ((len - 1 - k) * 5)):=hC _ (by omega);have c1:wr.cell? ⟨b,off+(len - 1 - k) * 5+1,none⟩=some (C ((len - 1 - k) * 5+1)):=by have:=hC ((len - 1 - k) * 5+1) (by omega);rwa [<- Nat.add_assoc] at this
   have c2:wr.cell? ⟨b,off+(len - 1 - k) * 5+2,none⟩=some (C ((len - 1 - k) * 5+2)):=by have:=hC ((len - 1 - k) * 5+2) (by omega);rwa [<- Nat.add_assoc] at this
   have c3:wr.cell? ⟨b,off+(len - 1 - k) * 5+3,none⟩=some (C ((len - 1 - k) * 5+3)):=by have:=hC ((len - 1 - k) * 5+3) (by omega);rwa [<- Nat.add_assoc] at this
   have c4:wr.cell? ⟨b,off+(len - 1 - k) * 5+4,none⟩=some (C ((len - 1 - k) * 5+4)):=by have:=hC ((len - 1 - k) * 5+4) (by omega);rwa [<- Nat.add_assoc] at this
   gi_wp2
   refine ⟨rfl,hR.mono ?_⟩;rintro e W3 ⟨rfl,hJ3⟩
   gi_wp2
   go_roundw
   case rel=>exact ⟨k+1,by omega,by simp;omega,hJ3⟩
   case measure=>simp [intOf];omega
  ·obtain rfl:k=len:=by omega
   gi_wp2
   go_end0
   exact ⟨⟨_,rfl⟩,hJs⟩
theorem Tryz.Hk (l Bs:Nat) (x:Option Addr) (J:Nat->World->Prop) (hOK:∀k W1,J k W1->W1.cell? ⟨Bs,0,none⟩=some (.slice x 0 0)) (W:World) (h0:J 0 W) :
  CallsIn Fence.wide 0 Tryz.prog 194 #[.func (.yield l) #[] #[],.pointer (some ⟨Bs,0,none⟩)] W fun e W'=>(∃v,e = .returned v)/\J 0 W':=by
 refine callsIn_of_wp Tryz.func194 rfl trivial ?_ rfl;simp only [Tryz.ntmps194,List.size_toArray,List.length_cons,List.length_nil,Nat.reduceAdd,Nat.reduceSub,Array.replicate_succ,Array.replicate_zero,List.push_toArray,List.append_toArray,List.nil_append,List.cons_append];have hB:=hOK 0 W h0
 gi_wp2
 gi_loopw [3] (fun i wr=>i = .int .i64 (-1)/\J 0 wr) (fun i _=>0)
 case atStart=>exact ⟨rfl,h0⟩
 case round=>
  obtain ⟨rfl,hJs⟩:=hrel
  gi_wp2
  go_end0
  exact ⟨⟨_,rfl⟩,hJs⟩
end Go.Proofs
namespace Uw.Tryz
open Go Uw Go.RowKit
theorem Jr {w:World} {J:Nat->Nat->Prop} {b k:Nat}:∀{xs:List (List Dat)} {o:Nat},bY w J b k o xs->∀(i:Nat) (h:i<xs.length),du w J b (o+i * k) xs[i]
 | x::xs,o,h,0,hi=>by simpa using h.2.1
 | x::xs,o,h,i+1,hi=>by
  have:=Jr h.2.2 i (by simpa using hi);rw [show o+(i+1) * k=o+k+i * k by rw [abo];omega];exact this
structure mV (ns:List Nd) (b off:Nat) (C:Nat->Value) (c:Cx):Prop where
 rel:∀(i:Nat) (h:i<ns.length),du c.w (Imm c) b (off+i * 5) (ndL ns[i])
 cell:∀m,m<ns.length * 5->c.w.cell? ⟨b,off+m,none⟩=some (C m)
 imm:∀m,m<ns.length * 5->Imm c b (off+m)
theorem mV.of [Glob] {ns:List Nd} {b off:Nat} {c:Cx} (h:∀(i:Nat) (h:i<ns.length),du c.w (Imm c) b (off+i * 5) (ndL ns[i])):mV ns b off (fun m=>(c.w.cell? ⟨b,off+m,none⟩).getD undef) c:=by
 have key:∀m,m<ns.length * 5->(∃v,c.w.cell? ⟨b,off+m,none⟩=some v)/\Imm c b (off+m):=by
  intro m hm;have hi:m / 5<ns.length:=by omega
  obtain ⟨⟨v0,a0,i0,_⟩,⟨v1,a1,i1,_⟩,⟨v2,a2,i2,_⟩,⟨v3,a3,i3,_⟩,⟨v4,a4,i4,_⟩,_⟩:=h (m / 5) hi;have hm5:m % 5=0\/m % 5=1\/m % 5=2\/m % 5=3\/m % 5=4:=by omega
  rcases hm5 with e|e|e|e|e
  ·rw [show off+m=off+m / 5 * 5 by omega];exact ⟨⟨v0,a0⟩,i0⟩
  ·rw [show off+m=off+m / 5 * 5+1 by omega];exact ⟨⟨v1,a1⟩,i1⟩
  ·rw [show off+m=off+m / 5 * 5+1+1 by omega];exact ⟨⟨v2,a2⟩,i2⟩
  ·rw [show off+m=off+m / 5 * 5+1+1+1 by omega];exact ⟨⟨v3,a3⟩,i3⟩
  ·rw [show off+m=off+m / 5 * 5+1+1+1+1 by omega];exact ⟨⟨v4,a4⟩,i4⟩
 refine ⟨h,fun m hm=>?_,fun m hm=>(key m hm).2⟩;obtain ⟨v,hv⟩:=(key m hm).1;rw [hv];rfl
theorem mV.agg [Glob] {ns:List Nd} {b off:Nat} {C:Nat->Value} {c:Cx} (h:mV ns b off C c) (i:Nat) (hi:i<ns.length):aH c.w (Imm c) (.agg (ndL ns[i])) (.agg #[C (i * 5),C (i * 5+1),C (i * 5+2),C (i * 5+3),C (i * 5+4)]):=by
 obtain ⟨⟨v0,a0,_,_,r0⟩,⟨v1,a1,_,_,r1⟩,⟨v2,a2,_,_,r2⟩,⟨v3,a3,_,_,r3⟩,⟨v4,a4,_,_,r4⟩,_⟩:=h.rel i hi;have e:∀(m:Nat) (v:Value),m<5->c.w.cell? ⟨b,off+i * 5+m,none⟩=some v->v=C (i * 5+m):=by
  intro m v hm hv;have:=h.cell (i * 5+m) (by omega);rw [<- acP,hv] at this;injection this
 obtain rfl:=e 0 v0 (by omega) a0;obtain rfl:=e 1 v1 (by omega) a1;obtain rfl:=e 2 v2 (by omega) a2;obtain rfl:=e 3 v3 (by omega) a3;obtain rfl:=e 4 v4 (by omega) a4;exact ⟨_,rfl,_,_,rfl,r0,_,_,rfl,r1,_,_,rfl,r2,_,_,rfl,r3,_,_,rfl,r4,rfl⟩
def Nc (ns:List Nd) (b off:Nat) (C:Nat->Value):Fr where
 K:=0
 p:=mV ns b off C
 ok:=fun c c' he h=>⟨fun i hi=>du.keep he.keeps _ _ _ (h.rel i hi),fun m hm=>((he.keeps b _ (h.imm m hm)).2).trans (h.cell m hm),fun m hm=>(he.keeps b _ (h.imm m hm)).1⟩
end Uw.Tryz
namespace Uw.Tryz
open Go Uw Go.RowKit
abbrev pgV (p:Pg):Blk:=.var [.d (.slice 3 (p.decls.map YW) false),.d (.slice 3 (p.az.map fuL) false),.d (vQ p.nodes)]
abbrev owR:jd:=[(3,.ptr 2 0),(1,.ptr 0 0)]
abbrev owH (p:Pg) (o:List (List Dat)):Heap:=[(2,.var [.ref 1 0 0 p.nodes.length]),(1,.mt 1 0 o),(0,pgV p)]
def owF (p:Pg) (j:Nat):List Int:=CN (p.az.take j) 0 (List.replicate p.nodes.length 0)
theorem FQ:∀(fs:List Fu) (f:Fu) (b:Nat) (o:List Int),CN (fs++[f]) b o=(CN fs b o).set f.body.toNat ((b+fs.length:Nat):Int)
 | [],f,b,o=>by simp [CN]
 | g::fs,f,b,o=>by
  rw [acp,CN,CN,FQ fs f]
  congr 2
  simp;omega
theorem Nh (p:Pg) (j:Nat):(owF p j).length=p.nodes.length:=by rw [owF,Dt];simp
theorem RS (p:Pg) (j:Nat) (h:j<p.az.length):owF p (j+1)=(owF p j).set p.az[j].body.toNat (j:Int):=by
 rw [owF,owF,abw h,FQ];simp;congr 1;omega
theorem Bf {o:List Int} {k:Int} (h:k.toNat<o.length):∃c,(bu o)[0+k.toNat]? = some [I c]/\c=o.getD k.toNat 0:=by
 refine ⟨o.getD k.toNat 0,?_,rfl⟩;rw [abt,bu,abE,aa9 h];simp [List.getD,h]
theorem Js {o:List Int} {k:Nat} {c v:Int}:(bu o).set (0+k) (setAt [I c] 0 [I v])=bu (o.set k v):=by
 rw [abt,bu,bu,abI];rfl
def owK (p:Pg) (k:Nat):List Int:=mP ((idx 0 p.nodes).reverse.take k) (owF p p.az.length)
theorem UZ (p:Pg) (k:Nat):(owK p k).length=p.nodes.length:=by rw [owK,tG,Nh]
theorem yf:∀(l:List (Nat×Nd)) (y:Nat×Nd) (o:List Int),mP (l++[y]) o=wK (mP l o) y.1 y.2
 | [],y,o=>rfl
 | x::l,y,o=>by rw [acp,mP,mP,yf l]
theorem yg {α:Type}:∀(l:List α) (b:Nat),(idx b l).length=l.length
 | [],_=>rfl
 | x::l,b=>by rw [idx,abp,abp,yg l]
theorem Ni {α:Type}:∀(l:List α) (b i:Nat) (h:i<l.length),(idx b l)[i]'(by rw [yg];exact h)=(b+i,l[i])
 | x::l,b,0,h=>rfl
 | x::l,b,i+1,h=>by
  have:=Ni l (b+1) i (by simpa using h);simp only [idx,acU];rw [this,show b+1+i=b+(i+1) by omega]
theorem RU (p:Pg) (k:Nat) (h:k<p.nodes.length):owK p (k+1)=wK (owK p k) (p.nodes.length - 1 - k) p.nodes[p.nodes.length - 1 - k]:=by
 have hl:((idx 0 p.nodes).reverse).length=p.nodes.length:=by rw [List.length_reverse,yg]
 rw [owK,owK,abw (by rw [hl];exact h),yf,List.getElem_reverse];have:=Ni p.nodes 0 (p.nodes.length - 1 - k) (by omega);simp only [yg];rw [this];simp
theorem U0 (p:Pg):owK p p.nodes.length=fw p:=by
 rw [owK,fw,aa7 (by rw [List.length_reverse,yg];exact aa8 _),owF,aa7 (aa8 _)]
theorem Z2 (p:Pg):WT P0 (fun e s=>e = .normal/\Weak s ⟨[(1,.ptr 0 0)],[(0,pgV p)],1,[],0⟩) (exec oN (pq [pgD p]) Tree.done):=by
 repeat refine aw ?_
 refine aj ⟨rfl,?_⟩;exact Uw.wM
theorem Z3 (p:Pg) (hn:p.nodes.length<100000):WT P0 (fun e s=>e = .normal/\Weak s ⟨owR,owH p (bu (owF p 0)),3,[],0⟩) (exec oO ⟨[(1,.ptr 0 0)],[(0,pgV p)],1,[],0⟩ Tree.done):=by
 have hnl:(p.nodes.map ndL).length=p.nodes.length:=by simp
 have e0:List.replicate (((p.nodes.map ndL).length:Nat):Int).toNat [I 0]=bu (owF p 0):=by
  rw [owF,List.take_zero,CN,bu,List.map_replicate,hnl];simp
 have hmk:(decide ((0:Int)<=((p.nodes.map ndL).length:Nat))&&decide ((((p.nodes.map ndL).length:Nat):Int)<=((p.nodes.map ndL).length:Nat))&&decide ((((p.nodes.map ndL).length:Nat):Int) * ((8:Nat):Int)<=70368744177664))=true:=by simp;omega
 generalize bu (owF p 0)=O at *
 repeat refine aw ?_
 refine aj ⟨rfl,?_⟩;rw [<- e0];exact Uw.wM
theorem Z4 (p:Pg) (hp:Lim p) (hb:∀(i:Nat) (h:i<p.az.length),0<=p.az[i].body/\p.az[i].body<p.nodes.length):WT P0 (fun e s=>e = .normal/\Weak s ⟨owR,owH p (bu (owF p p.az.length)),3,[],0⟩) (exec oP ⟨owR,owH p (bu (owF p 0)),3,[],0⟩ Tree.done):=by
 have hfl:(p.az.map fuL).length=p.az.length:=by simp
 have hF:=hp.az;have hN:=hp.nodes;obtain ⟨O,hO⟩:∃O:Nat->List (List Dat),∀j,O j=bu (owF p j):=⟨_,fun _=>rfl⟩
 have hstep:∀(j:Nat) (h:j<p.az.length),∃c:Int,(O j)[0+p.az[j].body.toNat]? = some [I c]/\(O j).set (0+p.az[j].body.toNat) (setAt [I c] 0 [I j])=O (j+1):=by
  intro j h;have:=hb j h;obtain ⟨c,g1,g2⟩:=Bf (o:=owF p j) (k:=p.az[j].body) (by rw [Nh];omega);exact ⟨c,by rw [hO];exact g1,by rw [hO,hO,Js,RS p j h]⟩
 have hel:∀(j:Nat) (h:j<p.az.length),(p.az.map fuL)[(j:Int).toNat]? = some (fuL p.az[j]):=by intro j h;simp [h]
 rw [<- hO,<- hO]
 repeat refine aw ?_
 refine eU p.az.length (fun j:Nat=>⟨[(17,.d (I j)),(16,.d (I ((p.az.map fuL).length:Nat))),(15,.d (.slice 3 (p.az.map fuL) false)),(3,.ptr 2 0),(1,.ptr 0 0)],owH p (O j),3,[],0⟩) (fun _=>True) (by exact Uw.wM) (fun _=>?_) (fun j hj _=>?_)
 ·repeat refine aw ?_
  refine aZ ?_;refine aj ⟨rfl,?_⟩;exact Uw.wM
 have he:=hel j hj;have hs:=hstep j hj;have hbj:=hb j hj;clear hstep hel hO hb;generalize p.az[j]=f at *;obtain ⟨fn,fa,fb⟩:=f;have he:(p.az.map fuL)[(j:Int).toNat]? = some [.str fn,Wi fa,I fb]:=he;obtain ⟨c,g1,g2⟩:=hs;simp only at *;obtain ⟨b1,b2⟩:=hbj
 repeat refine aw ?_
 exact eK j trivial (by exact Uw.wM)
theorem Z5 (p:Pg) (o:List (List Dat)):WT P0 (fun e s=>e = .normal/\Weak s ⟨[(30,.func cj [] [.ptr 3 0]),(3,.ptr 2 0),(1,.ptr 0 0)],(3,.var [.d (vQ p.nodes)])::owH p o,4,[],0⟩) (exec oQ ⟨owR,owH p o,3,[],0⟩ Tree.done):=by
 repeat refine aw ?_
 refine bM nI rfl ?_
 repeat refine aw ?_
 refine dL rfl rfl ?_
 repeat refine aw ?_
 refine aj ⟨rfl,?_⟩;exact Uw.wM
end Uw.Tryz
namespace Uw.Tryz
open Go Uw Go.RowKit
abbrev owS (p:Pg) (k:Nat):St:=⟨owR,owH p (bu (owK p k)),3,[],0⟩
def owN (p:Pg) (k:Nat):Nd:=p.nodes.getD (p.nodes.length - 1 - k) default
abbrev owP (p:Pg) (k:Nat):jd:=[(32,.d (.agg (ndL (owN p k)))),(31,.d (I ((p.nodes.length - 1 - k:Nat):Int)))]
theorem Z6 (p:Pg) (hp:Lim p) (k:Nat) (hk:k<p.nodes.length) (hx:∀j∈(owN p k).of,0<=j/\j<((p.nodes.length - 1 - k:Nat):Int)) :
  WT P0 (fun e s=>e = .normal/\WT P0 (fun e s'=>e = .normal/\s'.defers=[]/\Weak ⟨owR,s'.heap,s'.next,[],0⟩ (owS p (k+1))) (exec fP s Tree.done)) (exec eN ⟨owP p k++owR,(owS p k).heap,(owS p k).next,[],(owS p k).next⟩ Tree.done):=by
 have hlim:=hp.of (owN p k) (by rw [owN];simp [List.getD,show p.nodes.length - 1 - k<p.nodes.length by omega]);have hN:=hp.nodes;obtain ⟨i,hi⟩:∃i,p.nodes.length - 1 - k=i:=⟨_,rfl⟩
 have hin:i<p.nodes.length:=by omega
 have hnext:owK p (k+1)=wK (owK p k) i (owN p k):=by
  rw [RU p k hk,owN];simp [List.getD,hi,hin]
 rw [hi] at hx;obtain ⟨B,hB⟩:∃B:Nat->List Int,∀j,B j=((owN p k).of.take j).foldl (fun o k=>o.set k.toNat (o.getD i 0)) (owK p k):=⟨_,fun _=>rfl⟩
 obtain ⟨O,hO⟩:∃O:Nat->List (List Dat),∀j,O j=bu (B j):=⟨_,fun _=>rfl⟩
 have hBl:∀j,(B j).length=p.nodes.length:=fun j=>by rw [hB,y8,UZ]
 have e0:bu (owK p k)=O 0:=by rw [hO,hB];rfl
 have e1:bu (owK p (k+1))=O (owN p k).of.length:=by rw [hO,hB,abZ,hnext];rfl
 have hstep:∀(j:Nat) (h:j<(owN p k).of.length),∃u v:Int,(O j)[0+(i:Int).toNat]? = some [I u]/\(O j)[0+(owN p k).of[j].toNat]? = some [I v]/\(O j).set (0+(owN p k).of[j].toNat) (setAt [I v] 0 [I u])=O (j+1):=by
  intro j h;have h1:=hx _ (abg h);obtain ⟨u,u1,u2⟩:=Bf (o:=B j) (k:=(i:Int)) (by rw [hBl];omega);obtain ⟨v,v1,v2⟩:=Bf (o:=B j) (k:=(owN p k).of[j]) (by rw [hBl];omega);refine ⟨u,v,by rw [hO];exact u1,by rw [hO];exact v1,?_⟩;rw [hO,hO,Js,hB (j+1),abw h,List.foldl_append,<- hB,u2];rfl
 have hel:∀(j:Nat) (h:j<(owN p k).of.length),((owN p k).of.map fun i=>[I i])[(j:Int).toNat]? = some [I (owN p k).of[j]]:=by intro j h;simp [h]
 have hol:((owN p k).of.map fun i=>[I i]).length=(owN p k).of.length:=by simp
 have hlt:∀(j:Nat) (h:j<(owN p k).of.length),0<=(owN p k).of[j]/\(owN p k).of[j]<(i:Int):=fun j h=>hx _ (abg h);have goal2:∀T0 T1:List (List Dat),bu (owK p k)=T0->bu (owK p (k+1))=T1->(WT P0 (fun e s=>e = .normal/\WT P0 (fun e s'=>e = .normal/\s'.defers=[]/\Weak ⟨owR,s'.heap,s'.next,[],0⟩ ⟨owR,owH p T1,3,[],0⟩) (exec fP s Tree.done)) (exec eN ⟨[(32,.d (.agg (ndL (owN p k)))),(31,.d (I (i:Int)))]++owR,owH p T0,3,[],3⟩ Tree.done))->
   WT P0 (fun e s=>e = .normal/\WT P0 (fun e s'=>e = .normal/\s'.defers=[]/\Weak ⟨owR,s'.heap,s'.next,[],0⟩ (owS p (k+1))) (exec fP s Tree.done)) (exec eN ⟨owP p k++owR,(owS p k).heap,(owS p k).next,[],(owS p k).next⟩ Tree.done):=by
  intro T0 T1 h0 h1 h;rw [<- h0,<- h1,<- hi] at h;exact h
 refine goal2 _ _ e0 e1 ?_;clear goal2 hB hO hBl hnext hx e0 e1;generalize owN p k=x at *;obtain ⟨xk,xn,xs,xt,xo⟩:=x;simp only at *;show WT P0 _ (exec eN ⟨[(32,.d (.agg [I xk,I xn,.str xs,.str xt,ae xo])),(31,.d (I (i:Int)))]++owR,owH p (O 0),3,[],3⟩ Tree.done)
 repeat refine aw ?_
 refine aj ⟨rfl,?_⟩
 repeat refine aw ?_
 refine eU xo.length (fun j:Nat=>⟨[(36,.d (I j)),(35,.d (I ((xo.map fun i=>[I i]).length:Nat))),(34,.d (ae xo)),(6,.d (I i)),(3,.ptr 2 0),(1,.ptr 0 0)],owH p (O j),3,[],3⟩) (fun _=>True) (by exact Uw.wM) (fun _=>?_) (fun j hj _=>?_)
 ·repeat refine aw ?_
  refine aZ ?_;refine aj ⟨rfl,rfl,?_⟩;exact Uw.wM
 have he:=hel j hj;have hs:=hstep j hj;have hbj:=hlt j hj;clear hstep hel hlt;generalize xo[j]=y at *;obtain ⟨u,v,g1,g2,g3⟩:=hs;obtain ⟨b1,b2⟩:=hbj
 repeat refine aw ?_
 exact eK j trivial (by exact Uw.wM)
theorem RV {c:Cx} {R:jd} {t:Array Value} {d:Nat} {v:V} {x:Value} (hr:mI c R t) (hd:d<t.size) (hv:aD c v x):mI c ((d,v)::R) (t.setIfInBounds d x):=by
 intro i u hu;rw [aE] at hu;by_cases hi:d=i
 ·subst hi
  rw [if_pos rfl] at hu;injection hu with hu;subst hu
  rw [abP,Array.getElem?_setIfInBounds_self_of_lt hd];exact hv
 ·rw [if_neg hi] at hu
  rw [abP,Array.getElem?_setIfInBounds_ne hi,<- abP];exact hr i u hu
theorem Jt (p:Pg) (hf:mO p=true) (hp:Lim p) {c1:Cx} {w00:World} {a:Act} {gs:Fr} {Bs:Nat} {C:Nat->Value} {OK:World->Prop} (hg:a.eval (.tmp 30) = .func (.func cj) #[] #[.pointer (some ⟨Bs,0,none⟩)])
  (hgs:∀c:Cx,gs.p c->∀(i:Nat) (h:i<p.nodes.length),aH c.w (Imm c) (.agg (ndL p.nodes[i])) (.agg #[C (i * 5),C (i * 5+1),C (i * 5+2),C (i * 5+3),C (i * 5+4)]))
  (hOK:∀c:Cx,gs.p c->(∀b,c1.J0.X b->c.w.heap[b]? = c1.w.heap[b]?)->OK c.w)
  (hit:Iter P0 cj #[.pointer (some ⟨Bs,0,none⟩)] (fun k=>#[.int .i64 ((p.nodes.length - 1 - k:Nat):Int),.agg #[C ((p.nodes.length - 1 - k) * 5),C ((p.nodes.length - 1 - k) * 5+1),C ((p.nodes.length - 1 - k) * 5+2),C ((p.nodes.length - 1 - k) * 5+3),C ((p.nodes.length - 1 - k) * 5+4)]]) p.nodes.length OK)
  (r:Rel c1 w00 49 gs (owS p 0) a) {Q:Exit->Act->World->Prop} (hdone:∀(c:Cx),c.B=c1.B->c.J0=(c1.others fun b=>b=c1.w.heap.size\/b=c1.w.heap.size+1).J0->Rel c c.w 49 gs (owS p p.nodes.length) a->Below c1.B c1.w c.w->c.w.heap[c1.w.heap.size]? = some (.deferred (some []))->
   Q .normal { a with defers:={ target:=.collected c1.w.heap.size,args:=#[] }::a.defers } c.w):(Code.rangeFunc (.tmp 30) #[31,32] (cL (cL (cR (cL (cR (cR (cR (fW P0 bn)))))))) (cR (cL (cR (cL (cR (cR (cR (fW P0 bn))))))))).wp P0 Q a c1.w:=by
 have hN:=hp.nodes;have hat:∀(k:Nat) (h:k<p.nodes.length),owN p k=p.nodes[p.nodes.length - 1 - k]'(by omega):=fun k h=>by rw [owN];simp [List.getD,show p.nodes.length - 1 - k<p.nodes.length by omega]
 refine Q5 hg (Go.Proofs.enters_of Go.Proofs.Tryz.func194 (by kernel_rfl) rfl) p.nodes.length _ (fun k=>rfl) owR 0 (owS p) (fun k=>⟨rfl,rfl,rfl⟩) r OK hOK hit xP xQ (by kernel_rfl) (by kernel_rfl) (owP p) ?_ ?_ hdone
 ·intro k c hk hgp hr
  have hsz:a.tmps.size=49:=r.size;have h1:aD c (.d (I ((p.nodes.length - 1 - k:Nat):Int))) (.int .i64 ((p.nodes.length - 1 - k:Nat):Int)):=by
   show aH _ _ _ _;simp only [aH]
  have h2:=hgs c hgp (p.nodes.length - 1 - k) (by omega);rw [<- hat k hk] at h2;have he:∀(x1 x2:Value),(#[31,32].zip #[x1,x2]).foldl (fun t ((p,v):Nat×Value)=>t.setIfInBounds p v) a.tmps=(a.tmps.setIfInBounds 31 x1).setIfInBounds 32 x2:=fun _ _=>by simp only [List.zip_toArray,List.foldl_toArray];rfl
  show mI c (owP p k++owR) ((#[31,32].zip #[_,_]).foldl (fun t ((p,v):Nat×Value)=>t.setIfInBounds p v) a.tmps);rw [he];exact RV (RV hr (show 31<a.tmps.size by omega) h1) (show 32<(a.tmps.setIfInBounds 31 _).size by simp;omega) (v:=.d (.agg (ndL (owN p k)))) h2
 ·intro k hk
  refine Z6 p hp k hk ?_;rw [hat k hk];exact (Jp hf _ (by omega)).1
theorem Du (p:Pg) (hf:mO p=true) (hp:Lim p):Ret P0 bn [pgD p] (ae (fw p)):=by
 have hN:=hp.nodes;refine OJ AL (abh rfl) ?_;rintro fn w J c a hres hB hJ rfl hd r;refine A5 xK r _ (Z2 p) ?_;intro c2 a2 b2 j2 r2;refine A5 xM r2 _ (Z3 p hN) ?_;intro c3 a3 b3 j3 r3;refine A5 xN r3 _ (Z4 p hp fun i h=>⟨(zP hf i h).1,(zP hf i h).2.1⟩) ?_;intro c4 a4 b4 j4 r4;refine wp_seq (A5 xO r4 _ (Z5 p _) ?_);intro c5 a5 b5 j5 r5;have hB5:c5.B=c.w.heap.size:=b5.trans (b4.trans (b3.trans (b2.trans hB)));have hJ5:c5.J0=⟨J,fun _=>False⟩:=j5.trans (j4.trans (j3.trans (j2.trans hJ)));have hd5:a5.defers=[]:=r5.defers
 -- the iterator's value,and its box
 obtain ⟨us,vs,hfv,hus,hvs⟩:=r5.regs 30 (.func cj [] [.ptr 3 0]) rfl;obtain ⟨v,vs',rfl,⟨_,hv⟩,hvs'⟩:=hvs;simp only [aC] at hus hvs';subst hus hvs' hv;obtain ⟨ws,e,hbox,hbv⟩:=r5.hrel.blk 3 (.var [.d (vQ p.nodes)]) (by rw [r5.heap];rfl);obtain ⟨sv,ws',hws,hsv,Y1⟩:=hbv;simp only [aC] at Y1;subst Y1;have hws:ws = #[sv]:=by rw [<- Array.toList_inj];exact hws
 subst hws
 -- the box is forgotten,and nobody's from here on
 have hwk:zw (da []) ⟨[(30,.func cj [] [.ptr 3 0]),(3,.ptr 2 0),(1,.ptr 0 0)],(3,.var [.d (vQ p.nodes)])::owH p (bu (owF p p.az.length)),4,[],0⟩ (owS p 0):=by
  refine zw.of ?_ ?_ rfl rfl ?_ rfl rfl<;>repeat' first|exact trivial|refine ⟨⟨_,rfl,?_⟩,?_⟩|exact Or.inl ⟨rfl,rfl⟩|exact qQ rfl rfl|refine ⟨⟨Or.inl ⟨_,rfl,?_⟩,rfl⟩,?_⟩|refine And.intro ?_ ?_
 obtain ⟨r6,hgb⟩:=r5.forget hwk (id0:=3) rfl rfl;have hBs:(c5.pl 3).gb<c5.w.heap.size:=(ab3.1 hbox).1;have hBB:c5.B<=(c5.pl 3).gb:=by
  have:=r5.hrel.ge 3 (.var [.d (vQ p.nodes)]) (by rw [r5.heap];rfl) trivial;exact aco fun h=>this (.inl h)
 have r7:=r6.others (fun b=>b=(c5.pl 3).gb) (fun b hb=>by subst hb;exact hBs) (fun b hb id blk hl hp=>by subst hb;exact hgb id blk hl hp);generalize hBe:(c5.pl 3).gb=Bs at *;obtain ⟨c7,hc7⟩:∃c7,c7=(c5.weak (da []) (owS p 0).heap).others (fun b=>b=Bs):=⟨_,rfl⟩
 rw [<- hc7] at r7;have hw7:c7.w=c5.w:=by rw [hc7];rfl
 have hB7:c7.B=c.w.heap.size:=by rw [hc7];exact hB5
 have hJ7:c7.J0=⟨fun b o=>J b o\/b=Bs,fun b=>False\/b=Bs⟩:=by
  rw [hc7];show (⟨fun b o=>c5.J0.J b o\/b=Bs,fun b=>c5.J0.X b\/b=Bs⟩:JX)=_;rw [hJ5]
 have Z7:aH c7.w (Imm c7) (vQ p.nodes) sv:=by
  have h1:aH c5.w (Imm c5) (vQ p.nodes) sv:=hsv;have hk:Keeps c5.w c7.w (Imm c5) (Imm c7):=by
   intro b o hi;rw [hc7];have h2:=iF (c:=c5) (ρ:=da []) (h':=(owS p 0).heap) (by rw [r5.heap];exact hwk.heap) b o hi;exact (Evo.others (c:=c5.weak (da []) (owS p 0).heap) (fun b=>b=Bs)).keeps b o h2.1
  exact aH.keep hk _ _ h1
 have Wp:c7.w.heap[Bs]? = some (.cells #[sv] e (0,0)):=by rw [hw7];exact hbox
 rw [<- hw7];have hbel:Below c.w.heap.size c.w c7.w:=by
  have:=r5.hrel.below;rw [hB5] at this;rw [hw7];exact this
 have hfin:∀(gs:Fr) (cc:Cx),cc.B=c7.B->cc.J0=(c7.others fun b=>b=c7.w.heap.size\/b=c7.w.heap.size+1).J0->Rel cc cc.w 49 gs (owS p p.nodes.length) a5->Below c7.B c7.w cc.w->cc.w.heap[c7.w.heap.size]? = some (.deferred (some []))->
   Code.wp P0 (cR (cR (cR (cR (fW P0 bn))))) (bodyPostM Fence.wide 0 P0 fn (UO c.w J (ae (fw p)))) { a5 with defers:={ target:=.collected c7.w.heap.size,args:=#[] }::a5.defers } cc.w:=by
  intro gs cc e1 e2 r8 e3 e4;have hX:∀b,cc.J0.X b->c.w.heap.size<=b:=by
   intro b hb;rw [e2] at hb;have hs7:=hbel.size
   rcases hb with hb|hb|hb
   ·rw [hJ7] at hb
    rcases hb with hb|hb
    ·exact hb.elim
    ·rw [hb,<- hB5];exact hBB
   ·rw [hb];exact hs7
   ·rw [hb];omega
  refine XE hres xR r8 hd5 (e1.trans hB7) (by rw [e2];exact .inr (.inl rfl)) hX ?_ e4 (hbel.trans (by rw [hB7] at e3;exact e3)) ?_
  ·intro b o hb
   rw [e2] at hb ⊢
   rcases hb with hb|hb
   ·rw [hJ7] at hb
    rcases hb with hb|hb
    ·exact .inl hb
    ·exact .inr (.inl (by rw [hJ7];exact .inr hb))
   ·exact .inr (.inr hb)
  ·have hl:(List.drop 0 (bu (fw p))).take p.nodes.length=bu (fw p):=by
    rw [abk,aa7 (by rw [bu,acv,zO];exact aa8 _)]
   rw [<- U0] at hl ⊢;show WT P0 (KF _ (.slice 1 (bu (owK p p.nodes.length)) false)) (exec oR ⟨owR,owH p (bu (owK p p.nodes.length)),3,[],0⟩ Tree.done);generalize bu (owK p p.nodes.length)=O at *
   repeat refine aw ?_
   refine ai rfl rfl rfl rfl ?_;exact congrArg (fun l=>Dat.slice 1 l false) hl
 have hg:a5.eval (.tmp 30) = .func (.func cj) #[] #[.pointer (some ⟨Bs,0,none⟩)]:=hfv;refine wp_block ?_
 rcases Z7 with ⟨⟨x,hx,_⟩,hnil⟩|⟨b,off,cap,hx,hcap,_,hel⟩
 ·-- no nodes
  have hn0:p.nodes=[]:=by simpa using hnil
  refine Jt p hf hp (gs:=Fr.none) (C:=fun _=>undef) (OK:=fun W=>W.cell? ⟨Bs,0,none⟩=some (.slice x 0 0)) hg (fun c _ i h=>by rw [hn0] at h;simp at h) ?_ ?_ r7 ?_
  ·intro c' _ hX
   have:=hX Bs (by rw [hJ7];exact .inr rfl);rw [World.cell?_of_block this];unfold World.cell?;rw [Wp,hx];rfl
  ·intro l J' W hY XP h0
   rw [hn0];exact Go.Proofs.Tryz.Hk l Bs x J' XP W h0
  ·intro cc e1 e2 r8 e3 e4
   exact hfin _ cc e1 e2 r8 e3 e4
 ·have hlen:(p.nodes.map ndL).length=p.nodes.length:=by simp
  have hat:mV p.nodes b off (fun m=>(c7.w.cell? ⟨b,off+m,none⟩).getD undef) c7:=mV.of fun i h=>by
   have:=Jr hel i (by rw [hlen];exact h);simpa using this
  generalize (fun m=>(c7.w.cell? ⟨b,off+m,none⟩).getD undef)=C at hat;have r8:Rel c7 c5.w 49 (Nc p.nodes b off C) (owS p 0) a5:=by
   rw [<- hw7];exact ⟨r7.heap,by rw [hw7];exact r7.hrel,r7.size,r7.regs,hat,acj _,r7.base,r7.defers⟩
  refine Jt p hf hp (gs:=Nc p.nodes b off C) (C:=C) (OK:=fun W=>W.cell? ⟨Bs,0,none⟩=some (.slice (some ⟨b,off,none⟩) p.nodes.length cap)/\∀m,m<p.nodes.length * 5->W.cell? ⟨b,off+m,none⟩=some (C m)) hg (fun c h i hi=>mV.agg h i hi) ?_ ?_ r8 ?_
  ·intro c' hc' hX
   refine ⟨?_,fun m hm=>mV.cell hc' m hm⟩;have:=hX Bs (by rw [hJ7];exact .inr rfl);rw [World.cell?_of_block this];unfold World.cell?;rw [Wp,hx,hlen];rfl
  ·intro l J' W hY XP h0
   exact Go.Proofs.Tryz.Jq l Bs b off p.nodes.length cap C (by omega) J' hY XP W h0
  ·intro cc e1 e2 r9 e3 e4
   exact hfin _ cc e1 e2 r9 e3 e4
end Uw.Tryz
namespace Uw
open Go
mutual
theorem U1:∀v:V,v.ren (da [])=v
 | .ptr id o=>rfl
 | .kE id v i c=>rfl
 | .ref id v o l=>rfl
 | .agg cs=>by rw [V.ren,qw cs]
 | .func f fs cs=>by rw [V.ren,qw fs,qw cs]
 | .tuple cs=>by rw [V.ren,qw cs]
 | .d x=>rfl
 | .ro cs o=>rfl
 | .hnd id=>rfl
 | .row id len=>rfl
 | .undef=>rfl
theorem qw:∀l:List V,nk (da []) l=l
 | []=>rfl
 | v::r=>by rw [nk,U1 v,qw r]
end
section
variable [Glob]
theorem Weak.looks {R R' : jd} {H H' : Heap} {n n' b:Nat} (h1:OC (da []) R H H' R') (h2:∀id x,look H' id=some x->look H id=some x/\x.closed H' = true/\id<n') (h3:b<=n') (h4:∀id,id<b->(look H id).isSome=true->(look H' id).isSome=true):Weak ⟨R,H,n,[],b⟩ ⟨R',H',n',[],b⟩:=by
 refine ⟨da [],fun i v h=>pU h1 i v h,fun i x h=>.inl ⟨x,(h2 i x h).1,qQ ?_ (h2 i x h).2.1⟩,fun i x h=>(h2 i x h).2.2,rfl,h3,fun id hid=>⟨rfl,h4 id hid⟩,fun id id' _ _ he=>he,rfl,rfl⟩
 cases x with
 | var cs=>show Blk.var cs=Blk.var (nk (da []) cs);rw [qw]
 | _=>rfl
theorem f1 {P:Program} {Q:ay->St->Prop} {t t' : Tree} (hgo' : WT P Q t') (h:WT P Q t'->WT P Q t:=by
  first
  | (show _->WT _ _ (Tree.Ea _ _)
     first
     | exact A2 _ (by assumption)
     | exact A2 _ rfl)
  | (show _->WT _ _ (Tree.blk _ _)
     first
     | exact Gu _ (by assumption)
     | exact Gu _ rfl)):WT P Q t:=h hgo'
end
end Uw
namespace Uw.Tryz
open Go Uw
structure aaD (rid mid:Nat->Nat) (n:Nat):Prop where
 rr:∀i j,i<n->j<n->rid i=rid j->i=j
 mm:∀i j,i<n->j<n->mid i=mid j->i=j
 rm:∀i j,i<n->j<n->rid i≠mid j
end Uw.Tryz
namespace Uw
open Go
section
variable [Glob]
end
end Uw
namespace Uw.Tryz
open Go Uw
def rid (i:Nat):Nat:=4+2 * i
def mid (i:Nat):Nat:=5+2 * i
end Uw.Tryz
namespace Uw.Tryz
open Go Uw
end Uw.Tryz
namespace Uw.Tryz
open Go Uw
structure In4 where
 op:Int
 a:Int
 b:Int
 c:Int
 deriving DecidableEq,Inhabited
def in4 (i:In4):List Dat:=[I i.op,I i.a,I i.b,I i.c]
structure Nms where
 things:Str->Option (Int×Int)
 az:Str->Int
 helps:Str->Int
 pA:Str->Option Int
structure Bd where
 args:Int
 locals:Int
 ins:List In4
 deriving DecidableEq,Inhabited
def bdC (b:Bd):List Dat:=[I b.args,I b.locals,.slice 4 (b.ins.map in4) false]
structure Cd where
 az:List Bd
 cells:List Int
 maps:Int
 stacks:Int
 chans:Int
 main:Int
 deriving DecidableEq,Inhabited
def cdD (c:Cd):Dat:=.agg [.slice 3 (c.az.map bdC) false,ae c.cells,I c.maps,I c.stacks,I c.chans,I c.main]
end Uw.Tryz
namespace Uw.Tryz
open Go Uw
structure Cont where
 kind:Int
 keys:List Int
 vals:List Int
 deriving DecidableEq,Inhabited
structure Op4 where
 kind:Int
 obj:Int
 a:Int
 b:Int
 deriving DecidableEq,Inhabited
def aR (c:Cont):List Dat:=[I c.kind,ae c.keys,ae c.vals]
def opC (o:Op4):List Dat:=[I o.kind,I o.obj,I o.a,I o.b]
def ofK (k:Int):Int:=if k=1\/k=2\/k=3 then 1 else if k=4\/k=5 then 2 else if k=6\/k=7 then 3 else 0
def dI (c:Cont):Bool:=
 if c.kind=1 then decide (c.keys.length=c.vals.length)&&decide (c.keys.Pairwise (· < ·))
 else if c.kind=2\/c.kind=3 then decide (c.keys.length=0) else false
def cJ (l:List Int) (x:Int):Nat:=(l.takeWhile fun y=>decide (y<x)).length
def iw (l:List Int) (x:Int):Bool:=decide (l[cJ l x]? = some x)
def sa (l:List Int) (k:Nat) (x:Int):List Int:=l.take k++x::l.drop k
def tH (l:List Int) (k:Nat):List Int:=l.take k++l.drop (k+1)
def doS (c:Cont) (o:Op4):Cont×Int×Bool:=
 if dI c=false\/ofK o.kind≠c.kind then (c,0,false)
 else if o.kind=1 then (if iw c.keys o.a then (c,c.vals.getD (cJ c.keys o.a) 0,true) else (c,0,false))
 else if o.kind=2 then (if iw c.keys o.a then (c,0,false) else (⟨c.kind,sa c.keys (cJ c.keys o.a) o.a,sa c.vals (cJ c.keys o.a) o.b⟩,0,true))
 else if o.kind=3 then (if iw c.keys o.a then (⟨c.kind,tH c.keys (cJ c.keys o.a),tH c.vals (cJ c.keys o.a)⟩,0,true) else (c,0,false))
 else if o.kind=4 then (⟨c.kind,[],o.a::c.vals⟩,0,true)
 else if o.kind=6 then (⟨c.kind,[],c.vals++[o.a]⟩,0,true)
 else match c.vals with
  | []=>(c,0,false)
  | v::r=>(⟨c.kind,[],r⟩,v,true)
theorem RX {l:List Int} (h:∀(i:Nat) (h1:i+1<l.length),l[i]<l[i+1]):l.Pairwise (· < ·):=by
 rw [abT];intro i j hi hj hij;obtain ⟨d,rfl⟩:∃d,j=i+1+d:=⟨j - (i+1),by omega⟩
 clear hij
 induction d with
 | zero=>exact h i hj
 | succ d ih=>exact Int.lt_trans (ih (by omega)) (h (i+1+d) (by omega))
theorem LD {x:Int}:∀{l:List Int},l.Pairwise (· < ·)->∀(h:Nat) (hl:h<l.length),l[h]<x<->h<cJ l x
 | [],_,h,hl=>by simp at hl
 | a::r,hp,h,hl=>by
  have hp':=List.pairwise_cons.1 hp;by_cases ha:a<x
  ·have e:cJ (a::r) x=cJ r x+1:=by simp [cJ,ha]
   rw [e]
   cases h with
   | zero=>simpa using ha
   | succ h=>
    have:=LD (x:=x) hp'.2 h (by simpa using hl);simp only [acU];omega
  ·have e:cJ (a::r) x=0:=by simp [cJ,ha]
   rw [e]
   cases h with
   | zero=>simpa using ha
   | succ h=>
    have h2:h<r.length:=by simpa using hl
    have:=hp'.1 r[h] (abg _);simp only [acU];omega
theorem Hl (l:List Int) (x:Int):cJ l x<=l.length:=by
 unfold cJ;exact List.Sublist.length_le (List.takeWhile_sublist _)
theorem vR (k:Int):Ret P0 nA [I k] (.agg [I k,.nil,.nil]):=by
 refine ao I3 rfl ?_
 repeat refine aw ?_
 exact ai rfl rfl rfl rfl rfl
theorem t7 (k:Int):Ret P0 FB [I k] (I (ofK k)):=by
 by_cases k1:k=1
 ·subst k1;refine ao fZ rfl ?_;repeat refine aw ?_
  exact ai rfl rfl rfl rfl rfl
 by_cases k2:k=2
 ·subst k2;refine ao fZ rfl ?_;repeat refine aw ?_
  exact ai rfl rfl rfl rfl rfl
 by_cases k3:k=3
 ·subst k3;refine ao fZ rfl ?_;repeat refine aw ?_
  exact ai rfl rfl rfl rfl rfl
 by_cases k4:k=4
 ·subst k4;refine ao fZ rfl ?_;repeat refine aw ?_
  exact ai rfl rfl rfl rfl rfl
 by_cases k5:k=5
 ·subst k5;refine ao fZ rfl ?_;repeat refine aw ?_
  exact ai rfl rfl rfl rfl rfl
 by_cases k6:k=6
 ·subst k6;refine ao fZ rfl ?_;repeat refine aw ?_
  exact ai rfl rfl rfl rfl rfl
 by_cases k7:k=7
 ·subst k7;refine ao fZ rfl ?_;repeat refine aw ?_
  exact ai rfl rfl rfl rfl rfl
 have e:ofK k=0:=by simp [ofK,k1,k2,k3,k4,k5,k6,k7]
 rw [e];refine ao fZ rfl ?_
 repeat refine aw ?_
 exact ai rfl rfl rfl rfl rfl
theorem Hm (l:List Int) (hl:l.length<1000000):Ret P0 pX [ae l] (.bool (decide (l.Pairwise (· < ·)))):=by
 have hm:(l.map fun i=>[I i]).length=l.length:=by simp
 have he:∀(j:Nat) (h:j<l.length),(l.map fun i=>[I i])[(j:Int).toNat]? = some [I l[j]]:=fun j h=>by simp [h]
 have he2:∀(j:Nat) (h:j - 1<l.length) (h0:1<=j),(l.map fun i=>[I i])[((j:Int) - 1).toNat]? = some [I l[j - 1]]:=fun j h h0=>by
  have e:((j:Int) - 1).toNat=j - 1:=by omega
  rw [e];simp [h]
 have hno:∀(j:Nat) (h:j<l.length) (h0:1<=j),l[j]<=l[j - 1]->decide (l.Pairwise (· < ·))=false:=fun j h h0 hle=>decide_eq_false fun hp=>by
  have:=abT.1 hp (j - 1) j (by omega) h (by omega);omega
 have hyes:(∀(i:Nat) (h1:i+1<l.length),l[i]<l[i+1])->decide (l.Pairwise (· < ·))=true:=fun h=>decide_eq_true (RX h);generalize decide (l.Pairwise (· < ·))=R at *;refine ao xg rfl ?_
 repeat refine aw ?_
 refine dM (fun j:Nat=>⟨[(3,.d (I j)),(2,.d (.bool false)),(0,.d (ae l))],[],0,[],0⟩) (fun j=>1<=j/\∀(i:Nat) (h1:i+1<l.length),i+1<j->l[i]<l[i+1]) (fun j=>l.length - j) 1 (by exact Uw.wW) ⟨aa8 _,fun i _ h=>absurd h (by omega)⟩ ?_;rintro j ⟨h1,hj⟩;by_cases hjl:j<l.length
 ·have e1:=he j hjl
  have e2:=he2 j (by omega) h1;have n1:=hno j hjl h1;have hs:l[j - 1]<l[j]->∀(i:Nat) (h1:i+1<l.length),i+1<j+1->l[i]<l[i+1]:=fun h i hi hij=>by
   by_cases e:i+1<j
   ·exact hj i hi e
   ·obtain rfl:j=i+1:=by omega
    exact h
  clear he he2 hno hyes hj;generalize l[j]=x at *;generalize l[j - 1]=y at *;by_cases hxy:x<=y
  ·obtain rfl:=n1 hxy
   repeat refine aw ?_
   exact ce (ai rfl rfl rfl rfl rfl)
  ·have hs:=hs (by omega)
   repeat refine aw ?_
   exact aW (j+1) ⟨by omega,hs⟩ (by omega) (by exact Uw.wW)
 ·obtain rfl:=hyes fun i h=>hj i h (by omega)
  repeat refine aw ?_
  refine aZ ?_
  repeat refine aw ?_
  exact ai rfl rfl rfl rfl rfl
end Uw.Tryz
namespace Uw.Tryz
open Go Uw
theorem RY (a b:Nat) (h:a<=b):((b:Int) - a).tdiv 2=(((b - a) / 2:Nat):Int):=by
 rw [show ((b:Int) - a)=((b - a:Nat):Int) by omega];rfl
theorem tI (l:List Int) (x:Int) (hl:l.length<1000000) (hp:l.Pairwise (· < ·)):Ret P0 rO [ae l,I x] (.tuple [I (cJ l x:Nat),.bool (iw l x)]):=by
 have hm:(l.map fun i=>[I i]).length=l.length:=by simp
 have hle:=Hl l x;have hlow:=LD (x:=x) hp;have he:∀(j:Nat) (h:j<l.length) (z:Int) (hz:z=j),(l.map fun i=>[I i])[z.toNat]? = some [I l[j]]:=fun j h z hz=>by subst hz;simp [h]
 have hR0:¬cJ l x<l.length->iw l x=false:=fun h=>by
  unfold iw;rw [abl (by omega)];rfl
 have hR1:∀h:cJ l x<l.length,iw l x=decide (l[cJ l x]=x):=fun h=>by
  unfold iw;rw [aa9 h];simp
 generalize iw l x=R at *;generalize cJ l x=w at *;refine ao yZ rfl ?_
 repeat refine aw ?_
 refine dM (fun ((a,b):Nat×Nat)=>⟨[(7,.d (I b)),(6,.d (I a)),(5,.d (.bool false)),(4,.d (I 0)),(1,.d (I x)),(0,.d (ae l))],[],0,[],0⟩) (fun p=>p.1<=w/\w<=p.2/\p.2<=l.length) (fun p=>p.2 - p.1) (0,l.length) (by exact Uw.wW) ⟨by omega,hle,aa8 _⟩ ?_;rintro ⟨a,b⟩ ⟨ha,hb,hbl⟩;simp only at ha hb hbl;by_cases hab:a<b
 ·have hh:=RY a b (by omega)
  have hd:(b - a) / 2<b - a:=by omega
  have e1:=he (a+(b - a) / 2) (by omega) ((a:Int)+((b:Int) - a).tdiv 2) (by rw [hh];omega);have e2:=hlow (a+(b - a) / 2) (by omega);clear he hlow;generalize l[a+(b - a) / 2]=y at *;by_cases hy:y<x
  ·have e3:=e2.1 hy
   repeat refine aw ?_
   exact aW (a+(b - a) / 2+1,b) ⟨by simp only;omega,hb,hbl⟩ (by simp only;omega) (by exact Uw.wW)
  ·have e3:¬a+(b - a) / 2<w:=fun h=>hy (e2.2 h)
   repeat refine aw ?_
   exact aW (a,a+(b - a) / 2) ⟨ha,by simp only;omega,by simp only;omega⟩ (by simp only;omega) (by exact Uw.wW)
 ·obtain rfl:a=w:=by omega
  by_cases hw:a<l.length
  ·have e1:=he a hw a rfl
   have hR:=hR1 hw;generalize l[a]=y at *;subst hR
   repeat refine aw ?_
   refine aZ ?_
   repeat refine aw ?_
   exact ai rfl rfl rfl rfl rfl
  ·have hR:=hR0 hw
   subst hR
   repeat refine aw ?_
   refine aZ ?_
   repeat refine aw ?_
   exact ai rfl rfl rfl rfl rfl
theorem o7 (l:List Int) (k:Nat) (x:Int) (hl:l.length<1000000) (hk:k<=l.length):Ret P0 zI [ae l,I k,I x] (ae (sa l k x)):=by
 have hm:(l.map fun i=>[I i]).length=l.length:=by simp
 refine ao Hh rfl ?_;refine aw ?_;refine ah (by simp;omega) ?_
 repeat refine aw ?_
 refine ai rfl rfl rfl rfl ?_;simp [fV,ae,sa];have e:List.take l.length (List.map (fun i=>[I i]) l)=List.map (fun i=>[I i]) l:=aa7 (by simp);rw [e];exact aa7 (by simp;omega)
theorem tJ (l:List Int) (k:Nat) (hl:l.length<1000000) (hk:k<l.length):Ret P0 jC [ae l,I k] (ae (tH l k)):=by
 have hm:(l.map fun i=>[I i]).length=l.length:=by simp
 refine ao AG rfl ?_
 repeat refine aw ?_
 refine ai rfl rfl rfl rfl ?_;simp [fV,ae,tH];have e:List.take l.length (List.map (fun i=>[I i]) l)=List.map (fun i=>[I i]) l:=aa7 (by simp);rw [e];exact aa7 (by simp)
end Uw.Tryz
namespace Uw.Tryz
open Go Uw
theorem yh {P:Program} {f:FuncId} {m:aO} (hf:ax P f m) {args:List Dat} {r:Dat} (hn:Nat.ble args.length m.n=true)
  (h:WT P (fun e st=>∃st',(st' = st\/Weak st st')/\KF m.res r e st') (exec m.code (pq args) Tree.done)):Ret P f args r:=
 uP hf hn (WT.mono (fun e st ⟨st',h1,h2⟩=>⟨st',h1,.inl h2⟩) _ h)
theorem dm (l:List Int) (hl:l.length<1000000):Ret P0 di [ae l] (ae l):=by
 have hm:(l.map fun i=>[I i]).length=l.length:=by simp
 refine yh lE rfl ?_;refine bE (fun h1=>?_) (fun h1=>?_)
 ·have h1:l=[]:=by simpa using h1
  subst h1;refine wv ?_ ?_
  ·repeat refine aw ?_
   exact aj ⟨⟨[(2,.ref 0 1 0 0)],[(0,.mt 1 1 [])],1,[],0⟩,.inr (by exact Uw.wW),.inr rfl,rfl,_,_,rfl,rfl,rfl,rfl⟩
  ·repeat refine aw ?_
   exact aj ⟨_,.inl rfl,.inr rfl,rfl,_,_,rfl,rfl,rfl,rfl⟩
 ·refine aw ?_
  refine aw ?_;refine ah (by simp;omega) ?_
  repeat refine aw ?_
  refine aj ⟨_,.inl rfl,.inr rfl,rfl,_,_,rfl,rfl,rfl,?_⟩;simp [fV,ae];exact aa7 (by simp)
theorem LG (k:Int) (ks vs:List Int) (oa ob oc od:Int) (hl:ks.length<1000000) (hv:vs.length=ks.length) (hp:ks.Pairwise (· < ·)) :
  Ret P0 vJ [.agg [I k,ae ks,ae vs],.agg [I oa,I ob,I oc,I od]] (.tuple [.agg [I k,ae ks,ae vs],I (if iw ks oc then vs.getD (cJ ks oc) 0 else 0),.bool (iw ks oc)]):=by
 have hf:=tI ks oc hl hp;have hle:=Hl ks oc;have hin:iw ks oc=true->cJ ks oc<ks.length:=fun h=>by
  have h:=of_decide_eq_true h;exact (abx.1 h).1
 have hm:(vs.map fun i=>[I i]).length=vs.length:=by simp
 have hv' : ∀h:cJ ks oc<vs.length,(vs.map fun i=>[I i])[((cJ ks oc:Nat):Int).toNat]? = some [I vs[cJ ks oc]]:=fun h=>by simp [h]
 have hg:∀h:cJ ks oc<vs.length,vs.getD (cJ ks oc) 0=vs[cJ ks oc]:=fun h=>by simp [h]
 generalize hR:iw ks oc=R at *;generalize cJ ks oc=w at *
 cases R with
 | false=>
  refine ao sN rfl ?_
  repeat refine aw ?_
  exact ai rfl rfl rfl rfl rfl
 | true=>
  have hw:w<vs.length:=by rw [hv];exact hin rfl
  have e:=hv' hw;rw [if_pos rfl,hg hw];clear hv' hg hin;generalize vs[w]=v at *;refine ao sN rfl ?_
  repeat refine aw ?_
  refine bq ⟨[(6,.d (.bool true)),(5,.d (I v)),(4,.ptr 2 0)],[(2,.var [.d (I k),.d (ae ks),.d (ae vs)])],3,[],0⟩ ?_ ?_
  ·repeat refine aw ?_
   exact aj (.inl ⟨rfl,by exact Uw.wM⟩)
  repeat refine aw ?_
  exact ai rfl rfl rfl rfl rfl
theorem LI (k:Int) (ks vs:List Int) (oa ob oc od:Int) (hl:ks.length<1000000) (hv:vs.length=ks.length) (hp:ks.Pairwise (· < ·)) :
  Ret P0 vK [.agg [I k,ae ks,ae vs],.agg [I oa,I ob,I oc,I od]] (.tuple [.agg (if iw ks oc then [I k,ae ks,ae vs] else [I k,ae (sa ks (cJ ks oc) oc),ae (sa vs (cJ ks oc) od)]),I 0,.bool (!iw ks oc)]):=by
 have hf:=tI ks oc hl hp;have hle:=Hl ks oc;have h1:=o7 ks (cJ ks oc) oc hl hle;have h2:=o7 vs (cJ ks oc) od (by omega) (by omega);generalize iw ks oc=R at *;generalize cJ ks oc=w at *
 cases R with
 | true=>
  refine ao oI rfl ?_
  repeat refine aw ?_
  exact ai rfl rfl rfl rfl rfl
 | false=>
  refine ao oI rfl ?_
  repeat refine aw ?_
  exact ai rfl rfl rfl rfl rfl
theorem LJ (k:Int) (ks vs:List Int) (oa ob oc od:Int) (hl:ks.length<1000000) (hv:vs.length=ks.length) (hp:ks.Pairwise (· < ·)) :
  Ret P0 vL [.agg [I k,ae ks,ae vs],.agg [I oa,I ob,I oc,I od]] (.tuple [.agg (if iw ks oc then [I k,ae (tH ks (cJ ks oc)),ae (tH vs (cJ ks oc))] else [I k,ae ks,ae vs]),I 0,.bool (iw ks oc)]):=by
 have hf:=tI ks oc hl hp;have hin:iw ks oc=true->cJ ks oc<ks.length:=fun h=>by
  have h:=of_decide_eq_true h;exact (abx.1 h).1
 have h1:iw ks oc=true->Ret P0 jC [ae ks,I (cJ ks oc)] (ae (tH ks (cJ ks oc))):=fun h=>tJ ks (cJ ks oc) hl (hin h);have h2:iw ks oc=true->Ret P0 jC [ae vs,I (cJ ks oc)] (ae (tH vs (cJ ks oc))):=fun h=>tJ vs (cJ ks oc) (by omega) (by have:=hin h;omega);generalize iw ks oc=R at *;generalize cJ ks oc=w at *
 cases R with
 | true=>
  have h1:=h1 rfl;have h2:=h2 rfl;refine ao oJ rfl ?_
  repeat refine aw ?_
  exact ai rfl rfl rfl rfl rfl
 | false=>
  refine ao oJ rfl ?_
  repeat refine aw ?_
  exact ai rfl rfl rfl rfl rfl
theorem Ju (k:Int) (ks vs:List Int) (oa ob oc od:Int) (hv:vs.length<1000000) :
  Ret P0 sO [.agg [I k,ae ks,ae vs],.agg [I oa,I ob,I oc,I od]] (.tuple [.agg [I k,.nil,ae (oc::vs)],I 0,.bool true]):=by
 have h1:=o7 vs 0 oc hv (acj _);have e:sa vs 0 oc=oc::vs:=by simp [sa]
 rw [e] at h1;refine ao xi rfl ?_
 repeat refine aw ?_
 exact ai rfl rfl rfl rfl rfl
theorem Jv (k:Int) (ks vs:List Int) (oa ob oc od:Int) (hv:vs.length<1000000) :
  Ret P0 sP [.agg [I k,ae ks,ae vs],.agg [I oa,I ob,I oc,I od]] (.tuple [.agg [I k,.nil,ae (vs++[oc])],I 0,.bool true]):=by
 have hm:(vs.map fun i=>[I i]).length=vs.length:=by simp
 have h1:=o7 vs vs.length oc hv (aa8 _);have e:sa vs vs.length oc=vs++[oc]:=by simp [sa]
 rw [e,<- hm] at h1;refine ao xj rfl ?_
 repeat refine aw ?_
 exact ai rfl rfl rfl rfl rfl
theorem yi (k:Int) (ks vs:List Int) (oa ob oc od:Int) (hv:vs.length<1000000) :
  Ret P0 mT [.agg [I k,ae ks,ae vs],.agg [I oa,I ob,I oc,I od]] (match vs with|[]=>.tuple [.agg [I k,ae ks,ae []],I 0,.bool false]|v::r=>.tuple [.agg [I k,.nil,ae r],I v,.bool true]):=by
 cases vs with
 | nil=>
  refine ao fL rfl ?_
  repeat refine aw ?_
  exact ai rfl rfl rfl rfl rfl
 | cons v r=>
  have hc:Ret P0 di [.slice 1 (List.drop (Int.toNat 1) (List.take ((((v::r).map fun i=>[I i]).length:Nat):Int).toNat ((v::r).map fun i=>[I i]))) false] (ae r):=by
   have h:=dm r (by simp at hv;omega);have e:List.drop (Int.toNat 1) (List.take ((((v::r).map fun i=>[I i]).length:Nat):Int).toNat ((v::r).map fun i=>[I i]))=r.map fun i=>[I i]:=by simp;exact aa7 (by simp)
   rw [e];exact h
  refine ao fL rfl ?_
  repeat refine aw ?_
  refine bq ⟨[(6,.d (.bool true)),(5,.d (I v)),(4,.ptr 2 0)],[(2,.var [.d (I k),.d .nil,.d (ae r)])],3,[],0⟩ ?_ ?_
  ·repeat (first|refine aw ?_|refine aF [I v] rfl ?_)
   exact aj (.inl ⟨rfl,by exact Uw.wM⟩)
  repeat refine aw ?_
  exact ai rfl rfl rfl rfl rfl
theorem Dv:Ret P0 sK [] (.agg [.nilFunc,.func vJ,.func vK,.func vL,.func sO,.func mT,.func sP,.func mT]):=by
 refine ao AA rfl ?_
 repeat refine aw ?_
 exact ai rfl rfl rfl rfl rfl
end Uw.Tryz
namespace Uw.Tryz
open Go Uw
theorem Hn (k:Int) (ks vs:List Int) (hl:ks.length<1000000):Ret P0 wU [.agg [I k,ae ks,ae vs]] (.bool (dI ⟨k,ks,vs⟩)):=by
 have hr:=Hm ks hl;have hm:(ks.map fun i=>[I i]).length=ks.length:=by simp
 have hm2:(vs.map fun i=>[I i]).length=vs.length:=by simp
 by_cases k1:k=1
 ·subst k1
  by_cases e:ks.length=vs.length
  ·have hR:dI ⟨1,ks,vs⟩=decide (ks.Pairwise (· < ·)):=by simp [dI,e]
   rw [hR];have e' : (((ks.map fun i=>[I i]).length:Nat):Int)=((vs.map fun i=>[I i]).length:Nat):=by omega
   generalize decide (ks.Pairwise (· < ·))=R at *;refine ao ii rfl ?_
   repeat refine aw ?_
   exact ai rfl rfl rfl rfl rfl
  ·have hR:dI ⟨1,ks,vs⟩=false:=by simp [dI,e]
   rw [hR];have e' : ¬(((ks.map fun i=>[I i]).length:Nat):Int)=((vs.map fun i=>[I i]).length:Nat):=by omega
   refine ao ii rfl ?_
   repeat refine aw ?_
   exact ai rfl rfl rfl rfl rfl
 by_cases k2:k=2
 ·subst k2
  have hR:dI ⟨2,ks,vs⟩=decide ((((ks.map fun i=>[I i]).length:Nat):Int)=0):=by simp [dI]
  rw [hR];refine ao ii rfl ?_
  repeat refine aw ?_
  exact ai rfl rfl rfl rfl rfl
 by_cases k3:k=3
 ·subst k3
  have hR:dI ⟨3,ks,vs⟩=decide ((((ks.map fun i=>[I i]).length:Nat):Int)=0):=by simp [dI]
  rw [hR];refine ao ii rfl ?_
  repeat refine aw ?_
  exact ai rfl rfl rfl rfl rfl
 have hR:dI ⟨k,ks,vs⟩=false:=by simp [dI,k1,k2,k3]
 rw [hR];refine ao ii rfl ?_
 repeat refine aw ?_
 exact ai rfl rfl rfl rfl rfl
theorem y9 (c:Cont) (o:Op4) (hl:c.keys.length<1000000) (hv:c.vals.length<1000000) :
  Ret P0 kj [.agg (aR c),.agg (opC o)] (.tuple [.agg (aR (doS c o).1),I (doS c o).2.1,.bool (doS c o).2.2]):=by
 obtain ⟨k,ks,vs⟩:=c;obtain ⟨oa,ob,oc,od⟩:=o;simp only at hl hv;show Ret P0 kj [.agg [I k,ae ks,ae vs],.agg [I oa,I ob,I oc,I od]] _;have hr:=Hn k ks vs hl;have ho:=t7 oa;have he:=Dv;by_cases h1:dI ⟨k,ks,vs⟩=false
 ·have hD:doS ⟨k,ks,vs⟩ ⟨oa,ob,oc,od⟩=(⟨k,ks,vs⟩,0,false):=by unfold doS;rw [if_pos (.inl h1)]
  rw [hD];rw [h1] at hr;refine ao dw rfl ?_
  repeat refine aw ?_
  exact ai rfl rfl rfl rfl rfl
 have h1:dI ⟨k,ks,vs⟩=true:=by simpa using h1
 rw [h1] at hr;by_cases h2:ofK oa=k
 rotate_left 1
 ·have hD:doS ⟨k,ks,vs⟩ ⟨oa,ob,oc,od⟩=(⟨k,ks,vs⟩,0,false):=by unfold doS;rw [if_pos (.inr h2)]
  rw [hD];refine ao dw rfl ?_
  repeat refine aw ?_
  exact ai rfl rfl rfl rfl rfl
 by_cases k1:oa=1
 ·subst k1
  obtain rfl:k=1:=h2.symm;have hR:vs.length=ks.length/\ks.Pairwise (· < ·):=by simp [dI] at h1;exact ⟨h1.1.symm,h1.2⟩
  have hc:=LG 1 ks vs 1 ob oc od hl hR.1 hR.2;have hD:doS ⟨1,ks,vs⟩ ⟨1,ob,oc,od⟩=(⟨1,ks,vs⟩,if iw ks oc then vs.getD (cJ ks oc) 0 else 0,iw ks oc):=by
   unfold doS;rw [if_neg (by simp [h1,ofK])];simp only [if_true];cases iw ks oc<;>rfl
  rw [hD];generalize iw ks oc=R at *;generalize cJ ks oc=w at *;show Ret P0 kj _ (.tuple [.agg [I 1,ae ks,ae vs],I (if R then vs.getD w 0 else 0),.bool R]);generalize (if R then vs.getD w 0 else 0)=v at *;refine ao dw rfl ?_
  repeat refine aw ?_
  refine bq ⟨[(6,.d (.bool R)),(5,.d (I v)),(4,.ptr 2 0)],[(2,.var [.d (I 1),.d (ae ks),.d (ae vs)])],3,[],0⟩ ?_ ?_
  ·repeat refine aw ?_
   refine bI _ sN.body rfl hc ?_
   repeat refine aw ?_
   exact aj (.inl ⟨rfl,by exact Uw.wM⟩)
  repeat refine aw ?_
  exact ai rfl rfl rfl rfl rfl
 by_cases k2:oa=2
 ·subst k2
  obtain rfl:k=1:=h2.symm;have hR:vs.length=ks.length/\ks.Pairwise (· < ·):=by simp [dI] at h1;exact ⟨h1.1.symm,h1.2⟩
  have hc:=LI 1 ks vs 2 ob oc od hl hR.1 hR.2
  cases hh:iw ks oc with
  | true=>
   have hD:doS ⟨1,ks,vs⟩ ⟨2,ob,oc,od⟩=(⟨1,ks,vs⟩,0,false):=by
    unfold doS;rw [if_neg (by simp [h1,ofK])];simp [hh]
   rw [hD];rw [hh] at hc;refine ao dw rfl ?_
   repeat refine aw ?_
   refine bq ⟨[(6,.d (.bool false)),(5,.d (I 0)),(4,.ptr 2 0)],[(2,.var [.d (I 1),.d (ae ks),.d (ae vs)])],3,[],0⟩ ?_ ?_
   ·repeat refine aw ?_
    refine bI _ oI.body rfl hc ?_
    repeat refine aw ?_
    exact aj (.inl ⟨rfl,by exact Uw.wM⟩)
   repeat refine aw ?_
   exact ai rfl rfl rfl rfl rfl
  | false=>
   have hD:doS ⟨1,ks,vs⟩ ⟨2,ob,oc,od⟩=(⟨1,sa ks (cJ ks oc) oc,sa vs (cJ ks oc) od⟩,0,true):=by
    unfold doS;rw [if_neg (by simp [h1,ofK])];simp [hh]
   rw [hD];rw [hh] at hc;refine ao dw rfl ?_
   repeat refine aw ?_
   refine bq ⟨[(6,.d (.bool true)),(5,.d (I 0)),(4,.ptr 2 0)],[(2,.var [.d (I 1),.d (ae (sa ks (cJ ks oc) oc)),.d (ae (sa vs (cJ ks oc) od))])],3,[],0⟩ ?_ ?_
   ·repeat refine aw ?_
    refine bI _ oI.body rfl hc ?_
    repeat refine aw ?_
    exact aj (.inl ⟨rfl,by exact Uw.wM⟩)
   repeat refine aw ?_
   exact ai rfl rfl rfl rfl rfl
 by_cases k3:oa=3
 ·subst k3
  obtain rfl:k=1:=h2.symm;have hR:vs.length=ks.length/\ks.Pairwise (· < ·):=by simp [dI] at h1;exact ⟨h1.1.symm,h1.2⟩
  have hc:=LJ 1 ks vs 3 ob oc od hl hR.1 hR.2
  cases hh:iw ks oc with
  | true=>
   have hD:doS ⟨1,ks,vs⟩ ⟨3,ob,oc,od⟩=(⟨1,tH ks (cJ ks oc),tH vs (cJ ks oc)⟩,0,true):=by
    unfold doS;rw [if_neg (by simp [h1,ofK])];simp [hh]
   rw [hD];rw [hh] at hc;refine ao dw rfl ?_
   repeat refine aw ?_
   refine bq ⟨[(6,.d (.bool true)),(5,.d (I 0)),(4,.ptr 2 0)],[(2,.var [.d (I 1),.d (ae (tH ks (cJ ks oc))),.d (ae (tH vs (cJ ks oc)))])],3,[],0⟩ ?_ ?_
   ·repeat refine aw ?_
    refine bI _ oJ.body rfl hc ?_
    repeat refine aw ?_
    exact aj (.inl ⟨rfl,by exact Uw.wM⟩)
   repeat refine aw ?_
   exact ai rfl rfl rfl rfl rfl
  | false=>
   have hD:doS ⟨1,ks,vs⟩ ⟨3,ob,oc,od⟩=(⟨1,ks,vs⟩,0,false):=by
    unfold doS;rw [if_neg (by simp [h1,ofK])];simp [hh]
   rw [hD];rw [hh] at hc;refine ao dw rfl ?_
   repeat refine aw ?_
   refine bq ⟨[(6,.d (.bool false)),(5,.d (I 0)),(4,.ptr 2 0)],[(2,.var [.d (I 1),.d (ae ks),.d (ae vs)])],3,[],0⟩ ?_ ?_
   ·repeat refine aw ?_
    refine bI _ oJ.body rfl hc ?_
    repeat refine aw ?_
    exact aj (.inl ⟨rfl,by exact Uw.wM⟩)
   repeat refine aw ?_
   exact ai rfl rfl rfl rfl rfl
 by_cases k4:oa=4
 ·subst k4
  obtain rfl:k=2:=h2.symm;have hc:=Ju 2 ks vs 4 ob oc od hv;have hD:doS ⟨2,ks,vs⟩ ⟨4,ob,oc,od⟩=(⟨2,[],oc::vs⟩,0,true):=by
   unfold doS;rw [if_neg (by simp [h1,ofK])];rfl
  rw [hD];refine Ret.res (r:=.tuple [.agg [I 2,.nil,ae (oc::vs)],I 0,.bool true]) ?_ (.tuple (.cons (.agg (.cons (.refl _) (.cons (.nil _) (.refl _)))) (.refl _)));refine ao dw rfl ?_
  repeat refine aw ?_
  refine bq ⟨[(6,.d (.bool true)),(5,.d (I 0)),(4,.ptr 2 0)],[(2,.var [.d (I 2),.d .nil,.d (ae (oc::vs))])],3,[],0⟩ ?_ ?_
  ·repeat refine aw ?_
   refine bI _ xi.body rfl hc ?_
   repeat refine aw ?_
   exact aj (.inl ⟨rfl,by exact Uw.wM⟩)
  repeat refine aw ?_
  exact ai rfl rfl rfl rfl rfl
 by_cases k6:oa=6
 ·subst k6
  obtain rfl:k=3:=h2.symm;have hc:=Jv 3 ks vs 6 ob oc od hv;have hD:doS ⟨3,ks,vs⟩ ⟨6,ob,oc,od⟩=(⟨3,[],vs++[oc]⟩,0,true):=by
   unfold doS;rw [if_neg (by simp [h1,ofK])];rfl
  rw [hD];refine Ret.res (r:=.tuple [.agg [I 3,.nil,ae (vs++[oc])],I 0,.bool true]) ?_ (.tuple (.cons (.agg (.cons (.refl _) (.cons (.nil _) (.refl _)))) (.refl _)));refine ao dw rfl ?_
  repeat refine aw ?_
  refine bq ⟨[(6,.d (.bool true)),(5,.d (I 0)),(4,.ptr 2 0)],[(2,.var [.d (I 3),.d .nil,.d (ae (vs++[oc]))])],3,[],0⟩ ?_ ?_
  ·repeat refine aw ?_
   refine bI _ xj.body rfl hc ?_
   repeat refine aw ?_
   exact aj (.inl ⟨rfl,by exact Uw.wM⟩)
  repeat refine aw ?_
  exact ai rfl rfl rfl rfl rfl
 have hk:oa=5\/oa=7:=by
  have hne:ofK oa≠0:=fun e=>by
   rw [<- h2,e] at h1;simp [dI] at h1
  by_cases e5:oa=5
  ·exact .inl e5
  by_cases e7:oa=7
  ·exact .inr e7
  exact absurd (by simp [ofK,k1,k2,k3,k4,e5,k6,e7]) hne
 rcases hk with rfl|rfl
 ·obtain rfl:k=2:=h2.symm
  have hc:=yi 2 ks vs 5 ob oc od hv
  cases vs with
  | nil=>
   have hD:doS ⟨2,ks,[]⟩ ⟨5,ob,oc,od⟩=(⟨2,ks,[]⟩,0,false):=by
    unfold doS;rw [if_neg (by simp [h1,ofK])];rfl
   rw [hD];refine ao dw rfl ?_
   repeat refine aw ?_
   refine bq ⟨[(6,.d (.bool false)),(5,.d (I 0)),(4,.ptr 2 0)],[(2,.var [.d (I 2),.d (ae ks),.d (ae [])])],3,[],0⟩ ?_ ?_
   ·repeat refine aw ?_
    refine bI _ fL.body rfl hc ?_
    repeat refine aw ?_
    exact aj (.inl ⟨rfl,by exact Uw.wM⟩)
   repeat refine aw ?_
   exact ai rfl rfl rfl rfl rfl
  | cons v r=>
   have hD:doS ⟨2,ks,v::r⟩ ⟨5,ob,oc,od⟩=(⟨2,[],r⟩,v,true):=by
    unfold doS;rw [if_neg (by simp [h1,ofK])];rfl
   rw [hD];refine Ret.res (r:=.tuple [.agg [I 2,.nil,ae r],I v,.bool true]) ?_ (.tuple (.cons (.agg (.cons (.refl _) (.cons (.nil _) (.refl _)))) (.refl _)));refine ao dw rfl ?_
   repeat refine aw ?_
   refine bq ⟨[(6,.d (.bool true)),(5,.d (I v)),(4,.ptr 2 0)],[(2,.var [.d (I 2),.d .nil,.d (ae r)])],3,[],0⟩ ?_ ?_
   ·repeat refine aw ?_
    refine bI _ fL.body rfl hc ?_
    repeat refine aw ?_
    exact aj (.inl ⟨rfl,by exact Uw.wM⟩)
   repeat refine aw ?_
   exact ai rfl rfl rfl rfl rfl
 ·obtain rfl:k=3:=h2.symm
  have hc:=yi 3 ks vs 7 ob oc od hv
  cases vs with
  | nil=>
   have hD:doS ⟨3,ks,[]⟩ ⟨7,ob,oc,od⟩=(⟨3,ks,[]⟩,0,false):=by
    unfold doS;rw [if_neg (by simp [h1,ofK])];rfl
   rw [hD];refine ao dw rfl ?_
   repeat refine aw ?_
   refine bq ⟨[(6,.d (.bool false)),(5,.d (I 0)),(4,.ptr 2 0)],[(2,.var [.d (I 3),.d (ae ks),.d (ae [])])],3,[],0⟩ ?_ ?_
   ·repeat refine aw ?_
    refine bI _ fL.body rfl hc ?_
    repeat refine aw ?_
    exact aj (.inl ⟨rfl,by exact Uw.wM⟩)
   repeat refine aw ?_
   exact ai rfl rfl rfl rfl rfl
  | cons v r=>
   have hD:doS ⟨3,ks,v::r⟩ ⟨7,ob,oc,od⟩=(⟨3,[],r⟩,v,true):=by
    unfold doS;rw [if_neg (by simp [h1,ofK])];rfl
   rw [hD];refine Ret.res (r:=.tuple [.agg [I 3,.nil,ae r],I v,.bool true]) ?_ (.tuple (.cons (.agg (.cons (.refl _) (.cons (.nil _) (.refl _)))) (.refl _)));refine ao dw rfl ?_
   repeat refine aw ?_
   refine bq ⟨[(6,.d (.bool true)),(5,.d (I v)),(4,.ptr 2 0)],[(2,.var [.d (I 3),.d .nil,.d (ae r)])],3,[],0⟩ ?_ ?_
   ·repeat refine aw ?_
    refine bI _ fL.body rfl hc ?_
    repeat refine aw ?_
    exact aj (.inl ⟨rfl,by exact Uw.wM⟩)
   repeat refine aw ?_
   exact ai rfl rfl rfl rfl rfl
end Uw.Tryz
namespace Uw.Tryz.Vm
open Go Uw Uw.Tryz
structure Frame where
 task:Int
 path:List Int
 fn:Int
 pc:Int
 loc:List Int
 stack:List Int
 kids:List (Int×Int)
 many:Int
 spent:Int
 fail:Bool
structure Ask where
 kind:Int
 a:Int
 b:Int
 op:Int×Int×Int×Int
 args:List Int
def fN (k:Int×Int):List Dat:=[I k.1,I k.2]
def bW (f:Frame):Dat:=.agg [I f.task,ae f.path,I f.fn,I f.pc,ae f.loc,ae f.stack,.slice 2 (f.kids.map fN) false,I f.many,I f.spent,.bool f.fail]
theorem s25 (n b:Int):Ret P0 C7 [I n,I b] (.bool (decide (0<=n)&&decide (n<b))):=by
 refine ao I7 rfl ?_;refine bE (fun h=>?_) (fun h=>?_)
 ·refine ah rfl ?_
  refine ai rfl rfl rfl rfl ?_;simp at h;simp [h,fV]
 ·refine aS rfl ?_
  refine ai rfl rfl rfl rfl ?_;simp at h;simp [fV];omega
def isVal (n:Int):Bool:=decide (0<=n)&&decide (n<4294967296)
def below (n b:Int):Bool:=decide (0<=n)&&decide (n<b)
def dest (n l:Int):Bool:=decide (n = -1)||below n l
theorem s38 (n:Int):Ret P0 Dk [I n] (.bool (isVal n)):=by
 refine ao Jm rfl ?_;refine aL _ (s25 _ _) ?_;exact ai rfl rfl rfl rfl rfl
theorem s37 (n b:Int):Ret P0 FC [I n,I b] (.bool (dest n b)):=by
 refine ao Lc rfl ?_;refine bE (fun h=>?_) (fun h=>?_)
 ·simp at h
  refine aL _ (s25 _ _) ?_;refine aS rfl ?_;exact ai rfl rfl rfl rfl (by simp [fV,dest,below,h])
 ·simp at h
  refine ah rfl ?_;exact ai rfl rfl rfl rfl (by simp [fV,dest,h])
theorem yj {α:Type} (p:α->Bool) (l:List α) (k:Nat) (h:k<l.length):(l.take (k+1)).all p=((l.take k).all p&&p l[k]):=by
 rw [abw h,adp];simp
theorem s26 (l:List Int) (hl:l.length<1000000):Ret P0 zC [ae l] (.bool (l.all isVal)):=by
 refine ao G2 rfl ?_;refine dM (fun k:Int=>⟨[(5,.d (ae l)),(6,.d (.int .i64 (l.map fun n=>[Dat.int .i64 n]).length)),(7,.d (.int .i64 k))],[],0,[],0⟩)
  (fun k=>0<=k/\k<=l.length/\(l.take k.toNat).all isVal=true) (fun k=>(l.length - k).toNat) 0 ?_ ⟨by omega,by omega,by simp⟩ ?_
 ·exact Weak.of ⟨⟨_,rfl,.inl ⟨rfl,rfl⟩⟩,⟨_,rfl,.inl ⟨rfl,rfl⟩⟩,⟨_,rfl,.inl ⟨rfl,rfl⟩⟩,trivial⟩ trivial rfl rfl trivial rfl rfl
 ·rintro k ⟨h0,h1,hall⟩
  refine bE (fun h=>?_) (fun h=>?_)
  ·simp at h
   refine ah (by simp;omega) ?_;refine aF [.int .i64 l[k.toNat]] (by simp) ?_;refine aL _ (s38 _) ?_;refine bE (fun h2=>?_) (fun h2=>?_)
   ·refine ce ?_
    refine ai rfl rfl rfl rfl ?_;simp at h2;simp only [fV]
    congr 1
    symm
    rw [acz];exact ⟨l[k.toNat],abg _,by simp [h2]⟩
   ·refine ah (by simp [inR];omega) ?_
    refine aW (k+1) ⟨by omega,by omega,?_⟩ (by omega) (Weak.of ⟨⟨_,rfl,.inl ⟨rfl,rfl⟩⟩,⟨_,rfl,.inl ⟨rfl,rfl⟩⟩,⟨_,rfl,.inl ⟨rfl,rfl⟩⟩,trivial⟩ trivial rfl rfl trivial rfl rfl);rw [show (k+1).toNat=k.toNat+1 by omega,yj isVal l k.toNat (by omega),hall];simpa using h2
  ·refine aZ ?_
   simp at h;refine ai rfl rfl rfl rfl ?_;rw [aa7 (by omega)] at hall;rw [hall];rfl
def yk (b:Int) (k:Int×Int):Bool:=decide (1<=k.1)&&dest k.2 b
def dp (c:Cd) (f:Frame):Bd:=c.az.getD f.fn.toNat ⟨0,0,[]⟩
def right (c:Cd) (f:Frame):Bool:=
 !(decide (f.task<1)||!below f.fn c.az.length)&&
 !(!below f.pc ((dp c f).ins.length+1)||!decide ((f.loc.length:Int)=(dp c f).locals)||decide (100<(f.stack.length:Int)))&&
 f.kids.all (yk (dp c f).locals)&&f.loc.all isVal&&f.stack.all isVal&&decide (0<=f.many)&&below f.spent 2001
structure Tiny (c:Cd) (f:Frame):Prop where
 az:c.az.length<1000
 cells:c.cells.length<1000
 ins:∀b∈c.az,b.ins.length<1000
 path:f.path.length<1000
 loc:f.loc.length<1000
 stack:f.stack.length<1000
 kids:f.kids.length<1000
end Uw.Tryz.Vm
namespace Uw.Tryz.Vm
open Go Uw Uw.Tryz
def rows (l:List Int):List (List Dat):=l.map fun n=>[I n]
def ep (l:List (Int×Int)):List (List Dat):=l.map fN
theorem XQ (l:List Int) (hl:l.length<1000):eP P0 di [.d (ae l)] [] (.ref 0 1 0 l.length) [.mt 1 1 (rows l)]:=by
 have hm:(l.map fun i=>[I i]).length=l.length:=by simp
 refine dB lE rfl ?_;refine bE (fun h1=>?_) (fun h1=>?_)
 ·have h1:l=[]:=by simpa using h1
  subst h1;refine wv ?_ ?_
  ·refine aw ?_
   exact dh 0 rfl rfl (by exact Uw.wW)
  ·refine aw ?_
   refine aw ?_;refine ah rfl ?_;exact dh 0 rfl rfl (by exact Uw.wW)
 ·refine aw ?_
  refine aw ?_;refine ah (by simp;omega) ?_;exact dh 0 rfl rfl (by exact Uw.wW)
theorem XR (l:List (Int×Int)) (hl:l.length<1000):eP P0 fH [.d (.slice 2 (l.map fN) false)] [] (.ref 0 1 0 l.length) [.mt 2 1 (ep l)]:=by
 have hm:(l.map fN).length=l.length:=by simp
 refine dB qd rfl ?_;refine bE (fun h1=>?_) (fun h1=>?_)
 ·have h1:l=[]:=by simpa using h1
  subst h1;refine wv ?_ ?_
  ·refine aw ?_
   exact dh 0 rfl rfl (by exact Uw.wW)
  ·refine aw ?_
   refine aw ?_;refine ah rfl ?_;exact dh 0 rfl rfl (by exact Uw.wW)
 ·refine aw ?_
  refine aw ?_;refine ah (by simp;omega) ?_;exact dh 0 rfl rfl (by exact Uw.wW)
theorem cA (l:List Int) (hl:l.length<1000) (h:Heap) (nx:Nat):bO P0 di [.d (ae l)] h nx (fun r h' nx'=>r = .val (.ref nx 1 0 l.length)/\h' = (nx,.mt 1 1 (rows l))::h/\nx' = nx+1):=by
 refine bO.mono ((XQ l hl).frame [] (aa8 _) (by simp) (by simp) (by simp [bk,look]) ⟨.inl ⟨rfl,rfl⟩,trivial⟩) ?_;rintro r h' nx' ⟨_,_,_,⟨rfl,rfl,rfl⟩,rfl,rfl,rfl⟩;exact ⟨rfl,rfl,rfl⟩
theorem mW (l:List (Int×Int)) (hl:l.length<1000) (h:Heap) (nx:Nat):bO P0 fH [.d (.slice 2 (l.map fN) false)] h nx (fun r h' nx'=>r = .val (.ref nx 1 0 l.length)/\h' = (nx,.mt 2 1 (ep l))::h/\nx' = nx+1):=by
 refine bO.mono ((XR l hl).frame [] (aa8 _) (by simp) (by simp) (by simp [bk,look]) ⟨.inl ⟨rfl,rfl⟩,trivial⟩) ?_;rintro r h' nx' ⟨_,_,_,⟨rfl,rfl,rfl⟩,rfl,rfl,rfl⟩;exact ⟨rfl,rfl,rfl⟩
def RZ (f:Frame) (i:Nat):List V:=[.d (I f.task),.ref i 1 0 f.path.length,.d (I f.fn),.d (I f.pc),.ref (i+1) 1 0 f.loc.length,.ref (i+2) 1 0 f.stack.length,.ref (i+3) 1 0 f.kids.length,.d (I f.many),.d (I f.spent),.d (.bool f.fail)]
end Uw.Tryz.Vm
namespace Uw.Tryz.Vm
open Go Uw Uw.Tryz
def aM:List V:=[.d (I 0),.d (I 0),.d (I 0),.d (I 0),.d (I 0),.d (I 0),.d (I 0),.d .nil]
def tK:List V:=[.d (I 0),.d .nil,.d (I 0),.d (I 0),.d .nil,.d .nil,.d .nil,.d (I 0),.d (I 0),.d (.bool false)]
structure LX where
 f:Frame
 xs:List (List Dat)
 n:Nat
 ver:Nat
 ls:List (List Dat)
def frV (x:LX):List V:=[.d (I x.f.task),.ref 6 1 0 x.f.path.length,.d (I x.f.fn),.d (I x.f.pc),.ref 7 1 0 x.f.loc.length,.ref 8 x.ver 0 x.n,.ref 9 1 0 x.f.kids.length,.d (I x.f.many),.d (I x.f.spent),.d (.bool x.f.fail)]
def cV (c:Cd):List V:=(V.b9 (cdD c)).cells
def bV (b:Bd):List V:=(bdC b).map V.d
def eR (i:In4):List V:=(in4 i).map V.d
def table:List V:=[.d .nilFunc,.d (.func 84),.d (.func 85),.d (.func 86),.d (.func 87),.d (.func 88),.func 139 [] [.ptr 11 0],.func 139 [] [.ptr 12 0],.func 139 [] [.ptr 13 0],.func 139 [] [.ptr 14 0],.func 139 [] [.ptr 15 0],
 .d (.func 97),.d (.func 98),.d (.func 99),.d (.func 100),.d (.func 101),.d (.func 102),.d (.func 103),.d (.func 104),.func 139 [] [.ptr 16 0]]
def bU (c:Cd) (b:Bd) (f0:Frame) (x:LX) (ask:List V):Heap:=
 [(5,.var (cV c++bV b++frV x++ask)),(6,.mt 1 1 (rows x.f.path)),(7,.mt 1 1 x.ls),(8,.mt 1 x.ver x.xs),(9,.mt 2 1 (ep x.f.kids)),
   (11,.var [.d (.func 90)]),(12,.var [.d (.func 92)]),(13,.var [.d (.func 93)]),(14,.var [.d (.func 94)]),(15,.var [.d (.func 96)]),(16,.var [.d (.func 105)]),(17,.var table),
   (0,.var (cV c)),(1,.var (V.b9 (bW f0)).cells),(2,.var tK),(3,.var aM),(4,.var [.d (I 0)])]
def LH (c:Cd) (b:Bd) (f0:Frame) (x:LX) (ask:List V) (i:In4):Heap:=(18,.var (eR i))::bU c b f0 x ask
structure Inv (c:Cd) (b:Bd) (x:LX):Prop where
 pre:x.xs.take x.n=rows x.f.stack
 len:x.n=x.f.stack.length
 le:x.n<=x.xs.length
 loc:x.ls=rows x.f.loc
 deep:x.f.stack.length<=100
 pc0:0<=x.f.pc
 pc1:x.f.pc<1000
 sp0:0<=x.f.spent
 sp1:x.f.spent<2000
 pA:x.f.loc.length<1000
 kids:x.f.kids.length<1000
 ins:b.ins.length<1000
 az:c.az.length<1000
 cells:c.cells.length<1000
def vS:Dat:=.iface 28 (I 1)
def passed (x:LX):LX:={ x with f:={ x.f with pc:=x.f.pc+1,spent:=x.f.spent+1 } }
end Uw.Tryz.Vm
namespace Uw.Tryz.Vm
open Go Uw Uw.Tryz
def H19 (c:Cd) (b:Bd) (f0:Frame) (x:LX) (ask:List V) (i:In4):Heap:=(19,.var (eR i))::LH c b f0 x ask i
theorem aU (p:V) (bb:Bool) (h:Heap) (nx:Nat):bO P0 oG [p,.d (.bool bb)] h nx (fun r h' nx'=>h' = h/\nx' = nx/\((bb=true/\r = .val (.tuple []))\/(bb=false/\r = .pan vS))):=by
 refine A3 cZ rfl ?_
 cases bb with
 | true=>
  refine aS rfl ?_;exact cT rfl rfl ⟨rfl,rfl,.inl ⟨rfl,rfl⟩⟩
 | false=>
  refine ah rfl ?_;exact ky rfl ⟨rfl,rfl,.inr ⟨rfl,rfl⟩⟩
theorem lr {xs:List (List Dat)} {n:Nat} {s:List Int} (h1:xs.take n=rows s) (h2:n=s.length) (h3:n<=xs.length) (h0:0<n):xs[n - 1]? = some [I (s.getLastD 0)]:=by
 have h4:(xs.take n)[n - 1]? = xs[n - 1]?:=by rw [abb,if_pos (by omega)]
 rw [<- h4,h1,rows,abE];have:s[n - 1]? = some (s.getLastD 0):=by
  subst h2;rw [<- List.getLast?_eq_getElem?,adx]
  cases s with
  | nil=>simp at h0
  | cons a r=>simp [List.getLast?_cons]
 rw [this];rfl
end Uw.Tryz.Vm
namespace Uw.Tryz.Vm
open Go Uw Uw.Tryz
def zQ:List V:=[.d (I 5),.d (I 0),.d (I 0),.d (I 0),.d (I 0),.d (I 0),.d (I 0),.d .nil]
def awaited (f:Frame) (l:Int):Bool:=f.kids.any fun k=>decide (k.2=l)
theorem R2 {α:Type} (p:α->Bool) (l:List α) (k:Nat) (h:k<l.length):(l.take (k+1)).any p=((l.take k).any p||p l[k]):=by
 rw [abw h,List.any_append];simp
theorem U2 {l:List (Int×Int)} {k m:Nat} (h:k<l.length) (hm:m=k:=by omega):(ep l)[m]? = some (fN l[k]):=by
 subst hm;simp [ep,h]
theorem Nj (c:Cd) (b:Bd) (f0:Frame) (x:LX) (i:In4) (l:Int) (hx:Inv c b x) :
  bO P0 oU [.ptr 5 0,.d (I l)] (H19 c b f0 x aM i) 20 (fun r h' nx'=>nx' = 20/\
   ((below l x.f.loc.length=false/\r = .pan vS/\h' = H19 c b f0 x aM i)\/
     (below l x.f.loc.length=true/\awaited x.f l=true/\r = .val (.d (.bool true))/\h' = H19 c b f0 x zQ i)\/
     (below l x.f.loc.length=true/\awaited x.f l=false/\r = .val (.d (.bool false))/\h' = H19 c b f0 x aM i))):=by
 have h5:=hx.pA;have h6:=hx.kids;refine bT vM rfl ?_;refine cB ?_;refine aL _ (s25 _ _) ?_;refine au (aU _ _ _ _) ?_;rintro _ _ _ ⟨rfl,rfl,⟨hb,rfl⟩|⟨hb,rfl⟩⟩
 ·refine cB ?_
  refine dM (fun k:Int=>⟨[(0,.ptr 5 0),(1,.d (I l)),(21,.ref 9 1 0 x.f.kids.length),(22,.d (I x.f.kids.length)),(23,.d (I k))],H19 c b f0 x aM i,20,[],20⟩)
   (fun k=>0<=k/\k<=x.f.kids.length/\(x.f.kids.take k.toNat).any (fun k=>decide (k.2=l))=false) (fun k=>(x.f.kids.length - k).toNat) 0 ?_ ⟨by omega,by omega,by simp⟩ ?_
  ·exact Weak.eqs [] (by kernel_rfl) (by kernel_rfl) (by kernel_rfl) (by kernel_rfl) (by kernel_rfl) (by kernel_rfl) (by kernel_rfl) (by kernel_rfl) (by kernel_rfl) (by kernel_rfl)
  ·rintro k ⟨h0,h1,hall⟩
   refine bE (fun h=>?_) (fun h=>?_)
   ·simp at h
    refine cB ?_;refine ah (by simp;omega) ?_;refine cB ?_;refine aF (fN x.f.kids[k.toNat]) (U2 (by omega)) ?_;refine bE (fun h2=>?_) (fun h2=>?_)
    ·refine ce ?_
     refine aj ⟨⟨[(4,.d (.bool true))],H19 c b f0 x zQ i,20,[],20⟩,.inr ?_,rfl,_,rfl,rfl,.inr (.inl ⟨hb,?_,rfl,rfl⟩)⟩
     ·exact Weak.eqs [] (by kernel_rfl) (by kernel_rfl) (by kernel_rfl) (by kernel_rfl) (by kernel_rfl) (by kernel_rfl) (by kernel_rfl) (by kernel_rfl) (by kernel_rfl) (by kernel_rfl)
     ·simp at h2
      exact acS.2 ⟨x.f.kids[k.toNat],abg _,by simp [h2]⟩
    ·refine ah (by simp [inR];omega) ?_
     refine aW (k+1) ⟨by omega,by omega,?_⟩ (by omega) ?_
     ·rw [show (k+1).toNat=k.toNat+1 by omega,R2 _ _ k.toNat (by omega),hall]
      simpa [fN] using h2
     ·exact Weak.eqs [] (by kernel_rfl) (by kernel_rfl) (by kernel_rfl) (by kernel_rfl) (by kernel_rfl) (by kernel_rfl) (by kernel_rfl) (by kernel_rfl) (by kernel_rfl) (by kernel_rfl)
   ·refine aZ ?_
    simp at h;refine aj ⟨⟨[(4,.d (.bool false))],H19 c b f0 x aM i,20,[],20⟩,.inr ?_,rfl,_,rfl,rfl,.inr (.inr ⟨hb,?_,rfl,rfl⟩)⟩
    ·exact Weak.eqs [] (by kernel_rfl) (by kernel_rfl) (by kernel_rfl) (by kernel_rfl) (by kernel_rfl) (by kernel_rfl) (by kernel_rfl) (by kernel_rfl) (by kernel_rfl) (by kernel_rfl)
    ·rw [aa7 (by omega)] at hall
     exact hall
 ·refine aj ⟨⟨[],H19 c b f0 x aM i,20,[],20⟩,.inr ?_,rfl,rfl,.inl ⟨hb,rfl,rfl⟩⟩
  exact Weak.eqs [] (by kernel_rfl) (by kernel_rfl) (by kernel_rfl) (by kernel_rfl) (by kernel_rfl) (by kernel_rfl) (by kernel_rfl) (by kernel_rfl) (by kernel_rfl) (by kernel_rfl)
end Uw.Tryz.Vm
namespace Uw.Tryz.Vm
open Go Uw Uw.Tryz
def pushed (x:LX) (v:Int):LX:={ x with xs:=x.xs.take x.n++[[I v]],n:=x.n+1,ver:=x.ver+1 }
def rj (x:LX) (to:Int):LX:={ x with f:={ x.f with pc:=to,spent:=x.f.spent+1 } }
def popped (x:LX):LX:={ x with n:=((x.n:Int) - 1 - 0).toNat }
theorem Y2 (c:Cd) (b:Bd) (f0:Frame) (x:LX) (i:In4) (v:Int) (h1:x.n<=x.xs.length) :
  bO P0 qh [.ptr 5 0,.d (I v)] (H19 c b f0 x aM i) 20 (fun r h' nx'=>nx' = 20/\((x.n<100/\r = .val (.tuple [])/\h' = H19 c b f0 (pushed x v) aM i)\/(¬x.n<100/\r = .pan vS/\h' = H19 c b f0 x aM i))):=by
 refine bT dj rfl ?_;refine cB ?_;refine au (aU _ _ _ _) ?_;rintro _ _ _ ⟨rfl,rfl,⟨hb,rfl⟩|⟨hb,rfl⟩⟩
 ·simp at hb
  refine cB ?_;refine ah (by simp;omega) ?_;refine aj ⟨⟨[],H19 c b f0 (pushed x v) aM i,20,[],20⟩,.inr ?_,rfl,[],rfl,rfl,.inl ⟨by omega,rfl,rfl⟩⟩;exact Weak.eqs [] (by kernel_rfl) (by kernel_rfl) (by kernel_rfl) (by kernel_rfl) (by kernel_rfl) (by kernel_rfl) (by kernel_rfl) (by kernel_rfl) (by kernel_rfl) (by kernel_rfl)
 ·simp at hb
  refine aj ⟨⟨[],H19 c b f0 x aM i,20,[],20⟩,.inr ?_,rfl,rfl,.inr ⟨by omega,rfl,rfl⟩⟩;exact Weak.eqs [] (by kernel_rfl) (by kernel_rfl) (by kernel_rfl) (by kernel_rfl) (by kernel_rfl) (by kernel_rfl) (by kernel_rfl) (by kernel_rfl) (by kernel_rfl) (by kernel_rfl)
theorem R7 (c:Cd) (b:Bd) (f0:Frame) (x:LX) (i:In4) (to:Int) (h3:0<=x.f.spent) (h4:x.f.spent<2000) :
  bO P0 oW [.ptr 5 0,.d (I to)] (H19 c b f0 x aM i) 20 (fun r h' nx'=>nx' = 20/\r = .val (.tuple [])/\h' = H19 c b f0 (rj x to) aM i):=by
 refine bT c8 rfl ?_;refine ah (by simp [inR];omega) ?_;refine aj ⟨⟨[],H19 c b f0 (rj x to) aM i,20,[],20⟩,.inr ?_,rfl,[],rfl,rfl,rfl,rfl⟩;exact Weak.eqs [] (by kernel_rfl) (by kernel_rfl) (by kernel_rfl) (by kernel_rfl) (by kernel_rfl) (by kernel_rfl) (by kernel_rfl) (by kernel_rfl) (by kernel_rfl) (by kernel_rfl)
theorem mF (c:Cd) (b:Bd) (f0:Frame) (x:LX) (i:In4) (h1:0<=x.f.pc) (h2:x.f.pc<1000) (h3:0<=x.f.spent) (h4:x.f.spent<2000) :
  bO P0 oS [.ptr 5 0] (H19 c b f0 x aM i) 20 (fun r h' nx'=>nx' = 20/\r = .val (.tuple [])/\h' = H19 c b f0 (passed x) aM i):=by
 refine bT c6 rfl ?_;refine ah (by simp [inR];omega) ?_;refine au (R7 c b f0 x i _ h3 h4) ?_;rintro _ _ _ ⟨rfl,rfl,rfl⟩;refine aj ⟨⟨[],H19 c b f0 (passed x) aM i,20,[],20⟩,.inr ?_,rfl,[],rfl,rfl,rfl,rfl⟩;exact Weak.eqs [] (by kernel_rfl) (by kernel_rfl) (by kernel_rfl) (by kernel_rfl) (by kernel_rfl) (by kernel_rfl) (by kernel_rfl) (by kernel_rfl) (by kernel_rfl) (by kernel_rfl)
theorem Pm (c:Cd) (b:Bd) (f0:Frame) (x:LX) (i:In4) (hx:Inv c b x) :
  bO P0 qi [.ptr 5 0] (H19 c b f0 x aM i) 20 (fun r h' nx'=>nx' = 20/\((0<x.n/\r = .val (.d (I (x.f.stack.getLastD 0)))/\h' = H19 c b f0 (popped x) aM i)\/(x.n=0/\r = .pan vS/\h' = H19 c b f0 x aM i))):=by
 have h5:=hx.deep;have h6:=hx.len;have h7:=hx.le;refine bT xX rfl ?_;refine bM bZ rfl ?_;refine cB ?_;refine au (aU _ _ _ _) ?_;rintro _ _ _ ⟨rfl,rfl,⟨hb,rfl⟩|⟨hb,rfl⟩⟩
 ·simp at hb
  refine cB ?_;refine ah (by simp [inR];omega) ?_;refine cB ?_;refine ah (by simp;omega) ?_;refine cB ?_;refine ah (by simp;omega) ?_;refine cB ?_;refine ah (by simp;omega) ?_;refine dL rfl rfl ?_;refine ah rfl ?_;refine ah (by simp;omega) ?_;refine ah rfl ?_;refine aF [I (x.f.stack.getLastD 0)] (by simp only [abb,abj];rw [if_pos (by omega),show 0+((x.n:Int) - 1).toNat+(0+(0:Int).toNat)=x.n - 1 by omega];exact lr hx.pre hx.len hx.le (by omega)) ?_;refine aj ⟨⟨[(2,.d (I (x.f.stack.getLastD 0)))],H19 c b f0 (popped x) aM i,20,[],20⟩,.inr ?_,rfl,_,rfl,rfl,.inl ⟨by omega,rfl,rfl⟩⟩;exact Weak.eqs [] (by kernel_rfl) (by kernel_rfl) (by kernel_rfl) (by kernel_rfl) (by kernel_rfl) (by kernel_rfl) (by kernel_rfl) (by kernel_rfl) (by kernel_rfl) (by kernel_rfl)
 ·simp at hb
  refine ky rfl ?_;refine aj ⟨⟨[],H19 c b f0 x aM i,20,[],20⟩,.inr ?_,rfl,rfl,.inr ⟨by omega,rfl,rfl⟩⟩;exact Weak.eqs [] (by kernel_rfl) (by kernel_rfl) (by kernel_rfl) (by kernel_rfl) (by kernel_rfl) (by kernel_rfl) (by kernel_rfl) (by kernel_rfl) (by kernel_rfl) (by kernel_rfl)
end Uw.Tryz.Vm
namespace Uw.Tryz.Vm
open Go Uw Uw.Tryz
structure Mid (c:Cd) (b:Bd) (x:LX):Prop where
 pre:x.xs.take x.n=rows x.f.stack
 len:x.n=x.f.stack.length
 le:x.n<=x.xs.length
 loc:x.ls=rows x.f.loc
 deep:x.f.stack.length<=100
 pc0:0<=x.f.pc
 pc1:x.f.pc<=1000
 sp0:0<=x.f.spent
 sp1:x.f.spent<=2000
 pA:x.f.loc.length<1000
 kids:x.f.kids.length<1000
def aJ:Ask:=⟨0,0,0,(0,0,0,0),[]⟩
def AV (a:Ask):List V:=[.d (I a.kind),.d (I a.a),.d (I a.b),.d (I a.op.1),.d (I a.op.2.1),.d (I a.op.2.2.1),.d (I a.op.2.2.2),.d .nil]
def Done (c:Cd) (b:Bd) (f0:Frame) (i:In4) (s:Option (Frame×Ask)) (r:Res) (h' : Heap) (nx' : Nat):Prop:=
 match s with
 | none=>nx' = 19/\r = .pan vS/\∃y ask,h' = LH c b f0 y ask i
 | some (g,a)=>nx' = 19/\r = .val (.tuple [])/\∃y,y.f=g/\Mid c b y/\h' = LH c b f0 y (AV a) i
def pass (f:Frame) (to:Int):Frame:={ f with pc:=to,spent:=f.spent+1 }
def next (f:Frame):Frame:=pass f (f.pc+1)
def nU (f:Frame) (v:Int):Frame:={ f with stack:=f.stack++[v] }
def ei (f:Frame):Frame:={ f with stack:=f.stack.dropLast }
def cE (f:Frame):Int:=f.stack.getLastD 0
theorem Inv.mid {c:Cd} {b:Bd} {x:LX} (h:Inv c b x):Mid c b x:=⟨h.pre,h.len,h.le,h.loc,h.deep,h.pc0,by have:=h.pc1;omega,h.sp0,by have:=h.sp1;omega,h.pA,h.kids⟩
theorem Mid.go {c:Cd} {b:Bd} {x:LX} (h:Inv c b x) (to:Int) (h0:0<=to) (h1:to<=1000):Mid c b (rj x to):=
 ⟨h.pre,h.len,h.le,h.loc,h.deep,h0,h1,by have:=h.sp0;simp [rj];omega,by have:=h.sp1;simp [rj];omega,h.pA,h.kids⟩
theorem zR (a b:List Int):rows (a++b)=rows a++rows b:=by simp [rows]
def jN (x:LX) (v:Int):LX:={ pushed x v with f:=nU x.f v }
def bB (x:LX):LX:={ popped x with f:=ei x.f }
theorem Inv.push {c:Cd} {b:Bd} {x:LX} (h:Inv c b x) (v:Int) (hn:x.n<100):Inv c b (jN x v):=by
 have h1:=h.len;have h2:=h.le;refine ⟨?_,?_,?_,h.loc,?_,h.pc0,h.pc1,h.sp0,h.sp1,h.pA,h.kids,h.ins,h.az,h.cells⟩
 ·simp only [jN,pushed,nU,zR]
  rw [aa7 (by simp;omega),h.pre];rfl
 ·simp [jN,pushed,nU];omega
 ·simp [jN,pushed];omega
 ·simp [jN,nU];omega
theorem Inv.pop {c:Cd} {b:Bd} {x:LX} (h:Inv c b x) (hn:0<x.n):Inv c b (bB x):=by
 have h1:=h.len;have h2:=h.le;have h3:=h.deep;have e:((x.n:Int) - 1 - 0).toNat=x.n - 1:=by omega
 refine ⟨?_,?_,?_,h.loc,?_,h.pc0,h.pc1,h.sp0,h.sp1,h.pA,h.kids,h.ins,h.az,h.cells⟩
 ·simp only [bB,popped,ei,e]
  have:x.xs.take (x.n - 1)=(x.xs.take x.n).take (x.n - 1):=by rw [ac2,Nat.min_eq_left (by omega)]
  rw [this,h.pre,List.dropLast_eq_take,rows,rows,List.map_take,h1]
 ·simp [bB,popped,ei];omega
 ·simp [bB,popped];omega
 ·simp [bB,ei];omega
theorem y7 {l:List Int} {k m:Nat} (h:k<l.length) (hm:m=k):(rows l)[m]? = some [I (l.getD k 0)]:=by
 subst hm;simp [rows,h]
def fO (f:Frame) (i:In4):Option (Frame×Ask):=
 if below i.a f.loc.length then
  if awaited f i.a then some (f,{ aJ with kind:=5 })
  else if f.stack.length<100 then some (next (nU f (f.loc.getD i.a.toNat 0)),aJ) else none
 else none
theorem U3 (c:Cd) (b:Bd) (f0:Frame) (x:LX) (i:In4) (hx:Inv c b x) :
  bO P0 Df [.ptr 5 0,.agg (eR i)] (LH c b f0 x aM i) 19 (Done c b f0 i (fO x.f i)):=by
 have h6:=hx.len;refine bT Jd rfl ?_;refine au (Nj c b f0 x i i.a hx) ?_;rintro _ _ _ ⟨rfl,⟨hb,rfl,rfl⟩|⟨hb,ha,rfl,rfl⟩|⟨hb,ha,rfl,rfl⟩⟩
 ·have hs:fO x.f i=none:=by simp [fO,hb]
  refine aj ⟨⟨[],LH c b f0 x aM i,19,[],19⟩,.inr ?_,rfl,?_⟩
  ·exact Weak.eqs [] (by kernel_rfl) (by kernel_rfl) (by kernel_rfl) (by kernel_rfl) (by kernel_rfl) (by kernel_rfl) (by kernel_rfl) (by kernel_rfl) (by kernel_rfl) (by kernel_rfl)
  ·rw [hs];exact ⟨rfl,rfl,_,_,rfl⟩
 ·have hs:fO x.f i=some (x.f,{ aJ with kind:=5 }):=by simp [fO,hb,ha]
  refine ah rfl ?_;refine aj ⟨⟨[],LH c b f0 x zQ i,19,[],19⟩,.inr ?_,rfl,[],rfl,?_⟩
  ·exact Weak.eqs [] (by kernel_rfl) (by kernel_rfl) (by kernel_rfl) (by kernel_rfl) (by kernel_rfl) (by kernel_rfl) (by kernel_rfl) (by kernel_rfl) (by kernel_rfl) (by kernel_rfl)
  ·rw [hs];exact ⟨rfl,rfl,x,rfl,hx.mid,rfl⟩
 ·have hb' : 0<=i.a/\i.a<x.f.loc.length:=by simpa [below] using hb
  have hlt:i.a.toNat<x.f.loc.length:=by omega
  refine aS rfl ?_;refine cB ?_;refine ah (by simp;omega) ?_;refine cB ?_;refine aF [I (x.f.loc.getD i.a.toNat 0)] (by rw [hx.loc];exact y7 hlt (by omega)) ?_;refine au (Y2 c b f0 x i _ hx.le) ?_;rintro _ _ _ ⟨rfl,⟨hn,rfl,rfl⟩|⟨hn,rfl,rfl⟩⟩
  ·have hs:fO x.f i=some (next (nU x.f (x.f.loc.getD i.a.toNat 0)),aJ):=by simp [fO,hb,ha];omega
   have hy:=hx.push (x.f.loc.getD i.a.toNat 0) hn;refine au (mF c b f0 (jN x (x.f.loc.getD i.a.toNat 0)) i hy.pc0 hy.pc1 hy.sp0 hy.sp1) ?_;rintro _ _ _ ⟨rfl,rfl,rfl⟩;refine aj ⟨⟨[],LH c b f0 (passed (jN x (x.f.loc.getD i.a.toNat 0))) aM i,19,[],19⟩,.inr ?_,rfl,[],rfl,?_⟩
   ·exact Weak.eqs [] (by kernel_rfl) (by kernel_rfl) (by kernel_rfl) (by kernel_rfl) (by kernel_rfl) (by kernel_rfl) (by kernel_rfl) (by kernel_rfl) (by kernel_rfl) (by kernel_rfl)
   ·rw [hs];exact ⟨rfl,rfl,_,rfl,Mid.go hy _ (by have:=hy.pc0;omega) (by have:=hy.pc1;omega),rfl⟩
  ·have hs:fO x.f i=none:=by simp [fO,hb,ha];omega
   refine aj ⟨⟨[],LH c b f0 x aM i,19,[],19⟩,.inr ?_,rfl,?_⟩
   ·exact Weak.eqs [] (by kernel_rfl) (by kernel_rfl) (by kernel_rfl) (by kernel_rfl) (by kernel_rfl) (by kernel_rfl) (by kernel_rfl) (by kernel_rfl) (by kernel_rfl) (by kernel_rfl)
   ·rw [hs];exact ⟨rfl,rfl,_,_,rfl⟩
end Uw.Tryz.Vm
namespace Uw.Tryz.Vm
open Go Uw Uw.Tryz
theorem ua {c:Cd} {b:Bd} {x:LX} (hx:Inv c b x):(x.n=0)=(x.f.stack=[]):=by
 rw [hx.len,List.length_eq_zero_iff]
theorem Nk (c:Cd) (b:Bd) (f0:Frame) (x:LX) (i:In4) (hx:Inv c b x) :
  bO P0 oV [.ptr 5 0] (H19 c b f0 x aM i) 20 (fun r h' nx'=>nx' = 20/\
   ((x.f.kids=[]/\r = .val (.d (.bool false))/\h' = H19 c b f0 x aM i)\/(x.f.kids≠[]/\r = .val (.d (.bool true))/\h' = H19 c b f0 x zQ i))):=by
 have h5:=hx.kids;refine bT vN rfl ?_;refine cB ?_;refine bE (fun h=>?_) (fun h=>?_)
 ·simp at h
  refine aj ⟨⟨[(2,.d (.bool false))],H19 c b f0 x aM i,20,[],20⟩,.inr ?_,rfl,_,rfl,rfl,.inl ⟨h,rfl,rfl⟩⟩;exact Weak.eqs [] (by kernel_rfl) (by kernel_rfl) (by kernel_rfl) (by kernel_rfl) (by kernel_rfl) (by kernel_rfl) (by kernel_rfl) (by kernel_rfl) (by kernel_rfl) (by kernel_rfl)
 ·simp at h
  refine aj ⟨⟨[(2,.d (.bool true))],H19 c b f0 x zQ i,20,[],20⟩,.inr ?_,rfl,_,rfl,rfl,.inr ⟨h,rfl,rfl⟩⟩;exact Weak.eqs [] (by kernel_rfl) (by kernel_rfl) (by kernel_rfl) (by kernel_rfl) (by kernel_rfl) (by kernel_rfl) (by kernel_rfl) (by kernel_rfl) (by kernel_rfl) (by kernel_rfl)
theorem Jw (c:Cd) (b:Bd) (f0:Frame) (x:LX) (i:In4) (to:Int) (hx:Inv c b x) :
  bO P0 nE [.ptr 5 0,.d (I to)] (H19 c b f0 x aM i) 20 (fun r h' nx'=>nx' = 20/\h' = H19 c b f0 x aM i/\
   ((below to b.ins.length=true/\r = .val (.d (I to)))\/(below to b.ins.length=false/\r = .pan vS))):=by
 have h5:=hx.ins;refine bT uz rfl ?_;refine aL _ (s25 _ _) ?_;refine au (aU _ _ _ _) ?_;rintro _ _ _ ⟨rfl,rfl,⟨hb,rfl⟩|⟨hb,rfl⟩⟩
 ·refine aj ⟨⟨[(4,.d (I to))],H19 c b f0 x aM i,20,[],20⟩,.inr ?_,rfl,_,rfl,rfl,rfl,.inl ⟨by simpa [below] using hb,rfl⟩⟩
  exact Weak.eqs [] (by kernel_rfl) (by kernel_rfl) (by kernel_rfl) (by kernel_rfl) (by kernel_rfl) (by kernel_rfl) (by kernel_rfl) (by kernel_rfl) (by kernel_rfl) (by kernel_rfl)
 ·refine aj ⟨⟨[],H19 c b f0 x aM i,20,[],20⟩,.inr ?_,rfl,rfl,rfl,.inr ⟨by simpa [below] using hb,rfl⟩⟩
  exact Weak.eqs [] (by kernel_rfl) (by kernel_rfl) (by kernel_rfl) (by kernel_rfl) (by kernel_rfl) (by kernel_rfl) (by kernel_rfl) (by kernel_rfl) (by kernel_rfl) (by kernel_rfl)
def jX (f:Frame) (i:In4):Option (Frame×Ask):=if isVal i.a=true/\f.stack.length<100 then some (next (nU f i.a),aJ) else none
theorem U4 (c:Cd) (b:Bd) (f0:Frame) (x:LX) (i:In4) (hx:Inv c b x) :
  bO P0 FD [.ptr 5 0,.agg (eR i)] (LH c b f0 x aM i) 19 (Done c b f0 i (jX x.f i)):=by
 have h6:=hx.len;refine bT Lj rfl ?_;refine aL _ (s38 _) ?_;refine au (aU _ _ _ _) ?_;rintro _ _ _ ⟨rfl,rfl,⟨hb,rfl⟩|⟨hb,rfl⟩⟩
 ·refine au (Y2 c b f0 x i _ hx.le) ?_
  rintro _ _ _ ⟨rfl,⟨hn,rfl,rfl⟩|⟨hn,rfl,rfl⟩⟩
  ·have hs:jX x.f i=some (next (nU x.f i.a),aJ):=by simp [jX,hb];omega
   have hy:=hx.push i.a hn;refine au (mF c b f0 (jN x i.a) i hy.pc0 hy.pc1 hy.sp0 hy.sp1) ?_;rintro _ _ _ ⟨rfl,rfl,rfl⟩;refine aj ⟨⟨[],LH c b f0 (passed (jN x i.a)) aM i,19,[],19⟩,.inr ?_,rfl,[],rfl,?_⟩
   ·exact Weak.eqs [] (by kernel_rfl) (by kernel_rfl) (by kernel_rfl) (by kernel_rfl) (by kernel_rfl) (by kernel_rfl) (by kernel_rfl) (by kernel_rfl) (by kernel_rfl) (by kernel_rfl)
   ·rw [hs];exact ⟨rfl,rfl,(passed (jN x i.a)),rfl,Mid.go hy _ (by have:=hy.pc0;omega) (by have:=hy.pc1;omega),rfl⟩
  ·have hs:jX x.f i=none:=by simp [jX,hb];omega
   refine aj ⟨⟨[],LH c b f0 x aM i,19,[],19⟩,.inr ?_,rfl,?_⟩
   ·exact Weak.eqs [] (by kernel_rfl) (by kernel_rfl) (by kernel_rfl) (by kernel_rfl) (by kernel_rfl) (by kernel_rfl) (by kernel_rfl) (by kernel_rfl) (by kernel_rfl) (by kernel_rfl)
   ·rw [hs];exact ⟨rfl,rfl,_,_,rfl⟩
 ·have hs:jX x.f i=none:=by simp [jX,hb]
  refine aj ⟨⟨[],LH c b f0 x aM i,19,[],19⟩,.inr ?_,rfl,?_⟩
  ·exact Weak.eqs [] (by kernel_rfl) (by kernel_rfl) (by kernel_rfl) (by kernel_rfl) (by kernel_rfl) (by kernel_rfl) (by kernel_rfl) (by kernel_rfl) (by kernel_rfl) (by kernel_rfl)
  ·rw [hs];exact ⟨rfl,rfl,_,_,rfl⟩
def o8 (c:Cd) (f:Frame) (i:In4):Option (Frame×Ask):=if below i.a c.cells.length then some (next f,{ aJ with kind:=1,a:=i.a }) else none
theorem XS (c:Cd) (b:Bd) (f0:Frame) (x:LX) (i:In4) (hx:Inv c b x) :
  bO P0 FG [.ptr 5 0,.agg (eR i)] (LH c b f0 x aM i) 19 (Done c b f0 i (o8 c x.f i)):=by
 have h6:=hx.len;refine bT Lm rfl ?_;have h7:=hx.cells;refine aL _ (s25 _ _) ?_;refine au (aU _ _ _ _) ?_;rintro _ _ _ ⟨rfl,rfl,⟨hb,rfl⟩|⟨hb,rfl⟩⟩
 ·have hs:o8 c x.f i=some (next x.f,{ aJ with kind:=1,a:=i.a }):=by simp at hb;simp [o8,below,hb]
  refine au (mF c b f0 x i hx.pc0 hx.pc1 hx.sp0 hx.sp1) ?_;rintro _ _ _ ⟨rfl,rfl,rfl⟩;refine aj ⟨⟨[],LH c b f0 (passed x) (AV { aJ with kind:=1,a:=i.a }) i,19,[],19⟩,.inr ?_,rfl,[],rfl,?_⟩
  ·exact Weak.eqs [] (by kernel_rfl) (by kernel_rfl) (by kernel_rfl) (by kernel_rfl) (by kernel_rfl) (by kernel_rfl) (by kernel_rfl) (by kernel_rfl) (by kernel_rfl) (by kernel_rfl)
  ·rw [hs];exact ⟨rfl,rfl,(passed x),rfl,Mid.go hx _ (by have:=hx.pc0;omega) (by have:=hx.pc1;omega),rfl⟩
 ·have hs:o8 c x.f i=none:=by simp at hb;simp [o8,below];omega
  refine aj ⟨⟨[],LH c b f0 x aM i,19,[],19⟩,.inr ?_,rfl,?_⟩
  ·exact Weak.eqs [] (by kernel_rfl) (by kernel_rfl) (by kernel_rfl) (by kernel_rfl) (by kernel_rfl) (by kernel_rfl) (by kernel_rfl) (by kernel_rfl) (by kernel_rfl) (by kernel_rfl)
  ·rw [hs];exact ⟨rfl,rfl,_,_,rfl⟩
def g8 (c:Cd) (f:Frame) (i:In4):Option (Frame×Ask):=if below i.a c.cells.length=true/\f.stack≠[] then some (next (ei f),{ aJ with kind:=2,a:=i.a,b:=cE f }) else none
theorem U5 (c:Cd) (b:Bd) (f0:Frame) (x:LX) (i:In4) (hx:Inv c b x) :
  bO P0 Dh [.ptr 5 0,.agg (eR i)] (LH c b f0 x aM i) 19 (Done c b f0 i (g8 c x.f i)):=by
 have h6:=hx.len;refine bT Jf rfl ?_;have h7:=hx.cells;refine aL _ (s25 _ _) ?_;refine au (aU _ _ _ _) ?_;rintro _ _ _ ⟨rfl,rfl,⟨hb,rfl⟩|⟨hb,rfl⟩⟩
 ·refine au (Pm c b f0 x i hx) ?_
  rintro _ _ _ ⟨rfl,⟨hn,rfl,rfl⟩|⟨hn,rfl,rfl⟩⟩
  ·have he:x.f.stack≠[]:=by intro h;rw [h6,h] at hn;simp at hn
   have hs:g8 c x.f i=some (next (ei x.f),{ aJ with kind:=2,a:=i.a,b:=cE x.f }):=by simp at hb;simp [g8,below,hb,he]
   have hy:=hx.pop hn;refine au (mF c b f0 (bB x) i hy.pc0 hy.pc1 hy.sp0 hy.sp1) ?_;rintro _ _ _ ⟨rfl,rfl,rfl⟩;refine aj ⟨⟨[],LH c b f0 (passed (bB x)) (AV { aJ with kind:=2,a:=i.a,b:=cE x.f }) i,19,[],19⟩,.inr ?_,rfl,[],rfl,?_⟩
   ·exact Weak.eqs [] (by kernel_rfl) (by kernel_rfl) (by kernel_rfl) (by kernel_rfl) (by kernel_rfl) (by kernel_rfl) (by kernel_rfl) (by kernel_rfl) (by kernel_rfl) (by kernel_rfl)
   ·rw [hs];exact ⟨rfl,rfl,(passed (bB x)),rfl,Mid.go hy _ (by have:=hy.pc0;omega) (by have:=hy.pc1;omega),rfl⟩
  ·have he:x.f.stack=[]:=by rw [<- ua hx];exact hn
   have hs:g8 c x.f i=none:=by simp [g8,he]
   refine aj ⟨⟨[],LH c b f0 x aM i,19,[],19⟩,.inr ?_,rfl,?_⟩
   ·exact Weak.eqs [] (by kernel_rfl) (by kernel_rfl) (by kernel_rfl) (by kernel_rfl) (by kernel_rfl) (by kernel_rfl) (by kernel_rfl) (by kernel_rfl) (by kernel_rfl) (by kernel_rfl)
   ·rw [hs];exact ⟨rfl,rfl,_,_,rfl⟩
 ·have hs:g8 c x.f i=none:=by simp at hb;simp [g8,below];omega
  refine aj ⟨⟨[],LH c b f0 x aM i,19,[],19⟩,.inr ?_,rfl,?_⟩
  ·exact Weak.eqs [] (by kernel_rfl) (by kernel_rfl) (by kernel_rfl) (by kernel_rfl) (by kernel_rfl) (by kernel_rfl) (by kernel_rfl) (by kernel_rfl) (by kernel_rfl) (by kernel_rfl)
  ·rw [hs];exact ⟨rfl,rfl,_,_,rfl⟩
def o9 (f:Frame):Option (Frame×Ask):=if f.stack≠[] then some (next (ei f),aJ) else none
theorem XT (c:Cd) (b:Bd) (f0:Frame) (x:LX) (i:In4) (hx:Inv c b x) :
  bO P0 FK [.ptr 5 0,.agg (eR i)] (LH c b f0 x aM i) 19 (Done c b f0 i (o9 x.f)):=by
 have h6:=hx.len;refine bT Lt rfl ?_;refine au (Pm c b f0 x i hx) ?_;rintro _ _ _ ⟨rfl,⟨hn,rfl,rfl⟩|⟨hn,rfl,rfl⟩⟩
 ·have he:x.f.stack≠[]:=by intro h;rw [h6,h] at hn;simp at hn
  have hs:o9 x.f=some (next (ei x.f),aJ):=by simp [o9,he]
  have hy:=hx.pop hn;refine au (mF c b f0 (bB x) i hy.pc0 hy.pc1 hy.sp0 hy.sp1) ?_;rintro _ _ _ ⟨rfl,rfl,rfl⟩;refine aj ⟨⟨[],LH c b f0 (passed (bB x)) aM i,19,[],19⟩,.inr ?_,rfl,[],rfl,?_⟩
  ·exact Weak.eqs [] (by kernel_rfl) (by kernel_rfl) (by kernel_rfl) (by kernel_rfl) (by kernel_rfl) (by kernel_rfl) (by kernel_rfl) (by kernel_rfl) (by kernel_rfl) (by kernel_rfl)
  ·rw [hs];exact ⟨rfl,rfl,(passed (bB x)),rfl,Mid.go hy _ (by have:=hy.pc0;omega) (by have:=hy.pc1;omega),rfl⟩
 ·have he:x.f.stack=[]:=by rw [<- ua hx];exact hn
  have hs:o9 x.f=none:=by simp [o9,he]
  refine aj ⟨⟨[],LH c b f0 x aM i,19,[],19⟩,.inr ?_,rfl,?_⟩
  ·exact Weak.eqs [] (by kernel_rfl) (by kernel_rfl) (by kernel_rfl) (by kernel_rfl) (by kernel_rfl) (by kernel_rfl) (by kernel_rfl) (by kernel_rfl) (by kernel_rfl) (by kernel_rfl)
  ·rw [hs];exact ⟨rfl,rfl,_,_,rfl⟩
def jv (f:Frame):Option (Frame×Ask):=if f.kids=[] then some (next f,aJ) else some (f,{ aJ with kind:=5 })
theorem XU (c:Cd) (b:Bd) (f0:Frame) (x:LX) (i:In4) (hx:Inv c b x) :
  bO P0 FM [.ptr 5 0,.agg (eR i)] (LH c b f0 x aM i) 19 (Done c b f0 i (jv x.f)):=by
 have h6:=hx.len;refine bT Lx rfl ?_;refine au (Nk c b f0 x i hx) ?_;rintro _ _ _ ⟨rfl,⟨hn,rfl,rfl⟩|⟨hn,rfl,rfl⟩⟩
 ·have hs:jv x.f=some (next x.f,aJ):=by simp [jv,hn]
  refine ah rfl ?_;refine au (mF c b f0 x i hx.pc0 hx.pc1 hx.sp0 hx.sp1) ?_;rintro _ _ _ ⟨rfl,rfl,rfl⟩;refine aj ⟨⟨[],LH c b f0 (passed x) aM i,19,[],19⟩,.inr ?_,rfl,[],rfl,?_⟩
  ·exact Weak.eqs [] (by kernel_rfl) (by kernel_rfl) (by kernel_rfl) (by kernel_rfl) (by kernel_rfl) (by kernel_rfl) (by kernel_rfl) (by kernel_rfl) (by kernel_rfl) (by kernel_rfl)
  ·rw [hs];exact ⟨rfl,rfl,(passed x),rfl,Mid.go hx _ (by have:=hx.pc0;omega) (by have:=hx.pc1;omega),rfl⟩
 ·have hs:jv x.f=some (x.f,{ aJ with kind:=5 }):=by simp [jv,hn]
  refine aS rfl ?_;refine aj ⟨⟨[],LH c b f0 x zQ i,19,[],19⟩,.inr ?_,rfl,[],rfl,?_⟩
  ·exact Weak.eqs [] (by kernel_rfl) (by kernel_rfl) (by kernel_rfl) (by kernel_rfl) (by kernel_rfl) (by kernel_rfl) (by kernel_rfl) (by kernel_rfl) (by kernel_rfl) (by kernel_rfl)
  ·rw [hs];exact ⟨rfl,rfl,x,rfl,hx.mid,rfl⟩
def pa (b:Bd) (f:Frame) (i:In4):Option (Frame×Ask):=if below i.a b.ins.length then some (pass f i.a,aJ) else none
theorem XV (c:Cd) (b:Bd) (f0:Frame) (x:LX) (i:In4) (hx:Inv c b x) :
  bO P0 FN [.ptr 5 0,.agg (eR i)] (LH c b f0 x aM i) 19 (Done c b f0 i (pa b x.f i)):=by
 have h6:=hx.len;refine bT Ly rfl ?_;have h7:=hx.ins;refine au (Jw c b f0 x i i.a hx) ?_;rintro _ _ _ ⟨rfl,rfl,⟨hb,rfl⟩|⟨hb,rfl⟩⟩
 ·have hs:pa b x.f i=some (pass x.f i.a,aJ):=by simp [pa,hb]
  have hb' : 0<=i.a/\i.a<b.ins.length:=by simpa [below] using hb
  refine au (R7 c b f0 x i i.a hx.sp0 hx.sp1) ?_;rintro _ _ _ ⟨rfl,rfl,rfl⟩;refine aj ⟨⟨[],LH c b f0 (rj x i.a) aM i,19,[],19⟩,.inr ?_,rfl,[],rfl,?_⟩
  ·exact Weak.eqs [] (by kernel_rfl) (by kernel_rfl) (by kernel_rfl) (by kernel_rfl) (by kernel_rfl) (by kernel_rfl) (by kernel_rfl) (by kernel_rfl) (by kernel_rfl) (by kernel_rfl)
  ·rw [hs];exact ⟨rfl,rfl,(rj x i.a),rfl,Mid.go hx _ (by omega) (by omega),rfl⟩
 ·have hs:pa b x.f i=none:=by simp [pa,hb]
  refine aj ⟨⟨[],LH c b f0 x aM i,19,[],19⟩,.inr ?_,rfl,?_⟩
  ·exact Weak.eqs [] (by kernel_rfl) (by kernel_rfl) (by kernel_rfl) (by kernel_rfl) (by kernel_rfl) (by kernel_rfl) (by kernel_rfl) (by kernel_rfl) (by kernel_rfl) (by kernel_rfl)
  ·rw [hs];exact ⟨rfl,rfl,_,_,rfl⟩
def kb (b:Bd) (f:Frame) (i:In4):Option (Frame×Ask):=if below i.a b.ins.length=true/\f.stack≠[] then (if cE f=0 then some (pass (ei f) i.a,aJ) else some (next (ei f),aJ)) else none
theorem XW (c:Cd) (b:Bd) (f0:Frame) (x:LX) (i:In4) (hx:Inv c b x) :
  bO P0 FO [.ptr 5 0,.agg (eR i)] (LH c b f0 x aM i) 19 (Done c b f0 i (kb b x.f i)):=by
 have h6:=hx.len;refine bT LA rfl ?_;have h7:=hx.ins;refine au (Jw c b f0 x i i.a hx) ?_;rintro _ _ _ ⟨rfl,rfl,⟨hb,rfl⟩|⟨hb,rfl⟩⟩
 ·have hb' : 0<=i.a/\i.a<b.ins.length:=by simpa [below] using hb
  refine au (Pm c b f0 x i hx) ?_;rintro _ _ _ ⟨rfl,⟨hn,rfl,rfl⟩|⟨hn,rfl,rfl⟩⟩
  ·have he:x.f.stack≠[]:=by intro h;rw [h6,h] at hn;simp at hn
   have hy:=hx.pop hn;refine bE (fun h=>?_) (fun h=>?_)
   ·have h:cE x.f=0:=by simpa [cE] using h
    have hs:kb b x.f i=some (pass (ei x.f) i.a,aJ):=by simp [kb,hb,he,h]
    refine au (R7 c b f0 (bB x) i i.a hy.sp0 hy.sp1) ?_;rintro _ _ _ ⟨rfl,rfl,rfl⟩;refine aj ⟨⟨[],LH c b f0 (rj (bB x) i.a) aM i,19,[],19⟩,.inr ?_,rfl,[],rfl,?_⟩
    ·exact Weak.eqs [] (by kernel_rfl) (by kernel_rfl) (by kernel_rfl) (by kernel_rfl) (by kernel_rfl) (by kernel_rfl) (by kernel_rfl) (by kernel_rfl) (by kernel_rfl) (by kernel_rfl)
    ·rw [hs];exact ⟨rfl,rfl,(rj (bB x) i.a),rfl,Mid.go hy _ (by omega) (by omega),rfl⟩
   ·have h:¬cE x.f=0:=by simpa [cE] using h
    have hs:kb b x.f i=some (next (ei x.f),aJ):=by simp [kb,hb,he,h]
    refine au (mF c b f0 (bB x) i hy.pc0 hy.pc1 hy.sp0 hy.sp1) ?_;rintro _ _ _ ⟨rfl,rfl,rfl⟩;refine aj ⟨⟨[],LH c b f0 (passed (bB x)) aM i,19,[],19⟩,.inr ?_,rfl,[],rfl,?_⟩
    ·exact Weak.eqs [] (by kernel_rfl) (by kernel_rfl) (by kernel_rfl) (by kernel_rfl) (by kernel_rfl) (by kernel_rfl) (by kernel_rfl) (by kernel_rfl) (by kernel_rfl) (by kernel_rfl)
    ·rw [hs];exact ⟨rfl,rfl,(passed (bB x)),rfl,Mid.go hy _ (by have:=hy.pc0;omega) (by have:=hy.pc1;omega),rfl⟩
  ·have he:x.f.stack=[]:=by rw [<- ua hx];exact hn
   have hs:kb b x.f i=none:=by simp [kb,he]
   refine aj ⟨⟨[],LH c b f0 x aM i,19,[],19⟩,.inr ?_,rfl,?_⟩
   ·exact Weak.eqs [] (by kernel_rfl) (by kernel_rfl) (by kernel_rfl) (by kernel_rfl) (by kernel_rfl) (by kernel_rfl) (by kernel_rfl) (by kernel_rfl) (by kernel_rfl) (by kernel_rfl)
   ·rw [hs];exact ⟨rfl,rfl,_,_,rfl⟩
 ·have hs:kb b x.f i=none:=by simp [kb,hb]
  refine aj ⟨⟨[],LH c b f0 x aM i,19,[],19⟩,.inr ?_,rfl,?_⟩
  ·exact Weak.eqs [] (by kernel_rfl) (by kernel_rfl) (by kernel_rfl) (by kernel_rfl) (by kernel_rfl) (by kernel_rfl) (by kernel_rfl) (by kernel_rfl) (by kernel_rfl) (by kernel_rfl)
  ·rw [hs];exact ⟨rfl,rfl,_,_,rfl⟩
def uG (f:Frame):Option (Frame×Ask):=if f.kids=[] then (if f.stack=[] then none else some (next (ei f),{ aJ with kind:=6,a:=cE f })) else some (f,{ aJ with kind:=5 })
theorem Y3 (c:Cd) (b:Bd) (f0:Frame) (x:LX) (i:In4) (hx:Inv c b x) :
  bO P0 Jk [.ptr 5 0,.agg (eR i)] (LH c b f0 x aM i) 19 (Done c b f0 i (uG x.f)):=by
 have h6:=hx.len;refine bT O9 rfl ?_;refine au (Nk c b f0 x i hx) ?_;rintro _ _ _ ⟨rfl,⟨hk,rfl,rfl⟩|⟨hk,rfl,rfl⟩⟩
 ·refine aS rfl ?_
  refine au (Pm c b f0 x i hx) ?_;rintro _ _ _ ⟨rfl,⟨hn,rfl,rfl⟩|⟨hn,rfl,rfl⟩⟩
  ·have he:x.f.stack≠[]:=by intro h;rw [h6,h] at hn;simp at hn
   have hs:uG x.f=some (next (ei x.f),{ aJ with kind:=6,a:=cE x.f }):=by simp [uG,hk,he]
   have hy:=hx.pop hn;refine au (mF c b f0 (bB x) i hy.pc0 hy.pc1 hy.sp0 hy.sp1) ?_;rintro _ _ _ ⟨rfl,rfl,rfl⟩;refine aj ⟨⟨[],LH c b f0 (passed (bB x)) (AV { aJ with kind:=6,a:=cE x.f }) i,19,[],19⟩,.inr ?_,rfl,[],rfl,?_⟩
   ·exact Weak.eqs [] (by kernel_rfl) (by kernel_rfl) (by kernel_rfl) (by kernel_rfl) (by kernel_rfl) (by kernel_rfl) (by kernel_rfl) (by kernel_rfl) (by kernel_rfl) (by kernel_rfl)
   ·rw [hs];exact ⟨rfl,rfl,(passed (bB x)),rfl,Mid.go hy _ (by have:=hy.pc0;omega) (by have:=hy.pc1;omega),rfl⟩
  ·have he:x.f.stack=[]:=by rw [<- ua hx];exact hn
   have hs:uG x.f=none:=by simp [uG,hk,he]
   refine aj ⟨⟨[],LH c b f0 x aM i,19,[],19⟩,.inr ?_,rfl,?_⟩
   ·exact Weak.eqs [] (by kernel_rfl) (by kernel_rfl) (by kernel_rfl) (by kernel_rfl) (by kernel_rfl) (by kernel_rfl) (by kernel_rfl) (by kernel_rfl) (by kernel_rfl) (by kernel_rfl)
   ·rw [hs];exact ⟨rfl,rfl,_,_,rfl⟩
 ·have hs:uG x.f=some (x.f,{ aJ with kind:=5 }):=by simp [uG,hk]
  refine ah rfl ?_;refine aj ⟨⟨[],LH c b f0 x zQ i,19,[],19⟩,.inr ?_,rfl,[],rfl,?_⟩
  ·exact Weak.eqs [] (by kernel_rfl) (by kernel_rfl) (by kernel_rfl) (by kernel_rfl) (by kernel_rfl) (by kernel_rfl) (by kernel_rfl) (by kernel_rfl) (by kernel_rfl) (by kernel_rfl)
  ·rw [hs];exact ⟨rfl,rfl,x,rfl,hx.mid,rfl⟩
def dC (f:Frame):Option (Frame×Ask):=if f.stack≠[] then some (next { ei f with fail:=f.fail||decide (cE f=0) },aJ) else none
def R9 (x:LX):LX:={ x with f:={ x.f with fail:=true } }
theorem Inv.failed {c:Cd} {b:Bd} {x:LX} (h:Inv c b x):Inv c b (R9 x):=⟨h.pre,h.len,h.le,h.loc,h.deep,h.pc0,h.pc1,h.sp0,h.sp1,h.pA,h.kids,h.ins,h.az,h.cells⟩
theorem Si (c:Cd) (b:Bd) (f0:Frame) (x:LX) (i:In4) (hx:Inv c b x) :
  bO P0 zH [.ptr 5 0,.agg (eR i)] (LH c b f0 x aM i) 19 (Done c b f0 i (dC x.f)):=by
 have h6:=hx.len;refine bT Hf rfl ?_;refine au (Pm c b f0 x i hx) ?_;rintro _ _ _ ⟨rfl,⟨hn,rfl,rfl⟩|⟨hn,rfl,rfl⟩⟩
 ·have he:x.f.stack≠[]:=by intro h;rw [h6,h] at hn;simp at hn
  have hy:=hx.pop hn;refine bE (fun h=>?_) (fun h=>?_)
  ·have h:cE x.f=0:=by simpa [cE] using h
   have hs:dC x.f=some (next { ei x.f with fail:=true },aJ):=by simp [dC,he,h]
   have hz:=hy.failed;have g1:=hx.pc0;have g2:=hx.pc1;have g3:=hx.sp0;have g4:=hx.sp1;refine bM c6 rfl ?_;refine ah (by simp [inR,popped];omega) ?_;refine bM c8 rfl ?_;refine ah (by simp [inR,popped];omega) ?_;refine cT rfl rfl ?_;refine cT rfl rfl ?_;refine aj ⟨⟨[],LH c b f0 (passed (R9 (bB x))) aM i,19,[],19⟩,.inr ?_,rfl,[],rfl,?_⟩
   ·exact Weak.eqs [] (by kernel_rfl) (by kernel_rfl) (by kernel_rfl) (by kernel_rfl) (by kernel_rfl) (by kernel_rfl) (by kernel_rfl) (by kernel_rfl) (by kernel_rfl) (by kernel_rfl)
   ·rw [hs];exact ⟨rfl,rfl,(passed (R9 (bB x))),rfl,Mid.go hz _ (by have:=hz.pc0;omega) (by have:=hz.pc1;omega),rfl⟩
  ·have h:¬cE x.f=0:=by simpa [cE] using h
   have hs:dC x.f=some (next (ei x.f),aJ):=by simp [dC,he,h];rfl
   refine au (mF c b f0 (bB x) i hy.pc0 hy.pc1 hy.sp0 hy.sp1) ?_;rintro _ _ _ ⟨rfl,rfl,rfl⟩;refine aj ⟨⟨[],LH c b f0 (passed (bB x)) aM i,19,[],19⟩,.inr ?_,rfl,[],rfl,?_⟩
   ·exact Weak.eqs [] (by kernel_rfl) (by kernel_rfl) (by kernel_rfl) (by kernel_rfl) (by kernel_rfl) (by kernel_rfl) (by kernel_rfl) (by kernel_rfl) (by kernel_rfl) (by kernel_rfl)
   ·rw [hs];exact ⟨rfl,rfl,(passed (bB x)),rfl,Mid.go hy _ (by have:=hy.pc0;omega) (by have:=hy.pc1;omega),rfl⟩
 ·have he:x.f.stack=[]:=by rw [<- ua hx];exact hn
  have hs:dC x.f=none:=by simp [dC,he]
  refine aj ⟨⟨[],LH c b f0 x aM i,19,[],19⟩,.inr ?_,rfl,?_⟩
  ·exact Weak.eqs [] (by kernel_rfl) (by kernel_rfl) (by kernel_rfl) (by kernel_rfl) (by kernel_rfl) (by kernel_rfl) (by kernel_rfl) (by kernel_rfl) (by kernel_rfl) (by kernel_rfl)
  ·rw [hs];exact ⟨rfl,rfl,_,_,rfl⟩
end Uw.Tryz.Vm
namespace Uw.Tryz.Vm
open Go Uw Uw.Tryz
theorem Nl (n:Int) (k M:Nat) (hM:M=2 ^ k) (hk:k<=64) (h32:M<=4294967296) (m:Int) (hm:m=(M:Int) - 1):IntKind.i64.wrap ((BitVec.ofInt IntKind.i64.bits n&&&BitVec.ofInt IntKind.i64.bits m).toNat:Int)=n % M:=by
 subst hm;have h1:1<=M:=hM ▸ Nat.one_le_two_pow;have big:((2 ^ 64:Nat):Int)=18446744073709551616:=by decide
 have e:(BitVec.ofInt 64 ((M:Int) - 1)).toNat=M - 1:=by
  rw [BitVec.toNat_ofInt,Int.emod_eq_of_lt (by omega) (by rw [big];omega)];omega
 have e2:((BitVec.ofInt IntKind.i64.bits n&&&BitVec.ofInt IntKind.i64.bits ((M:Int) - 1)).toNat:Int)=n % M:=by
  show ((BitVec.ofInt 64 n&&&BitVec.ofInt 64 ((M:Int) - 1)).toNat:Int)=n % M;rw [BitVec.toNat_and,e,hM,Nat.and_two_pow_sub_one_eq_mod,<- hM,BitVec.toNat_ofInt];rw [Int.natCast_emod,Int.toNat_of_nonneg (Int.emod_nonneg _ (by rw [big];omega))];exact Int.emod_emod_of_dvd n (Int.natCast_dvd_natCast.2 (hM ▸ Nat.pow_dvd_pow 2 hk))
 rw [e2];have a:=Int.emod_nonneg n (by omega:(M:Int)≠0);have b:=Int.emod_lt_of_pos n (by omega:(0:Int)<M);exact wrap_in (by simp [inR];omega)
def cm (n:Int):Int:=n % 4294967296
def keyS (n:Int):Int:=n % 65536
theorem s31 (n:Int):Ret P0 FH [I n] (I (cm n)):=by
 refine ao Lq rfl ?_;refine ai rfl rfl rfl rfl ?_;exact congrArg (fun z=>I z) (Nl n 32 4294967296 (by decide) (by decide) (by decide) 4294967295 (by decide))
theorem s16 (n:Int):Ret P0 Jo [I n] (I (keyS n)):=by
 refine ao Pj rfl ?_;refine ai rfl rfl rfl rfl ?_;exact congrArg (fun z=>I z) (Nl n 16 65536 (by decide) (by decide) (by decide) 65535 (by decide))
theorem qx (n:Int):cm (IntKind.i64.wrap n)=cm n:=by
 rw [IntKind.wrap_i64,cm,cm];omega
theorem s47 (x y:Int):Ret P0 xA [I x,I y] (I (cm (x+y))):=by
 refine ao u0 rfl ?_;refine bE (fun h=>?_) (fun h=>?_)
 ·refine aL _ (s31 _) ?_
  exact ai rfl rfl rfl rfl rfl
 ·refine aL _ (s31 _) ?_
  exact ai rfl rfl rfl rfl (congrArg (fun z=>I z) (qx _))
theorem s48 (x y:Int):Ret P0 xB [I x,I y] (I (cm (x - y))):=by
 refine ao u5 rfl ?_;refine bE (fun h=>?_) (fun h=>?_)
 ·refine aL _ (s31 _) ?_
  exact ai rfl rfl rfl rfl rfl
 ·refine aL _ (s31 _) ?_
  exact ai rfl rfl rfl rfl (congrArg (fun z=>I z) (qx _))
theorem s49 (x y:Int):Ret P0 xC [I x,I y] (I (cm (x * y))):=by
 refine ao u6 rfl ?_;refine bE (fun h=>?_) (fun h=>?_)
 ·refine aL _ (s31 _) ?_
  exact ai rfl rfl rfl rfl rfl
 ·refine aL _ (s31 _) ?_
  exact ai rfl rfl rfl rfl (congrArg (fun z=>I z) (qx _))
def truth (b:Bool):Int:=if b then 1 else 0
theorem s51 (b:Bool):Ret P0 Di [.bool b] (I (truth b)):=by
 refine ao Ji rfl ?_
 cases b with
 | true=>refine ah rfl ?_;exact ai rfl rfl rfl rfl rfl
 | false=>refine aS rfl ?_;exact ai rfl rfl rfl rfl rfl
theorem s50 (x y:Int):Ret P0 xE [I x,I y] (I (truth (decide (x<y)))):=by
 refine ao u7 rfl ?_;refine aL _ (s51 _) ?_;exact ai rfl rfl rfl rfl rfl
theorem s52 (x y:Int):Ret P0 xF [I x,I y] (I (truth (decide (x=y)))):=by
 refine ao va rfl ?_;refine aL _ (s51 _) ?_;exact ai rfl rfl rfl rfl rfl
theorem s61 (x y:Int) (hx:isVal x=true) (hy:isVal y=true):Ret P0 xG [I x,I y] (I ((x+y) / 2)):=by
 have hx' : 0<=x/\x<4294967296:=by simpa [isVal] using hx
 have hy' : 0<=y/\y<4294967296:=by simpa [isVal] using hy
 refine ao vd rfl ?_;refine ah (by simp [inR];omega) ?_;refine aS rfl ?_;have e:(x+y).tdiv 2=(x+y) / 2:=Int.tdiv_eq_ediv_of_nonneg (by omega);refine ah (by rw [e];simp [inR];omega) ?_;exact ai rfl rfl rfl rfl (congrArg (fun z=>I z) e)
end Uw.Tryz.Vm
namespace Uw.Tryz.Vm
open Go Uw Uw.Tryz
def eD (f:Frame):Int:=cE (ei f)
def aX (op:Int->Int->Int) (f:Frame):Option (Frame×Ask):=if 2<=f.stack.length then some (next (nU (ei (ei f)) (op (eD f) (cE f))),aJ) else none
def gR (x:LX) (v:Int):LX:={ x with f:=nU (ei (ei x.f)) v,xs:=x.xs.take ((x.n:Int) - 2 - 0).toNat++[[I v]],n:=((x.n:Int) - 2 - 0).toNat+1,ver:=x.ver+1 }
theorem Inv.gR {c:Cd} {b:Bd} {x:LX} (h:Inv c b x) (v:Int) (hn:2<=x.n):Inv c b (gR x v):=by
 have h1:=h.pop (by omega);have e:(bB x).n=x.n - 1:=by simp [bB,popped]
 have h2:=h1.pop (by omega);have e2:(bB (bB x)).n=x.n - 2:=by have:(bB (bB x)).n=(((bB x).n:Int) - 1 - 0).toNat:=rfl;omega
 have h3:=h2.push v (by have:=h.deep;have:=h.len;omega);have:Uw.Tryz.Vm.gR x v=jN (bB (bB x)) v:=by
  have e3:((x.n:Int) - 2 - 0).toNat=(bB (bB x)).n:=by omega
  simp only [Uw.Tryz.Vm.gR,e3];rfl
 rw [this];exact ⟨h3.pre,h3.len,h3.le,h3.loc,h3.deep,h3.pc0,h3.pc1,h3.sp0,h3.sp1,h3.pA,h3.kids,h3.ins,h3.az,h3.cells⟩
theorem ub {c:Cd} {b:Bd} {x:LX} (h:Inv c b x) (hn:2<=x.n):x.xs[x.n - 2]? = some [I (eD x.f)]:=by
 have h1:=h.pop (by omega);have e:(bB x).n=x.n - 1:=by simp [bB,popped]
 have:=lr h1.pre h1.len h1.le (by omega);rw [e,show x.n - 1 - 1=x.n - 2 by omega] at this;exact this
theorem Y4 (c:Cd) (b:Bd) (f0:Frame) (x:LX) (i:In4) (hx:Inv c b x) :
  bO P0 eQ [.ptr 5 0,.agg (eR i),.ptr 11 0] (LH c b f0 x aM i) 19 (Done c b f0 i (aX (fun x y=>cm (x+y)) x.f)):=by
 have h5:=hx.deep;have h6:=hx.len;have h7:=hx.le;have g1:=hx.pc0;have g2:=hx.pc1;have g3:=hx.sp0;have g4:=hx.sp1;refine bT fc rfl ?_;refine bM bZ rfl ?_;refine cB ?_;refine au (aU _ _ _ _) ?_;rintro _ _ _ ⟨rfl,rfl,⟨hb,rfl⟩|⟨hb,rfl⟩⟩
 ·simp at hb
  refine cB ?_;refine ah (by simp [inR];omega) ?_;refine cB ?_;refine ah (by simp;omega) ?_;refine cB ?_;refine ah (by simp;omega) ?_;refine cB ?_;refine ah (by simp;omega) ?_;refine dL rfl rfl ?_;refine bq ⟨[(0,.ptr 5 0)],H19 c b f0 { x with xs:=x.xs.take ((x.n:Int) - 2 - 0).toNat++[[I (cm (eD x.f+cE x.f))]],n:=((x.n:Int) - 2 - 0).toNat+1,ver:=x.ver+1 } aM i,20,[],19⟩ ?_ ?_
  ·refine ah rfl ?_
   refine ah (by simp;omega) ?_;refine ah rfl ?_;refine aF [I (eD x.f)] (by simp only [abb,abj];rw [if_pos (by omega),show 0+((x.n:Int) - 2).toNat+(0+(0:Int).toNat)=x.n - 2 by omega];exact ub hx (by omega)) ?_;refine ah rfl ?_;refine ah (by simp;omega) ?_;refine ah rfl ?_;refine aF [I (cE x.f)] (by simp only [abb,abj];rw [if_pos (by omega),show 0+((x.n:Int) - 2).toNat+(0+(1:Int).toNat)=x.n - 1 by omega];exact lr hx.pre hx.len hx.le (by omega)) ?_;refine bI (I (cm (eD x.f+cE x.f))) u0.body rfl (s47 _ _) ?_;refine aP (by kernel_rfl) ?_;refine aP (by kernel_rfl) ?_;refine ah rfl ?_;refine ah (by simp;omega) ?_;refine aP (by kernel_rfl) ?_;refine aP (by kernel_rfl) ?_;refine ah rfl ?_;refine ah (by simp;omega) ?_;refine aP (by kernel_rfl) ?_;refine bM dj rfl ?_;refine cB ?_;refine bM cZ rfl ?_;refine aS (by simp;omega) ?_;refine cT rfl rfl ?_;refine cB ?_;refine ah (by simp;omega) ?_;refine cT rfl rfl ?_;refine aP (by kernel_rfl) ?_;refine ah rfl ?_;refine ah (by simp;omega) ?_;refine aP (by kernel_rfl) ?_;refine aP (by kernel_rfl) ?_;refine ah rfl ?_;refine ah (by simp;omega) ?_;refine aP (by kernel_rfl) ?_;refine aj (.inl ⟨rfl,?_⟩);exact Weak.eqs [] (by kernel_rfl) (by kernel_rfl) (by kernel_rfl) (by kernel_rfl) (by kernel_rfl) (by kernel_rfl) (by kernel_rfl) (by kernel_rfl) (by kernel_rfl) (by kernel_rfl)
  ·have hs:aX (fun x y=>cm (x+y)) x.f=some (next (nU (ei (ei x.f)) (cm (eD x.f+cE x.f))),aJ):=by simp [aX];omega
   have hy:=hx.gR (cm (eD x.f+cE x.f)) (by omega);refine au (mF c b f0 (gR x (cm (eD x.f+cE x.f))) i hy.pc0 hy.pc1 hy.sp0 hy.sp1) ?_;rintro _ _ _ ⟨rfl,rfl,rfl⟩;refine aj ⟨⟨[],LH c b f0 (passed (gR x (cm (eD x.f+cE x.f)))) aM i,19,[],19⟩,.inr ?_,rfl,[],rfl,?_⟩
   ·exact Weak.eqs [] (by kernel_rfl) (by kernel_rfl) (by kernel_rfl) (by kernel_rfl) (by kernel_rfl) (by kernel_rfl) (by kernel_rfl) (by kernel_rfl) (by kernel_rfl) (by kernel_rfl)
   ·rw [hs];exact ⟨rfl,rfl,_,rfl,Mid.go hy _ (by have:=hy.pc0;omega) (by have:=hy.pc1;omega),rfl⟩
 ·have hs:aX (fun x y=>cm (x+y)) x.f=none:=by simp at hb;simp [aX];omega
  refine ky rfl ?_;refine aj ⟨⟨[],LH c b f0 x aM i,19,[],19⟩,.inr ?_,rfl,?_⟩
  ·exact Weak.eqs [] (by kernel_rfl) (by kernel_rfl) (by kernel_rfl) (by kernel_rfl) (by kernel_rfl) (by kernel_rfl) (by kernel_rfl) (by kernel_rfl) (by kernel_rfl) (by kernel_rfl)
  ·rw [hs];exact ⟨rfl,rfl,_,_,rfl⟩
theorem Y5 (c:Cd) (b:Bd) (f0:Frame) (x:LX) (i:In4) (hx:Inv c b x) :
  bO P0 eQ [.ptr 5 0,.agg (eR i),.ptr 12 0] (LH c b f0 x aM i) 19 (Done c b f0 i (aX (fun x y=>cm (x - y)) x.f)):=by
 have h5:=hx.deep;have h6:=hx.len;have h7:=hx.le;have g1:=hx.pc0;have g2:=hx.pc1;have g3:=hx.sp0;have g4:=hx.sp1;refine bT fc rfl ?_;refine bM bZ rfl ?_;refine cB ?_;refine au (aU _ _ _ _) ?_;rintro _ _ _ ⟨rfl,rfl,⟨hb,rfl⟩|⟨hb,rfl⟩⟩
 ·simp at hb
  refine cB ?_;refine ah (by simp [inR];omega) ?_;refine cB ?_;refine ah (by simp;omega) ?_;refine cB ?_;refine ah (by simp;omega) ?_;refine cB ?_;refine ah (by simp;omega) ?_;refine dL rfl rfl ?_;refine bq ⟨[(0,.ptr 5 0)],H19 c b f0 { x with xs:=x.xs.take ((x.n:Int) - 2 - 0).toNat++[[I (cm (eD x.f - cE x.f))]],n:=((x.n:Int) - 2 - 0).toNat+1,ver:=x.ver+1 } aM i,20,[],19⟩ ?_ ?_
  ·refine ah rfl ?_
   refine ah (by simp;omega) ?_;refine ah rfl ?_;refine aF [I (eD x.f)] (by simp only [abb,abj];rw [if_pos (by omega),show 0+((x.n:Int) - 2).toNat+(0+(0:Int).toNat)=x.n - 2 by omega];exact ub hx (by omega)) ?_;refine ah rfl ?_;refine ah (by simp;omega) ?_;refine ah rfl ?_;refine aF [I (cE x.f)] (by simp only [abb,abj];rw [if_pos (by omega),show 0+((x.n:Int) - 2).toNat+(0+(1:Int).toNat)=x.n - 1 by omega];exact lr hx.pre hx.len hx.le (by omega)) ?_;refine bI (I (cm (eD x.f - cE x.f))) u5.body rfl (s48 _ _) ?_;refine aP (by kernel_rfl) ?_;refine aP (by kernel_rfl) ?_;refine ah rfl ?_;refine ah (by simp;omega) ?_;refine aP (by kernel_rfl) ?_;refine aP (by kernel_rfl) ?_;refine ah rfl ?_;refine ah (by simp;omega) ?_;refine aP (by kernel_rfl) ?_;refine bM dj rfl ?_;refine cB ?_;refine bM cZ rfl ?_;refine aS (by simp;omega) ?_;refine cT rfl rfl ?_;refine cB ?_;refine ah (by simp;omega) ?_;refine cT rfl rfl ?_;refine aP (by kernel_rfl) ?_;refine ah rfl ?_;refine ah (by simp;omega) ?_;refine aP (by kernel_rfl) ?_;refine aP (by kernel_rfl) ?_;refine ah rfl ?_;refine ah (by simp;omega) ?_;refine aP (by kernel_rfl) ?_;refine aj (.inl ⟨rfl,?_⟩);exact Weak.eqs [] (by kernel_rfl) (by kernel_rfl) (by kernel_rfl) (by kernel_rfl) (by kernel_rfl) (by kernel_rfl) (by kernel_rfl) (by kernel_rfl) (by kernel_rfl) (by kernel_rfl)
  ·have hs:aX (fun x y=>cm (x - y)) x.f=some (next (nU (ei (ei x.f)) (cm (eD x.f - cE x.f))),aJ):=by simp [aX];omega
   have hy:=hx.gR (cm (eD x.f - cE x.f)) (by omega);refine au (mF c b f0 (gR x (cm (eD x.f - cE x.f))) i hy.pc0 hy.pc1 hy.sp0 hy.sp1) ?_;rintro _ _ _ ⟨rfl,rfl,rfl⟩;refine aj ⟨⟨[],LH c b f0 (passed (gR x (cm (eD x.f - cE x.f)))) aM i,19,[],19⟩,.inr ?_,rfl,[],rfl,?_⟩
   ·exact Weak.eqs [] (by kernel_rfl) (by kernel_rfl) (by kernel_rfl) (by kernel_rfl) (by kernel_rfl) (by kernel_rfl) (by kernel_rfl) (by kernel_rfl) (by kernel_rfl) (by kernel_rfl)
   ·rw [hs];exact ⟨rfl,rfl,_,rfl,Mid.go hy _ (by have:=hy.pc0;omega) (by have:=hy.pc1;omega),rfl⟩
 ·have hs:aX (fun x y=>cm (x - y)) x.f=none:=by simp at hb;simp [aX];omega
  refine ky rfl ?_;refine aj ⟨⟨[],LH c b f0 x aM i,19,[],19⟩,.inr ?_,rfl,?_⟩
  ·exact Weak.eqs [] (by kernel_rfl) (by kernel_rfl) (by kernel_rfl) (by kernel_rfl) (by kernel_rfl) (by kernel_rfl) (by kernel_rfl) (by kernel_rfl) (by kernel_rfl) (by kernel_rfl)
  ·rw [hs];exact ⟨rfl,rfl,_,_,rfl⟩
theorem Y6 (c:Cd) (b:Bd) (f0:Frame) (x:LX) (i:In4) (hx:Inv c b x) :
  bO P0 eQ [.ptr 5 0,.agg (eR i),.ptr 13 0] (LH c b f0 x aM i) 19 (Done c b f0 i (aX (fun x y=>cm (x * y)) x.f)):=by
 have h5:=hx.deep;have h6:=hx.len;have h7:=hx.le;have g1:=hx.pc0;have g2:=hx.pc1;have g3:=hx.sp0;have g4:=hx.sp1;refine bT fc rfl ?_;refine bM bZ rfl ?_;refine cB ?_;refine au (aU _ _ _ _) ?_;rintro _ _ _ ⟨rfl,rfl,⟨hb,rfl⟩|⟨hb,rfl⟩⟩
 ·simp at hb
  refine cB ?_;refine ah (by simp [inR];omega) ?_;refine cB ?_;refine ah (by simp;omega) ?_;refine cB ?_;refine ah (by simp;omega) ?_;refine cB ?_;refine ah (by simp;omega) ?_;refine dL rfl rfl ?_;refine bq ⟨[(0,.ptr 5 0)],H19 c b f0 { x with xs:=x.xs.take ((x.n:Int) - 2 - 0).toNat++[[I (cm (eD x.f * cE x.f))]],n:=((x.n:Int) - 2 - 0).toNat+1,ver:=x.ver+1 } aM i,20,[],19⟩ ?_ ?_
  ·refine ah rfl ?_
   refine ah (by simp;omega) ?_;refine ah rfl ?_;refine aF [I (eD x.f)] (by simp only [abb,abj];rw [if_pos (by omega),show 0+((x.n:Int) - 2).toNat+(0+(0:Int).toNat)=x.n - 2 by omega];exact ub hx (by omega)) ?_;refine ah rfl ?_;refine ah (by simp;omega) ?_;refine ah rfl ?_;refine aF [I (cE x.f)] (by simp only [abb,abj];rw [if_pos (by omega),show 0+((x.n:Int) - 2).toNat+(0+(1:Int).toNat)=x.n - 1 by omega];exact lr hx.pre hx.len hx.le (by omega)) ?_;refine bI (I (cm (eD x.f * cE x.f))) u6.body rfl (s49 _ _) ?_;refine aP (by kernel_rfl) ?_;refine aP (by kernel_rfl) ?_;refine ah rfl ?_;refine ah (by simp;omega) ?_;refine aP (by kernel_rfl) ?_;refine aP (by kernel_rfl) ?_;refine ah rfl ?_;refine ah (by simp;omega) ?_;refine aP (by kernel_rfl) ?_;refine bM dj rfl ?_;refine cB ?_;refine bM cZ rfl ?_;refine aS (by simp;omega) ?_;refine cT rfl rfl ?_;refine cB ?_;refine ah (by simp;omega) ?_;refine cT rfl rfl ?_;refine aP (by kernel_rfl) ?_;refine ah rfl ?_;refine ah (by simp;omega) ?_;refine aP (by kernel_rfl) ?_;refine aP (by kernel_rfl) ?_;refine ah rfl ?_;refine ah (by simp;omega) ?_;refine aP (by kernel_rfl) ?_;refine aj (.inl ⟨rfl,?_⟩);exact Weak.eqs [] (by kernel_rfl) (by kernel_rfl) (by kernel_rfl) (by kernel_rfl) (by kernel_rfl) (by kernel_rfl) (by kernel_rfl) (by kernel_rfl) (by kernel_rfl) (by kernel_rfl)
  ·have hs:aX (fun x y=>cm (x * y)) x.f=some (next (nU (ei (ei x.f)) (cm (eD x.f * cE x.f))),aJ):=by simp [aX];omega
   have hy:=hx.gR (cm (eD x.f * cE x.f)) (by omega);refine au (mF c b f0 (gR x (cm (eD x.f * cE x.f))) i hy.pc0 hy.pc1 hy.sp0 hy.sp1) ?_;rintro _ _ _ ⟨rfl,rfl,rfl⟩;refine aj ⟨⟨[],LH c b f0 (passed (gR x (cm (eD x.f * cE x.f)))) aM i,19,[],19⟩,.inr ?_,rfl,[],rfl,?_⟩
   ·exact Weak.eqs [] (by kernel_rfl) (by kernel_rfl) (by kernel_rfl) (by kernel_rfl) (by kernel_rfl) (by kernel_rfl) (by kernel_rfl) (by kernel_rfl) (by kernel_rfl) (by kernel_rfl)
   ·rw [hs];exact ⟨rfl,rfl,_,rfl,Mid.go hy _ (by have:=hy.pc0;omega) (by have:=hy.pc1;omega),rfl⟩
 ·have hs:aX (fun x y=>cm (x * y)) x.f=none:=by simp at hb;simp [aX];omega
  refine ky rfl ?_;refine aj ⟨⟨[],LH c b f0 x aM i,19,[],19⟩,.inr ?_,rfl,?_⟩
  ·exact Weak.eqs [] (by kernel_rfl) (by kernel_rfl) (by kernel_rfl) (by kernel_rfl) (by kernel_rfl) (by kernel_rfl) (by kernel_rfl) (by kernel_rfl) (by kernel_rfl) (by kernel_rfl)
  ·rw [hs];exact ⟨rfl,rfl,_,_,rfl⟩
theorem XX (c:Cd) (b:Bd) (f0:Frame) (x:LX) (i:In4) (hx:Inv c b x) :
  bO P0 eQ [.ptr 5 0,.agg (eR i),.ptr 14 0] (LH c b f0 x aM i) 19 (Done c b f0 i (aX (fun x y=>truth (decide (x<y))) x.f)):=by
 have h5:=hx.deep;have h6:=hx.len;have h7:=hx.le;have g1:=hx.pc0;have g2:=hx.pc1;have g3:=hx.sp0;have g4:=hx.sp1;refine bT fc rfl ?_;refine bM bZ rfl ?_;refine cB ?_;refine au (aU _ _ _ _) ?_;rintro _ _ _ ⟨rfl,rfl,⟨hb,rfl⟩|⟨hb,rfl⟩⟩
 ·simp at hb
  refine cB ?_;refine ah (by simp [inR];omega) ?_;refine cB ?_;refine ah (by simp;omega) ?_;refine cB ?_;refine ah (by simp;omega) ?_;refine cB ?_;refine ah (by simp;omega) ?_;refine dL rfl rfl ?_;refine bq ⟨[(0,.ptr 5 0)],H19 c b f0 { x with xs:=x.xs.take ((x.n:Int) - 2 - 0).toNat++[[I (truth (decide (eD x.f<cE x.f)))]],n:=((x.n:Int) - 2 - 0).toNat+1,ver:=x.ver+1 } aM i,20,[],19⟩ ?_ ?_
  ·refine ah rfl ?_
   refine ah (by simp;omega) ?_;refine ah rfl ?_;refine aF [I (eD x.f)] (by simp only [abb,abj];rw [if_pos (by omega),show 0+((x.n:Int) - 2).toNat+(0+(0:Int).toNat)=x.n - 2 by omega];exact ub hx (by omega)) ?_;refine ah rfl ?_;refine ah (by simp;omega) ?_;refine ah rfl ?_;refine aF [I (cE x.f)] (by simp only [abb,abj];rw [if_pos (by omega),show 0+((x.n:Int) - 2).toNat+(0+(1:Int).toNat)=x.n - 1 by omega];exact lr hx.pre hx.len hx.le (by omega)) ?_;refine bI (I (truth (decide (eD x.f<cE x.f)))) u7.body rfl (s50 _ _) ?_;refine aP (by kernel_rfl) ?_;refine aP (by kernel_rfl) ?_;refine ah rfl ?_;refine ah (by simp;omega) ?_;refine aP (by kernel_rfl) ?_;refine aP (by kernel_rfl) ?_;refine ah rfl ?_;refine ah (by simp;omega) ?_;refine aP (by kernel_rfl) ?_;refine bM dj rfl ?_;refine cB ?_;refine bM cZ rfl ?_;refine aS (by simp;omega) ?_;refine cT rfl rfl ?_;refine cB ?_;refine ah (by simp;omega) ?_;refine cT rfl rfl ?_;refine aP (by kernel_rfl) ?_;refine ah rfl ?_;refine ah (by simp;omega) ?_;refine aP (by kernel_rfl) ?_;refine aP (by kernel_rfl) ?_;refine ah rfl ?_;refine ah (by simp;omega) ?_;refine aP (by kernel_rfl) ?_;refine aj (.inl ⟨rfl,?_⟩);exact Weak.eqs [] (by kernel_rfl) (by kernel_rfl) (by kernel_rfl) (by kernel_rfl) (by kernel_rfl) (by kernel_rfl) (by kernel_rfl) (by kernel_rfl) (by kernel_rfl) (by kernel_rfl)
  ·have hs:aX (fun x y=>truth (decide (x<y))) x.f=some (next (nU (ei (ei x.f)) (truth (decide (eD x.f<cE x.f)))),aJ):=by simp [aX];omega
   have hy:=hx.gR (truth (decide (eD x.f<cE x.f))) (by omega);refine au (mF c b f0 (gR x (truth (decide (eD x.f<cE x.f)))) i hy.pc0 hy.pc1 hy.sp0 hy.sp1) ?_;rintro _ _ _ ⟨rfl,rfl,rfl⟩;refine aj ⟨⟨[],LH c b f0 (passed (gR x (truth (decide (eD x.f<cE x.f))))) aM i,19,[],19⟩,.inr ?_,rfl,[],rfl,?_⟩
   ·exact Weak.eqs [] (by kernel_rfl) (by kernel_rfl) (by kernel_rfl) (by kernel_rfl) (by kernel_rfl) (by kernel_rfl) (by kernel_rfl) (by kernel_rfl) (by kernel_rfl) (by kernel_rfl)
   ·rw [hs];exact ⟨rfl,rfl,_,rfl,Mid.go hy _ (by have:=hy.pc0;omega) (by have:=hy.pc1;omega),rfl⟩
 ·have hs:aX (fun x y=>truth (decide (x<y))) x.f=none:=by simp at hb;simp [aX];omega
  refine ky rfl ?_;refine aj ⟨⟨[],LH c b f0 x aM i,19,[],19⟩,.inr ?_,rfl,?_⟩
  ·exact Weak.eqs [] (by kernel_rfl) (by kernel_rfl) (by kernel_rfl) (by kernel_rfl) (by kernel_rfl) (by kernel_rfl) (by kernel_rfl) (by kernel_rfl) (by kernel_rfl) (by kernel_rfl)
  ·rw [hs];exact ⟨rfl,rfl,_,_,rfl⟩
theorem i_eq (c:Cd) (b:Bd) (f0:Frame) (x:LX) (i:In4) (hx:Inv c b x) :
  bO P0 eQ [.ptr 5 0,.agg (eR i),.ptr 15 0] (LH c b f0 x aM i) 19 (Done c b f0 i (aX (fun x y=>truth (decide (x=y))) x.f)):=by
 have h5:=hx.deep;have h6:=hx.len;have h7:=hx.le;have g1:=hx.pc0;have g2:=hx.pc1;have g3:=hx.sp0;have g4:=hx.sp1;refine bT fc rfl ?_;refine bM bZ rfl ?_;refine cB ?_;refine au (aU _ _ _ _) ?_;rintro _ _ _ ⟨rfl,rfl,⟨hb,rfl⟩|⟨hb,rfl⟩⟩
 ·simp at hb
  refine cB ?_;refine ah (by simp [inR];omega) ?_;refine cB ?_;refine ah (by simp;omega) ?_;refine cB ?_;refine ah (by simp;omega) ?_;refine cB ?_;refine ah (by simp;omega) ?_;refine dL rfl rfl ?_;refine bq ⟨[(0,.ptr 5 0)],H19 c b f0 { x with xs:=x.xs.take ((x.n:Int) - 2 - 0).toNat++[[I (truth (decide (eD x.f=cE x.f)))]],n:=((x.n:Int) - 2 - 0).toNat+1,ver:=x.ver+1 } aM i,20,[],19⟩ ?_ ?_
  ·refine ah rfl ?_
   refine ah (by simp;omega) ?_;refine ah rfl ?_;refine aF [I (eD x.f)] (by simp only [abb,abj];rw [if_pos (by omega),show 0+((x.n:Int) - 2).toNat+(0+(0:Int).toNat)=x.n - 2 by omega];exact ub hx (by omega)) ?_;refine ah rfl ?_;refine ah (by simp;omega) ?_;refine ah rfl ?_;refine aF [I (cE x.f)] (by simp only [abb,abj];rw [if_pos (by omega),show 0+((x.n:Int) - 2).toNat+(0+(1:Int).toNat)=x.n - 1 by omega];exact lr hx.pre hx.len hx.le (by omega)) ?_;refine bI (I (truth (decide (eD x.f=cE x.f)))) va.body rfl (s52 _ _) ?_;refine aP (by kernel_rfl) ?_;refine aP (by kernel_rfl) ?_;refine ah rfl ?_;refine ah (by simp;omega) ?_;refine aP (by kernel_rfl) ?_;refine aP (by kernel_rfl) ?_;refine ah rfl ?_;refine ah (by simp;omega) ?_;refine aP (by kernel_rfl) ?_;refine bM dj rfl ?_;refine cB ?_;refine bM cZ rfl ?_;refine aS (by simp;omega) ?_;refine cT rfl rfl ?_;refine cB ?_;refine ah (by simp;omega) ?_;refine cT rfl rfl ?_;refine aP (by kernel_rfl) ?_;refine ah rfl ?_;refine ah (by simp;omega) ?_;refine aP (by kernel_rfl) ?_;refine aP (by kernel_rfl) ?_;refine ah rfl ?_;refine ah (by simp;omega) ?_;refine aP (by kernel_rfl) ?_;refine aj (.inl ⟨rfl,?_⟩);exact Weak.eqs [] (by kernel_rfl) (by kernel_rfl) (by kernel_rfl) (by kernel_rfl) (by kernel_rfl) (by kernel_rfl) (by kernel_rfl) (by kernel_rfl) (by kernel_rfl) (by kernel_rfl)
  ·have hs:aX (fun x y=>truth (decide (x=y))) x.f=some (next (nU (ei (ei x.f)) (truth (decide (eD x.f=cE x.f)))),aJ):=by simp [aX];omega
   have hy:=hx.gR (truth (decide (eD x.f=cE x.f))) (by omega);refine au (mF c b f0 (gR x (truth (decide (eD x.f=cE x.f)))) i hy.pc0 hy.pc1 hy.sp0 hy.sp1) ?_;rintro _ _ _ ⟨rfl,rfl,rfl⟩;refine aj ⟨⟨[],LH c b f0 (passed (gR x (truth (decide (eD x.f=cE x.f))))) aM i,19,[],19⟩,.inr ?_,rfl,[],rfl,?_⟩
   ·exact Weak.eqs [] (by kernel_rfl) (by kernel_rfl) (by kernel_rfl) (by kernel_rfl) (by kernel_rfl) (by kernel_rfl) (by kernel_rfl) (by kernel_rfl) (by kernel_rfl) (by kernel_rfl)
   ·rw [hs];exact ⟨rfl,rfl,_,rfl,Mid.go hy _ (by have:=hy.pc0;omega) (by have:=hy.pc1;omega),rfl⟩
 ·have hs:aX (fun x y=>truth (decide (x=y))) x.f=none:=by simp at hb;simp [aX];omega
  refine ky rfl ?_;refine aj ⟨⟨[],LH c b f0 x aM i,19,[],19⟩,.inr ?_,rfl,?_⟩
  ·exact Weak.eqs [] (by kernel_rfl) (by kernel_rfl) (by kernel_rfl) (by kernel_rfl) (by kernel_rfl) (by kernel_rfl) (by kernel_rfl) (by kernel_rfl) (by kernel_rfl) (by kernel_rfl)
  ·rw [hs];exact ⟨rfl,rfl,_,_,rfl⟩
theorem XY (c:Cd) (b:Bd) (f0:Frame) (x:LX) (i:In4) (hx:Inv c b x) (v1:isVal (eD x.f)=true) (v2:isVal (cE x.f)=true) :
  bO P0 eQ [.ptr 5 0,.agg (eR i),.ptr 16 0] (LH c b f0 x aM i) 19 (Done c b f0 i (aX (fun x y=>(x+y) / 2) x.f)):=by
 have h5:=hx.deep;have h6:=hx.len;have h7:=hx.le;have g1:=hx.pc0;have g2:=hx.pc1;have g3:=hx.sp0;have g4:=hx.sp1;refine bT fc rfl ?_;refine bM bZ rfl ?_;refine cB ?_;refine au (aU _ _ _ _) ?_;rintro _ _ _ ⟨rfl,rfl,⟨hb,rfl⟩|⟨hb,rfl⟩⟩
 ·simp at hb
  refine cB ?_;refine ah (by simp [inR];omega) ?_;refine cB ?_;refine ah (by simp;omega) ?_;refine cB ?_;refine ah (by simp;omega) ?_;refine cB ?_;refine ah (by simp;omega) ?_;refine dL rfl rfl ?_;refine bq ⟨[(0,.ptr 5 0)],H19 c b f0 { x with xs:=x.xs.take ((x.n:Int) - 2 - 0).toNat++[[I ((eD x.f+cE x.f) / 2)]],n:=((x.n:Int) - 2 - 0).toNat+1,ver:=x.ver+1 } aM i,20,[],19⟩ ?_ ?_
  ·refine ah rfl ?_
   refine ah (by simp;omega) ?_;refine ah rfl ?_;refine aF [I (eD x.f)] (by simp only [abb,abj];rw [if_pos (by omega),show 0+((x.n:Int) - 2).toNat+(0+(0:Int).toNat)=x.n - 2 by omega];exact ub hx (by omega)) ?_;refine ah rfl ?_;refine ah (by simp;omega) ?_;refine ah rfl ?_;refine aF [I (cE x.f)] (by simp only [abb,abj];rw [if_pos (by omega),show 0+((x.n:Int) - 2).toNat+(0+(1:Int).toNat)=x.n - 1 by omega];exact lr hx.pre hx.len hx.le (by omega)) ?_;refine bI (I ((eD x.f+cE x.f) / 2)) vd.body rfl (s61 _ _ v1 v2) ?_;refine aP (by kernel_rfl) ?_;refine aP (by kernel_rfl) ?_;refine ah rfl ?_;refine ah (by simp;omega) ?_;refine aP (by kernel_rfl) ?_;refine aP (by kernel_rfl) ?_;refine ah rfl ?_;refine ah (by simp;omega) ?_;refine aP (by kernel_rfl) ?_;refine bM dj rfl ?_;refine cB ?_;refine bM cZ rfl ?_;refine aS (by simp;omega) ?_;refine cT rfl rfl ?_;refine cB ?_;refine ah (by simp;omega) ?_;refine cT rfl rfl ?_;refine aP (by kernel_rfl) ?_;refine ah rfl ?_;refine ah (by simp;omega) ?_;refine aP (by kernel_rfl) ?_;refine aP (by kernel_rfl) ?_;refine ah rfl ?_;refine ah (by simp;omega) ?_;refine aP (by kernel_rfl) ?_;refine aj (.inl ⟨rfl,?_⟩);exact Weak.eqs [] (by kernel_rfl) (by kernel_rfl) (by kernel_rfl) (by kernel_rfl) (by kernel_rfl) (by kernel_rfl) (by kernel_rfl) (by kernel_rfl) (by kernel_rfl) (by kernel_rfl)
  ·have hs:aX (fun x y=>(x+y) / 2) x.f=some (next (nU (ei (ei x.f)) ((eD x.f+cE x.f) / 2)),aJ):=by simp [aX];omega
   have hy:=hx.gR ((eD x.f+cE x.f) / 2) (by omega);refine au (mF c b f0 (gR x ((eD x.f+cE x.f) / 2)) i hy.pc0 hy.pc1 hy.sp0 hy.sp1) ?_;rintro _ _ _ ⟨rfl,rfl,rfl⟩;refine aj ⟨⟨[],LH c b f0 (passed (gR x ((eD x.f+cE x.f) / 2))) aM i,19,[],19⟩,.inr ?_,rfl,[],rfl,?_⟩
   ·exact Weak.eqs [] (by kernel_rfl) (by kernel_rfl) (by kernel_rfl) (by kernel_rfl) (by kernel_rfl) (by kernel_rfl) (by kernel_rfl) (by kernel_rfl) (by kernel_rfl) (by kernel_rfl)
   ·rw [hs];exact ⟨rfl,rfl,_,rfl,Mid.go hy _ (by have:=hy.pc0;omega) (by have:=hy.pc1;omega),rfl⟩
 ·have hs:aX (fun x y=>(x+y) / 2) x.f=none:=by simp at hb;simp [aX];omega
  refine ky rfl ?_;refine aj ⟨⟨[],LH c b f0 x aM i,19,[],19⟩,.inr ?_,rfl,?_⟩
  ·exact Weak.eqs [] (by kernel_rfl) (by kernel_rfl) (by kernel_rfl) (by kernel_rfl) (by kernel_rfl) (by kernel_rfl) (by kernel_rfl) (by kernel_rfl) (by kernel_rfl) (by kernel_rfl)
  ·rw [hs];exact ⟨rfl,rfl,_,_,rfl⟩
end Uw.Tryz.Vm
namespace Uw.Tryz.Vm
open Go Uw Uw.Tryz
def Jx (f:Frame) (l:Int) (v:Int):Frame:={ f with loc:=f.loc.set l.toNat v }
def sb (f:Frame) (i:In4):Option (Frame×Ask):=
 if below i.a f.loc.length then
  if awaited f i.a then some (f,{ aJ with kind:=5 })
  else if f.stack=[] then none else some (next (Jx (ei f) i.a (cE f)),aJ)
 else none
theorem Is {P:Program} {Q:ay->St->Prop} {fuel:Nat} {l:List DOp} {st:St} {k:ay->St->Tree} (R:Prop) (S:St) (h:WT P (fun e s=>(e = .normal/\R/\Weak s S)\/(∃d,e = .panic d/\∃s',Weak s s'/\WT P Q (k e s'))) (uK l (keepR l st.regs) fuel [] [] st Tree.done)) (h2:R->WT P Q (k .normal S)):WT P Q (.code (.draw fuel l) st k):=by
 refine qN (tX (WT.mono ?_ _ h));rintro e s (⟨rfl,hr,hw⟩|⟨d,rfl,s',hw,hq⟩)
 ·exact ⟨S,.inr hw,h2 hr⟩
 ·exact ⟨s',.inr hw,hq⟩
def LK (x:LX) (l v:Int):LX:={ x with f:=Jx x.f l v,ls:=x.ls.set (0+l.toNat) [I v] }
theorem Inv.Z8 {c:Cd} {b:Bd} {x:LX} (h:Inv c b x) (l v:Int):Inv c b (LK x l v):=by
 refine ⟨h.pre,h.len,h.le,?_,h.deep,h.pc0,h.pc1,h.sp0,h.sp1,?_,h.kids,h.ins,h.az,h.cells⟩
 ·simp [LK,Jx,h.loc,rows,abI]
 ·have:=h.pA;simpa [LK,Jx] using this
theorem Y7 (c:Cd) (b:Bd) (f0:Frame) (x:LX) (i:In4) (hx:Inv c b x) :
  bO P0 Je [.ptr 5 0,.agg (eR i)] (LH c b f0 x aM i) 19 (Done c b f0 i (sb x.f i)):=by
 have h6:=hx.len;refine bT OZ rfl ?_;refine au (Nj c b f0 x i i.a hx) ?_;rintro _ _ _ ⟨rfl,⟨hb,rfl,rfl⟩|⟨hb,ha,rfl,rfl⟩|⟨hb,ha,rfl,rfl⟩⟩
 ·have hs:sb x.f i=none:=by simp [sb,hb]
  refine aj ⟨⟨[],LH c b f0 x aM i,19,[],19⟩,.inr ?_,rfl,?_⟩
  ·exact Weak.eqs [] (by kernel_rfl) (by kernel_rfl) (by kernel_rfl) (by kernel_rfl) (by kernel_rfl) (by kernel_rfl) (by kernel_rfl) (by kernel_rfl) (by kernel_rfl) (by kernel_rfl)
  ·rw [hs];exact ⟨rfl,rfl,_,_,rfl⟩
 ·have hs:sb x.f i=some (x.f,{ aJ with kind:=5 }):=by simp [sb,hb,ha]
  refine ah rfl ?_;refine aj ⟨⟨[],LH c b f0 x zQ i,19,[],19⟩,.inr ?_,rfl,[],rfl,?_⟩
  ·exact Weak.eqs [] (by kernel_rfl) (by kernel_rfl) (by kernel_rfl) (by kernel_rfl) (by kernel_rfl) (by kernel_rfl) (by kernel_rfl) (by kernel_rfl) (by kernel_rfl) (by kernel_rfl)
  ·rw [hs];exact ⟨rfl,rfl,x,rfl,hx.mid,rfl⟩
 ·have hb' : 0<=i.a/\i.a<x.f.loc.length:=by simpa [below] using hb
  have hlt:i.a.toNat<x.f.loc.length:=by omega
  refine aS rfl ?_;have hxl:x.ls.length=x.f.loc.length:=by rw [hx.loc];simp [rows]
  refine Is (x.f.stack≠[]) ⟨[(0,.ptr 5 0)],H19 c b f0 { bB x with ls:=x.ls.set (0+i.a.toNat) [I (cE x.f)] } aM i,20,[],19⟩ ?_ ?_
  ·refine au (Pm c b f0 x i hx) ?_
   rintro _ _ _ ⟨rfl,⟨hn,rfl,rfl⟩|⟨hn,rfl,rfl⟩⟩
   ·have he:x.f.stack≠[]:=by intro h;rw [h6,h] at hn;simp at hn
    iterate 7 (refine aP (by kernel_rfl) ?_)
    refine ah rfl ?_;refine ah (by simp;omega) ?_;refine ah rfl ?_;refine aF [I (x.f.loc.getD i.a.toNat 0)] (by show x.ls[0+i.a.toNat]? = _;rw [hx.loc];exact y7 hlt (by omega)) ?_;refine aj (.inl ⟨rfl,he,?_⟩);exact Weak.eqs [] (by kernel_rfl) (by kernel_rfl) (by kernel_rfl) (by kernel_rfl) (by kernel_rfl) (by kernel_rfl) (by kernel_rfl) (by kernel_rfl) (by kernel_rfl) (by kernel_rfl)
   ·have he:x.f.stack=[]:=by rw [<- ua hx];exact hn
    have hs:sb x.f i=none:=by simp [sb,hb,ha,he]
    refine aj (.inr ⟨_,rfl,⟨[],LH c b f0 x aM i,19,[],19⟩,?_,?_⟩)
    ·exact Weak.eqs [] (by kernel_rfl) (by kernel_rfl) (by kernel_rfl) (by kernel_rfl) (by kernel_rfl) (by kernel_rfl) (by kernel_rfl) (by kernel_rfl) (by kernel_rfl) (by kernel_rfl)
    ·refine aj ⟨_,.inl rfl,rfl,?_⟩
     rw [hs];exact ⟨rfl,rfl,_,_,rfl⟩
  ·intro he
   have hh:H19 c b f0 { bB x with ls:=x.ls.set (0+i.a.toNat) [I (cE x.f)] } aM i=H19 c b f0 (LK (bB x) i.a (cE x.f)) aM i:=by simp [H19,LH,bU,frV,LK,Jx,bB,popped]
   rw [hh];have hs:sb x.f i=some (next (Jx (ei x.f) i.a (cE x.f)),aJ):=by simp [sb,hb,ha,he]
   have hn:0<x.n:=by rw [h6];exact ac6.2 he
   have hy:=(hx.pop hn).Z8 i.a (cE x.f);refine au (mF c b f0 (LK (bB x) i.a (cE x.f)) i hy.pc0 hy.pc1 hy.sp0 hy.sp1) ?_;rintro _ _ _ ⟨rfl,rfl,rfl⟩;refine aj ⟨⟨[],LH c b f0 (passed (LK (bB x) i.a (cE x.f))) aM i,19,[],19⟩,.inr ?_,rfl,[],rfl,?_⟩
   ·exact Weak.eqs [] (by kernel_rfl) (by kernel_rfl) (by kernel_rfl) (by kernel_rfl) (by kernel_rfl) (by kernel_rfl) (by kernel_rfl) (by kernel_rfl) (by kernel_rfl) (by kernel_rfl)
   ·rw [hs];exact ⟨rfl,rfl,_,rfl,Mid.go hy _ (by have:=hy.pc0;omega) (by have:=hy.pc1;omega),rfl⟩
end Uw.Tryz.Vm
namespace Uw.Tryz.Vm
open Go Uw Uw.Tryz
def cU (c:Cd) (op:Int):Int×Int:=
 if op=1\/op=3 then (c.maps,1) else if op=2 then (c.maps,2) else if op=4 then (c.stacks,1) else if op=5 then (c.stacks,0) else if op=6 then (c.chans,1) else if op=7 then (c.chans,0) else (0,0)
theorem Pn (c:Cd) (b:Bd) (f0:Frame) (x:LX) (i:In4) (op:Int) :
  bO P0 l6 [.ptr 5 0,.d (I op)] (H19 c b f0 x aM i) 20 (fun r h' nx'=>nx' = 20/\h' = H19 c b f0 x aM i/\r = .val (.tuple [.d (I (cU c op).1),.d (I (cU c op).2)])):=by
 refine bT tg rfl ?_;have fin:∀(o t:Int) (st:St),cU c op=(o,t)->Weak st ⟨[(4,.d (I o)),(5,.d (I t))],H19 c b f0 x aM i,20,[],20⟩->
   ∃st',(st' = st\/Weak st st')/\Gs l7.res (fun r h' nx'=>nx' = 20/\h' = H19 c b f0 x aM i/\r = .val (.tuple [.d (I (cU c op).1),.d (I (cU c op).2)])) .ret st':=by
  intro o t st hc hw;exact ⟨_,.inr hw,rfl,_,rfl,rfl,rfl,by rw [hc];rfl⟩
 refine bE (fun h1=>?_) (fun h1=>?_)
 ·refine ah h1 ?_
  simp at h1;refine aj (fin c.maps 1 _ (by simp [cU,h1]) ?_);exact Weak.eqs [] (by kernel_rfl) (by kernel_rfl) (by kernel_rfl) (by kernel_rfl) (by kernel_rfl) (by kernel_rfl) (by kernel_rfl) (by kernel_rfl) (by kernel_rfl) (by kernel_rfl)
 simp at h1;refine bE (fun h3=>?_) (fun h3=>?_)
 ·simp at h3
  refine aj (fin c.maps 1 _ (by simp [cU,h3]) ?_);exact Weak.eqs [] (by kernel_rfl) (by kernel_rfl) (by kernel_rfl) (by kernel_rfl) (by kernel_rfl) (by kernel_rfl) (by kernel_rfl) (by kernel_rfl) (by kernel_rfl) (by kernel_rfl)
 simp at h3;refine bE (fun h2=>?_) (fun h2=>?_)
 ·simp at h2
  refine aj (fin c.maps 2 _ (by simp [cU,h2]) ?_);exact Weak.eqs [] (by kernel_rfl) (by kernel_rfl) (by kernel_rfl) (by kernel_rfl) (by kernel_rfl) (by kernel_rfl) (by kernel_rfl) (by kernel_rfl) (by kernel_rfl) (by kernel_rfl)
 simp at h2;refine bE (fun h4=>?_) (fun h4=>?_)
 ·simp at h4
  refine aj (fin c.stacks 1 _ (by simp [cU,h4]) ?_);exact Weak.eqs [] (by kernel_rfl) (by kernel_rfl) (by kernel_rfl) (by kernel_rfl) (by kernel_rfl) (by kernel_rfl) (by kernel_rfl) (by kernel_rfl) (by kernel_rfl) (by kernel_rfl)
 simp at h4;refine bE (fun h5=>?_) (fun h5=>?_)
 ·simp at h5
  refine aj (fin c.stacks 0 _ (by simp [cU,h5]) ?_);exact Weak.eqs [] (by kernel_rfl) (by kernel_rfl) (by kernel_rfl) (by kernel_rfl) (by kernel_rfl) (by kernel_rfl) (by kernel_rfl) (by kernel_rfl) (by kernel_rfl) (by kernel_rfl)
 simp at h5;refine bE (fun h6=>?_) (fun h6=>?_)
 ·simp at h6
  refine aj (fin c.chans 1 _ (by simp [cU,h6]) ?_);exact Weak.eqs [] (by kernel_rfl) (by kernel_rfl) (by kernel_rfl) (by kernel_rfl) (by kernel_rfl) (by kernel_rfl) (by kernel_rfl) (by kernel_rfl) (by kernel_rfl) (by kernel_rfl)
 simp at h6;refine bE (fun h7=>?_) (fun h7=>?_)
 ·simp at h7
  refine aj (fin c.chans 0 _ (by simp [cU,h7]) ?_);exact Weak.eqs [] (by kernel_rfl) (by kernel_rfl) (by kernel_rfl) (by kernel_rfl) (by kernel_rfl) (by kernel_rfl) (by kernel_rfl) (by kernel_rfl) (by kernel_rfl) (by kernel_rfl)
 simp at h7;refine aj (fin 0 0 _ (by simp [cU,h1,h3,h2,h4,h5,h6,h7]) ?_);exact Weak.eqs [] (by kernel_rfl) (by kernel_rfl) (by kernel_rfl) (by kernel_rfl) (by kernel_rfl) (by kernel_rfl) (by kernel_rfl) (by kernel_rfl) (by kernel_rfl) (by kernel_rfl)
end Uw.Tryz.Vm
namespace Uw.Tryz.Vm
open Go Uw Uw.Tryz
theorem Ho (c:Cd) (op:Int):0<=(cU c op).2/\(cU c op).2<=2:=by
 unfold cU;repeat' split
 all_goals simp
def jO (f:Frame) (k:Nat):Frame:={ f with stack:=f.stack.take (f.stack.length - k) }
def dQ (f:Frame) (k:Nat):List Int:=f.stack.drop (f.stack.length - k)
def keyed (op a:Int):Int:=if op=1\/op=2\/op=3 then keyS a else a
def fQ (c:Cd) (f:Frame) (i:In4):Option (Frame×Ask):=
 if below i.b (cU c i.a).1=true/\i.c=(cU c i.a).2/\(cU c i.a).2.toNat<=f.stack.length then
  some (next (jO f (cU c i.a).2.toNat),{ aJ with kind:=3,op:=(i.a,i.b,keyed i.a ((dQ f (cU c i.a).2.toNat++[0,0]).getD 0 0),(dQ f (cU c i.a).2.toNat++[0,0]).getD 1 0) })
 else none
theorem Jy {c:Cd} {b:Bd} {x:LX} (h:Inv c b x) {T:Int} (hk:T<=x.n) (h0:0<=T):(x.xs.drop (0+((x.n:Int) - T).toNat)).take ((x.n:Int) - ((x.n:Int) - T)).toNat=rows (dQ x.f T.toNat):=by
 have h1:=h.len;have h2:=h.le;have e:((x.n:Int) - ((x.n:Int) - T)).toNat=x.n - (0+((x.n:Int) - T).toNat):=by omega
 rw [e,<- ac4,h.pre,rows,rows,dQ,List.map_drop]
 congr 1;omega
theorem Bg {c:Cd} {b:Bd} {x:LX} (h:Inv c b x) {T:Int} (hk:T<=x.n) (h0:0<=T) (k:Nat) (h2:k<2) {m:Nat} (hm:m=k) :
  (((x.xs.drop (0+((x.n:Int) - T).toNat)).take ((x.n:Int) - ((x.n:Int) - T)).toNat).take ((x.xs.drop (0+((x.n:Int) - T).toNat)).take ((x.n:Int) - ((x.n:Int) - T)).toNat).length++((List.replicate 2 [Dat.int IntKind.i64 0]).set 0 [Dat.int IntKind.i64 0]).set 1 [Dat.int IntKind.i64 0])[m]? = some [I ((dQ x.f T.toNat++[0,0]).getD k 0)]:=by
 rw [abZ,Jy h hk h0];show (rows (dQ x.f T.toNat)++rows [0,0])[m]? = _;rw [<- zR];exact y7 (by simp;omega) hm
theorem Inv.drop {c:Cd} {b:Bd} {x:LX} (h:Inv c b x) (T:Int) (h0:0<=T) (hk:T<=x.n):Inv c b { x with n:=((x.n:Int) - T - 0).toNat,f:=jO x.f T.toNat }:=by
 have h1:=h.len;have h2:=h.le;have h3:=h.deep;have e:((x.n:Int) - T - 0).toNat=x.n - T.toNat:=by omega
 refine ⟨?_,?_,?_,h.loc,?_,h.pc0,h.pc1,h.sp0,h.sp1,h.pA,h.kids,h.ins,h.az,h.cells⟩
 ·simp only [jO,e]
  have:x.xs.take (x.n - T.toNat)=(x.xs.take x.n).take (x.n - T.toNat):=by rw [ac2,Nat.min_eq_left (by omega)]
  rw [this,h.pre,rows,rows,List.map_take,h1]
 ·simp [jO,e];omega
 ·simp only [e];omega
 ·simp [jO];omega
theorem XZ (c:Cd) (b:Bd) (f0:Frame) (x:LX) (i:In4) (hx:Inv c b x) :
  bO P0 FI [.ptr 5 0,.agg (eR i)] (LH c b f0 x aM i) 19 (Done c b f0 i (fQ c x.f i)):=by
 have h5:=hx.deep;have h6:=hx.len;have h7:=hx.le;have g1:=hx.pc0;have g2:=hx.pc1;have g3:=hx.sp0;have g4:=hx.sp1;have ht:=Ho c i.a;refine bT Ls rfl ?_;refine au (Pn c b f0 x i i.a) ?_;rintro _ _ _ ⟨rfl,rfl,rfl⟩;generalize hT:(cU c i.a).2=T at *;generalize hO:(cU c i.a).1=O at *;refine aL _ (s25 _ _) ?_;refine bE (fun hb=>?_) (fun hb=>?_)
 ·refine ah (by simpa using hb) ?_
  refine au (aU _ _ _ _) ?_;rintro _ _ _ ⟨rfl,rfl,⟨hc,rfl⟩|⟨hc,rfl⟩⟩
  ·refine bM bZ rfl ?_
   refine cB ?_;refine au (aU _ _ _ _) ?_;rintro _ _ _ ⟨rfl,rfl,⟨hk,rfl⟩|⟨hk,rfl⟩⟩
   ·simp at hk
    refine cB ?_;refine ah (by simp [inR];omega) ?_;refine cB ?_;refine ah (by simp;omega) ?_;refine cB ?_;refine ah (by simp;omega) ?_;refine cB ?_;refine ah (by simp;omega) ?_;refine dL rfl rfl ?_;refine ah rfl ?_;refine ah (by simp;omega) ?_;refine bq ⟨[(0,.ptr 5 0),(3,.ptr 19 0),(7,.ptr 20 0)],(20,.var [.d (I i.a),.d (I i.b),.d (I ((dQ x.f T.toNat++[0,0]).getD 0 0)),.d (I ((dQ x.f T.toNat++[0,0]).getD 1 0))])::H19 c b f0 { x with n:=((x.n:Int) - T - 0).toNat } aM i,21,[],19⟩ ?_ ?_
    ·refine ah rfl ?_
     refine ah (by simp;omega) ?_;refine ah rfl ?_;refine aF [I ((dQ x.f T.toNat++[0,0]).getD 0 0)] (Bg hx hk ht.1 0 (by omega) (by decide)) ?_;refine ah rfl ?_;refine ah (by simp;omega) ?_;refine ah rfl ?_;refine aF [I ((dQ x.f T.toNat++[0,0]).getD 1 0)] (Bg hx hk ht.1 1 (by omega) (by decide)) ?_
     iterate 5 (refine aP (by kernel_rfl) ?_)
     refine ah rfl ?_;refine ah (by simp;omega) ?_;refine aP (by kernel_rfl) ?_;refine ah rfl ?_;refine aF [I ((dQ x.f T.toNat++[0,0]).getD 0 0)] (Bg hx hk ht.1 0 (by omega) (by decide)) ?_;refine aP (by kernel_rfl) ?_;refine aP (by kernel_rfl) ?_;refine ah rfl ?_;refine ah (by simp;omega) ?_;refine aP (by kernel_rfl) ?_;refine ah rfl ?_;refine aF [I ((dQ x.f T.toNat++[0,0]).getD 1 0)] (Bg hx hk ht.1 1 (by omega) (by decide)) ?_;refine aP (by kernel_rfl) ?_;refine aP (by kernel_rfl) ?_;refine aj (.inl ⟨rfl,?_⟩);exact Weak.eqs [(20,21)] (by kernel_rfl) (by kernel_rfl) (by kernel_rfl) (by kernel_rfl) (by kernel_rfl) (by kernel_rfl) (by kernel_rfl) (by kernel_rfl) (by kernel_rfl) (by kernel_rfl)
    ·refine bE (fun k1=>?_) (fun k1=>?_)
     ·refine ah k1 ?_
      refine aL _ (s16 _) ?_;refine bM c6 rfl ?_;refine ah (by simp [inR];omega) ?_;refine bM c8 rfl ?_;refine ah (by simp [inR];omega) ?_;refine cT rfl rfl ?_;refine cT rfl rfl ?_;refine aj ⟨⟨[],LH c b f0 (passed { x with n:=((x.n:Int) - T - 0).toNat,f:=jO x.f T.toNat }) (AV { aJ with kind:=3,op:=(i.a,i.b,keyS ((dQ x.f T.toNat++[0,0]).getD 0 0),(dQ x.f T.toNat++[0,0]).getD 1 0) }) i,19,[],19⟩,.inr ?_,rfl,[],rfl,?_⟩
      ·exact Weak.eqs [] (by kernel_rfl) (by kernel_rfl) (by kernel_rfl) (by kernel_rfl) (by kernel_rfl) (by kernel_rfl) (by kernel_rfl) (by kernel_rfl) (by kernel_rfl) (by kernel_rfl)
      ·have e:keyed i.a=keyS:=by simp at k1;funext a;simp [keyed,k1]
       have hs:fQ c x.f i=some (next (jO x.f T.toNat),{ aJ with kind:=3,op:=(i.a,i.b,keyed i.a ((dQ x.f T.toNat++[0,0]).getD 0 0),(dQ x.f T.toNat++[0,0]).getD 1 0) }):=by
        simp only [fQ,hT,hO];rw [if_pos ⟨by simpa [below] using hb,by simpa using hc,by omega⟩]
       have hy:=hx.drop T ht.1 hk;rw [hs,e];exact ⟨rfl,rfl,_,rfl,Mid.go hy _ (by have:=hy.pc0;omega) (by have:=hy.pc1;omega),rfl⟩
     refine bE (fun k2=>?_) (fun k2=>?_)
     ·refine ah k2 ?_
      refine aL _ (s16 _) ?_;refine bM c6 rfl ?_;refine ah (by simp [inR];omega) ?_;refine bM c8 rfl ?_;refine ah (by simp [inR];omega) ?_;refine cT rfl rfl ?_;refine cT rfl rfl ?_;refine aj ⟨⟨[],LH c b f0 (passed { x with n:=((x.n:Int) - T - 0).toNat,f:=jO x.f T.toNat }) (AV { aJ with kind:=3,op:=(i.a,i.b,keyS ((dQ x.f T.toNat++[0,0]).getD 0 0),(dQ x.f T.toNat++[0,0]).getD 1 0) }) i,19,[],19⟩,.inr ?_,rfl,[],rfl,?_⟩
      ·exact Weak.eqs [] (by kernel_rfl) (by kernel_rfl) (by kernel_rfl) (by kernel_rfl) (by kernel_rfl) (by kernel_rfl) (by kernel_rfl) (by kernel_rfl) (by kernel_rfl) (by kernel_rfl)
      ·have e:keyed i.a=keyS:=by simp at k2;funext a;simp [keyed,k2]
       have hs:fQ c x.f i=some (next (jO x.f T.toNat),{ aJ with kind:=3,op:=(i.a,i.b,keyed i.a ((dQ x.f T.toNat++[0,0]).getD 0 0),(dQ x.f T.toNat++[0,0]).getD 1 0) }):=by
        simp only [fQ,hT,hO];rw [if_pos ⟨by simpa [below] using hb,by simpa using hc,by omega⟩]
       have hy:=hx.drop T ht.1 hk;rw [hs,e];exact ⟨rfl,rfl,_,rfl,Mid.go hy _ (by have:=hy.pc0;omega) (by have:=hy.pc1;omega),rfl⟩
     refine bE (fun k3=>?_) (fun k3=>?_)
     ·refine aL _ (s16 _) ?_
      refine bM c6 rfl ?_;refine ah (by simp [inR];omega) ?_;refine bM c8 rfl ?_;refine ah (by simp [inR];omega) ?_;refine cT rfl rfl ?_;refine cT rfl rfl ?_;refine aj ⟨⟨[],LH c b f0 (passed { x with n:=((x.n:Int) - T - 0).toNat,f:=jO x.f T.toNat }) (AV { aJ with kind:=3,op:=(i.a,i.b,keyS ((dQ x.f T.toNat++[0,0]).getD 0 0),(dQ x.f T.toNat++[0,0]).getD 1 0) }) i,19,[],19⟩,.inr ?_,rfl,[],rfl,?_⟩
      ·exact Weak.eqs [] (by kernel_rfl) (by kernel_rfl) (by kernel_rfl) (by kernel_rfl) (by kernel_rfl) (by kernel_rfl) (by kernel_rfl) (by kernel_rfl) (by kernel_rfl) (by kernel_rfl)
      ·have e:keyed i.a=keyS:=by simp at k3;funext a;simp [keyed,k3]
       have hs:fQ c x.f i=some (next (jO x.f T.toNat),{ aJ with kind:=3,op:=(i.a,i.b,keyed i.a ((dQ x.f T.toNat++[0,0]).getD 0 0),(dQ x.f T.toNat++[0,0]).getD 1 0) }):=by
        simp only [fQ,hT,hO];rw [if_pos ⟨by simpa [below] using hb,by simpa using hc,by omega⟩]
       have hy:=hx.drop T ht.1 hk;rw [hs,e];exact ⟨rfl,rfl,_,rfl,Mid.go hy _ (by have:=hy.pc0;omega) (by have:=hy.pc1;omega),rfl⟩
     ·skip
      refine bM c6 rfl ?_;refine ah (by simp [inR];omega) ?_;refine bM c8 rfl ?_;refine ah (by simp [inR];omega) ?_;refine cT rfl rfl ?_;refine cT rfl rfl ?_;refine aj ⟨⟨[],LH c b f0 (passed { x with n:=((x.n:Int) - T - 0).toNat,f:=jO x.f T.toNat }) (AV { aJ with kind:=3,op:=(i.a,i.b,(dQ x.f T.toNat++[0,0]).getD 0 0,(dQ x.f T.toNat++[0,0]).getD 1 0) }) i,19,[],19⟩,.inr ?_,rfl,[],rfl,?_⟩
      ·exact Weak.eqs [] (by kernel_rfl) (by kernel_rfl) (by kernel_rfl) (by kernel_rfl) (by kernel_rfl) (by kernel_rfl) (by kernel_rfl) (by kernel_rfl) (by kernel_rfl) (by kernel_rfl)
      ·have e:keyed i.a=id:=by simp at k1 k2 k3;funext a;simp [keyed,k1,k2,k3]
       have hs:fQ c x.f i=some (next (jO x.f T.toNat),{ aJ with kind:=3,op:=(i.a,i.b,keyed i.a ((dQ x.f T.toNat++[0,0]).getD 0 0),(dQ x.f T.toNat++[0,0]).getD 1 0) }):=by
        simp only [fQ,hT,hO];rw [if_pos ⟨by simpa [below] using hb,by simpa using hc,by omega⟩]
       have hy:=hx.drop T ht.1 hk;rw [hs,e];exact ⟨rfl,rfl,_,rfl,Mid.go hy _ (by have:=hy.pc0;omega) (by have:=hy.pc1;omega),rfl⟩
   ·have hs:fQ c x.f i=none:=by simp at hk;simp only [fQ,hT,hO];rw [if_neg (by rintro ⟨-,-,h⟩;omega)]
    refine ky rfl ?_;refine aj ⟨⟨[],LH c b f0 x aM i,19,[],19⟩,.inr ?_,rfl,?_⟩
    ·exact Weak.eqs [] (by kernel_rfl) (by kernel_rfl) (by kernel_rfl) (by kernel_rfl) (by kernel_rfl) (by kernel_rfl) (by kernel_rfl) (by kernel_rfl) (by kernel_rfl) (by kernel_rfl)
    ·rw [hs];exact ⟨rfl,rfl,_,_,rfl⟩
  ·have hs:fQ c x.f i=none:=by simp at hc;simp only [fQ,hT,hO];rw [if_neg (by rintro ⟨-,h,-⟩;exact hc h)]
   refine aj ⟨⟨[],LH c b f0 x aM i,19,[],19⟩,.inr ?_,rfl,?_⟩
   ·exact Weak.eqs [] (by kernel_rfl) (by kernel_rfl) (by kernel_rfl) (by kernel_rfl) (by kernel_rfl) (by kernel_rfl) (by kernel_rfl) (by kernel_rfl) (by kernel_rfl) (by kernel_rfl)
   ·rw [hs];exact ⟨rfl,rfl,_,_,rfl⟩
 ·refine aS (by simpa using hb) ?_
  have hs:fQ c x.f i=none:=by simp only [fQ,hT,hO];rw [if_neg (by rintro ⟨h,-,-⟩;simp [below] at h;simp at hb;omega)]
  refine au (aU _ _ _ _) ?_;rintro _ _ _ ⟨rfl,rfl,⟨hc,rfl⟩|⟨hc,rfl⟩⟩
  ·simp at hc
  ·refine aj ⟨⟨[],LH c b f0 x aM i,19,[],19⟩,.inr ?_,rfl,?_⟩
   ·exact Weak.eqs [] (by kernel_rfl) (by kernel_rfl) (by kernel_rfl) (by kernel_rfl) (by kernel_rfl) (by kernel_rfl) (by kernel_rfl) (by kernel_rfl) (by kernel_rfl) (by kernel_rfl)
   ·rw [hs];exact ⟨rfl,rfl,_,_,rfl⟩
end Uw.Tryz.Vm
namespace Uw.Tryz.Vm
open Go Uw Uw.Tryz
def X0 (c:Cd) (k:Int):Int:=(c.az.getD k.toNat ⟨0,0,[]⟩).args
def cQ (c:Cd) (f:Frame) (i:In4):Option (Frame×Ask):=
 if below i.a c.az.length=true/\dest i.c f.loc.length=true/\0<=i.b/\i.b=X0 c i.a/\i.b.toNat<=f.stack.length then
  some (next (jO f i.b.toNat),⟨4,i.a,i.c,(0,0,0,0),dQ f i.b.toNat⟩)
 else none
def Po (a:Ask) (v:V):List V:=[.d (I a.kind),.d (I a.a),.d (I a.b),.d (I a.op.1),.d (I a.op.2.1),.d (I a.op.2.2.1),.d (I a.op.2.2.2),v]
def Y8 (c:Cd) (b:Bd) (f0:Frame) (i:In4) (s:Option (Frame×Ask)) (r:Res) (h' : Heap) (nx' : Nat):Prop:=
 match s with
 | none=>nx' = 19/\r = .pan vS/\∃y ask,h' = LH c b f0 y ask i
 | some (g,a)=>nx' = 20/\r = .val (.tuple [])/\∃y,y.f=g/\Mid c b y/\h' = (19,.mt 1 0 (rows a.args))::LH c b f0 y (Po a (.ref 19 0 0 a.args.length)) i
theorem U6 (c:Cd) (b:Bd) (f0:Frame) (x:LX) (i:In4) (hx:Inv c b x) :
  bO P0 Dj [.ptr 5 0,.agg (eR i)] (LH c b f0 x aM i) 19 (Y8 c b f0 i (cQ c x.f i)):=by
 have h5:=hx.deep;have h6:=hx.len;have h7:=hx.le;have g1:=hx.pc0;have g2:=hx.pc1;have g3:=hx.sp0;have g4:=hx.sp1;refine bT Jj rfl ?_;refine aL _ (s25 _ _) ?_;refine bE (fun ha=>?_) (fun ha=>?_)
 ·refine cB ?_
  refine aL _ (s37 _ _) ?_;refine ah (by simp) ?_;refine au (aU _ _ _ _) ?_;rintro _ _ _ ⟨rfl,rfl,⟨hd,rfl⟩|⟨hd,rfl⟩⟩
  ·simp at ha
   refine bE (fun h0=>?_) (fun h0=>?_)
   ·refine ah (by simp;omega) ?_
    refine aF (bdC (c.az.getD i.a.toNat ⟨0,0,[]⟩)) (by simp [show i.a.toNat<c.az.length by omega]) ?_;refine ah (by simp) ?_;refine au (aU _ _ _ _) ?_;rintro _ _ _ ⟨rfl,rfl,⟨hq,rfl⟩|⟨hq,rfl⟩⟩
    ·simp at hq h0
     refine bM bZ rfl ?_;refine cB ?_;refine au (aU _ _ _ _) ?_;rintro _ _ _ ⟨rfl,rfl,⟨hk,rfl⟩|⟨hk,rfl⟩⟩
     ·simp at hk
      refine cB ?_;refine ah (by simp [inR];omega) ?_;refine cB ?_;refine ah (by simp;omega) ?_;refine cB ?_;refine ah (by simp;omega) ?_;refine cB ?_;refine ah (by simp;omega) ?_;refine dL rfl rfl ?_;refine bM c6 rfl ?_;refine ah (by simp [inR];omega) ?_;refine bM c8 rfl ?_;refine ah (by simp [inR];omega) ?_;refine cT rfl rfl ?_;refine cT rfl rfl ?_;have hs:cQ c x.f i=some (next (jO x.f i.b.toNat),⟨4,i.a,i.c,(0,0,0,0),dQ x.f i.b.toNat⟩):=by
       simp only [cQ];rw [if_pos ⟨by simpa [below] using ha,hd,h0,hq,by omega⟩]
      have hy:=hx.drop i.b h0 hk;refine aj ⟨⟨[],(19,.mt 1 0 ((x.xs.drop (0+((x.n:Int) - i.b).toNat)).take ((x.n:Int) - ((x.n:Int) - i.b)).toNat))::LH c b f0 (passed { x with n:=((x.n:Int) - i.b - 0).toNat,f:=jO x.f i.b.toNat }) (Po ⟨4,i.a,i.c,(0,0,0,0),dQ x.f i.b.toNat⟩ (.ref 19 0 0 ((x.xs.drop (0+((x.n:Int) - i.b).toNat)).take ((x.n:Int) - ((x.n:Int) - i.b)).toNat).length)) i,20,[],19⟩,.inr ?_,rfl,[],rfl,?_⟩
      ·exact Weak.eqs [(19,20)] (by kernel_rfl) (by kernel_rfl) (by kernel_rfl) (by kernel_rfl) (by kernel_rfl) (by kernel_rfl) (by kernel_rfl) (by kernel_rfl) (by kernel_rfl) (by kernel_rfl)
      ·rw [hs,Jy hx hk h0]
       rw [show (rows (dQ x.f i.b.toNat)).length=(dQ x.f i.b.toNat).length by simp [rows]];exact ⟨rfl,rfl,_,rfl,Mid.go hy (x.f.pc+1) (by omega) (by omega),rfl⟩
     ·have hs:cQ c x.f i=none:=by simp at hk;simp only [cQ];rw [if_neg (by rintro ⟨-,-,-,-,h⟩;omega)]
      refine ky rfl ?_;refine aj ⟨⟨[],LH c b f0 x aM i,19,[],19⟩,.inr ?_,rfl,?_⟩
      ·exact Weak.eqs [] (by kernel_rfl) (by kernel_rfl) (by kernel_rfl) (by kernel_rfl) (by kernel_rfl) (by kernel_rfl) (by kernel_rfl) (by kernel_rfl) (by kernel_rfl) (by kernel_rfl)
      ·rw [hs];exact ⟨rfl,rfl,_,_,rfl⟩
    ·have hs:cQ c x.f i=none:=by simp at hq;simp only [cQ];rw [if_neg (by rintro ⟨-,-,-,h,-⟩;exact hq h)]
     refine aj ⟨⟨[],LH c b f0 x aM i,19,[],19⟩,.inr ?_,rfl,?_⟩
     ·exact Weak.eqs [] (by kernel_rfl) (by kernel_rfl) (by kernel_rfl) (by kernel_rfl) (by kernel_rfl) (by kernel_rfl) (by kernel_rfl) (by kernel_rfl) (by kernel_rfl) (by kernel_rfl)
     ·rw [hs];exact ⟨rfl,rfl,_,_,rfl⟩
   ·have hs:cQ c x.f i=none:=by simp at h0;simp only [cQ];rw [if_neg (by rintro ⟨-,-,h,-,-⟩;omega)]
    refine aS (by simp) ?_;refine au (aU _ _ _ _) ?_;rintro _ _ _ ⟨rfl,rfl,⟨hq,rfl⟩|⟨hq,rfl⟩⟩
    ·simp at hq
    ·skip
     refine aj ⟨⟨[],LH c b f0 x aM i,19,[],19⟩,.inr ?_,rfl,?_⟩
     ·exact Weak.eqs [] (by kernel_rfl) (by kernel_rfl) (by kernel_rfl) (by kernel_rfl) (by kernel_rfl) (by kernel_rfl) (by kernel_rfl) (by kernel_rfl) (by kernel_rfl) (by kernel_rfl)
     ·rw [hs];exact ⟨rfl,rfl,_,_,rfl⟩
  ·have hs:cQ c x.f i=none:=by simp only [cQ];rw [if_neg (by rintro ⟨-,h,-,-,-⟩;rw [hd] at h;simp at h)]
   refine aj ⟨⟨[],LH c b f0 x aM i,19,[],19⟩,.inr ?_,rfl,?_⟩
   ·exact Weak.eqs [] (by kernel_rfl) (by kernel_rfl) (by kernel_rfl) (by kernel_rfl) (by kernel_rfl) (by kernel_rfl) (by kernel_rfl) (by kernel_rfl) (by kernel_rfl) (by kernel_rfl)
   ·rw [hs];exact ⟨rfl,rfl,_,_,rfl⟩
 ·have hs:cQ c x.f i=none:=by simp only [cQ];rw [if_neg (by rintro ⟨h,-,-,-,-⟩;simp [below] at h;simp at ha;omega)]
  refine aS (by simp) ?_;refine au (aU _ _ _ _) ?_;rintro _ _ _ ⟨rfl,rfl,⟨hq,rfl⟩|⟨hq,rfl⟩⟩
  ·simp at hq
  ·skip
   refine aj ⟨⟨[],LH c b f0 x aM i,19,[],19⟩,.inr ?_,rfl,?_⟩
   ·exact Weak.eqs [] (by kernel_rfl) (by kernel_rfl) (by kernel_rfl) (by kernel_rfl) (by kernel_rfl) (by kernel_rfl) (by kernel_rfl) (by kernel_rfl) (by kernel_rfl) (by kernel_rfl)
   ·rw [hs];exact ⟨rfl,rfl,_,_,rfl⟩
end Uw.Tryz.Vm
namespace Uw.Tryz.Vm
open Go Uw Uw.Tryz
def stepS (c:Cd) (b:Bd) (f:Frame) (i:In4):Option (Frame×Ask):=
 if i.op=1 then jX f i
 else if i.op=2 then fO f i
 else if i.op=3 then sb f i
 else if i.op=4 then o8 c f i
 else if i.op=5 then g8 c f i
 else if i.op=6 then aX (fun x y=>cm (x+y)) f
 else if i.op=7 then aX (fun x y=>cm (x - y)) f
 else if i.op=8 then aX (fun x y=>cm (x * y)) f
 else if i.op=9 then aX (fun x y=>truth (decide (x<y))) f
 else if i.op=10 then aX (fun x y=>truth (decide (x=y))) f
 else if i.op=11 then fQ c f i
 else if i.op=12 then o9 f
 else if i.op=13 then cQ c f i
 else if i.op=14 then jv f
 else if i.op=15 then pa b f i
 else if i.op=16 then kb b f i
 else if i.op=17 then uG f
 else if i.op=18 then dC f
 else if i.op=19 then aX (fun x y=>(x+y) / 2) f
 else none
structure dW (f:Frame):Prop where
 loc:f.loc.all isVal=true
 stack:f.stack.all isVal=true
theorem vT (n:Int):isVal (cm n)=true:=by
 have h:0<=cm n/\cm n<4294967296:=by unfold cm;omega
 simp [isVal,h]
theorem zS (b:Bool):isVal (truth b)=true:=by cases b<;>rfl
theorem LL {x y:Int} (hx:isVal x=true) (hy:isVal y=true):isVal ((x+y) / 2)=true:=by simp only [isVal,aa5,decide_eq_true_eq] at *;omega
theorem Hq {p:Int->Bool} {l:List Int} (h:l.all p=true):l.dropLast.all p=true:=by
 rw [abe] at *;exact fun x hx=>h x (List.dropLast_subset _ hx)
theorem Sj {l:List Int} (h:l.all isVal=true):isVal (l.getLastD 0)=true:=by
 rw [abe] at h
 cases l with
 | nil=>rfl
 | cons a r=>rw [List.getLastD_cons];exact h _ (by rw [<- List.getLast_eq_getLastD (h:=by simp)];exact List.getLast_mem _)
theorem Pq {p:Int->Bool} {l:List Int} (k:Nat) (h:l.all p=true):(l.take k).all p=true:=by
 rw [abe] at *;exact fun x hx=>h x (List.take_subset _ _ hx)
theorem Sl {l:List Int} (k:Nat) (h:l.all isVal=true):isVal (l.getD k 0)=true:=by
 rw [abe] at h;rw [acn]
 cases hk:l[k]? with
 | none=>rfl
 | some x=>exact h x (abv hk)
theorem Nn {l:List Int} (k:Nat) {v:Int} (hv:isVal v=true) (h:l.all isVal=true):(l.set k v).all isVal=true:=by
 rw [abe] at *;intro x hx
 rcases abK hx with h1|h1
 ·exact h x h1
 ·rw [h1];exact hv
theorem dW.pop {f:Frame} (h:dW f):dW (ei f):=⟨h.loc,Hq h.stack⟩
theorem dW.drop {f:Frame} (h:dW f) (k:Nat):dW (jO f k):=⟨h.loc,Pq _ h.stack⟩
theorem dW.put {f:Frame} (h:dW f) {v:Int} (hv:isVal v=true):dW (nU f v):=⟨h.loc,by simp only [nU,adp,h.stack];simp [hv]⟩
theorem dW.pass {f:Frame} (h:dW f) (to:Int):dW (pass f to):=⟨h.loc,h.stack⟩
theorem dW.next {f:Frame} (h:dW f):dW (next f):=⟨h.loc,h.stack⟩
theorem dW.top {f:Frame} (h:dW f):isVal (cE f)=true:=Sj h.stack
theorem dW.reckon {f:Frame} (h:dW f) {op:Int->Int->Int} (ho:∀x y,isVal x=true->isVal y=true->isVal (op x y)=true) {g:Frame} {a:Ask} (hs:aX op f=some (g,a)):dW g:=by
 simp only [aX] at hs
 split at hs
 ·simp at hs;obtain ⟨rfl,rfl⟩:=hs
  exact (h.pop.pop.put (ho _ _ h.pop.top h.top)).next
 ·simp at hs
theorem za {c:Cd} {b:Bd} {f g:Frame} {i:In4} {a:Ask} (h:dW f) (hs:stepS c b f i=some (g,a)):dW g:=by
 unfold stepS at hs;by_cases h1:i.op=1
 ·rw [if_pos h1] at hs;simp only [jX] at hs;split at hs
  ·rename_i hh;simp at hs;obtain ⟨rfl,rfl⟩:=hs;exact (h.put hh.1).next
  ·simp at hs
 rw [if_neg h1] at hs;by_cases h1:i.op=2
 ·rw [if_pos h1] at hs;simp only [fO] at hs;repeat' split at hs
  ·simp at hs;obtain ⟨rfl,rfl⟩:=hs;exact h
  ·simp at hs;obtain ⟨rfl,rfl⟩:=hs;exact (h.put (Sl _ h.loc)).next
  ·simp at hs
  ·simp at hs
 rw [if_neg h1] at hs;by_cases h1:i.op=3
 ·rw [if_pos h1] at hs;simp only [sb] at hs;repeat' split at hs
  ·simp at hs;obtain ⟨rfl,rfl⟩:=hs;exact h
  ·simp at hs
  ·simp at hs;obtain ⟨rfl,rfl⟩:=hs;exact ⟨Nn _ h.top h.loc,h.pop.stack⟩
  ·simp at hs
 rw [if_neg h1] at hs;by_cases h1:i.op=4
 ·rw [if_pos h1] at hs;simp only [o8] at hs;split at hs
  ·simp at hs;obtain ⟨rfl,rfl⟩:=hs;exact h.next
  ·simp at hs
 rw [if_neg h1] at hs;by_cases h1:i.op=5
 ·rw [if_pos h1] at hs;simp only [g8] at hs;split at hs
  ·simp at hs;obtain ⟨rfl,rfl⟩:=hs;exact h.pop.next
  ·simp at hs
 rw [if_neg h1] at hs;by_cases h1:i.op=6
 ·rw [if_pos h1] at hs;exact h.reckon (fun _ _ _ _=>vT _) hs
 rw [if_neg h1] at hs;by_cases h1:i.op=7
 ·rw [if_pos h1] at hs;exact h.reckon (fun _ _ _ _=>vT _) hs
 rw [if_neg h1] at hs;by_cases h1:i.op=8
 ·rw [if_pos h1] at hs;exact h.reckon (fun _ _ _ _=>vT _) hs
 rw [if_neg h1] at hs;by_cases h1:i.op=9
 ·rw [if_pos h1] at hs;exact h.reckon (fun _ _ _ _=>zS _) hs
 rw [if_neg h1] at hs;by_cases h1:i.op=10
 ·rw [if_pos h1] at hs;exact h.reckon (fun _ _ _ _=>zS _) hs
 rw [if_neg h1] at hs;by_cases h1:i.op=11
 ·rw [if_pos h1] at hs;simp only [fQ] at hs;split at hs
  ·simp at hs;obtain ⟨rfl,rfl⟩:=hs;exact (h.drop _).next
  ·simp at hs
 rw [if_neg h1] at hs;by_cases h1:i.op=12
 ·rw [if_pos h1] at hs;simp only [o9] at hs;split at hs
  ·simp at hs;obtain ⟨rfl,rfl⟩:=hs;exact h.pop.next
  ·simp at hs
 rw [if_neg h1] at hs;by_cases h1:i.op=13
 ·rw [if_pos h1] at hs;simp only [cQ] at hs;split at hs
  ·simp at hs;obtain ⟨rfl,rfl⟩:=hs;exact (h.drop _).next
  ·simp at hs
 rw [if_neg h1] at hs;by_cases h1:i.op=14
 ·rw [if_pos h1] at hs;simp only [jv] at hs;split at hs
  ·simp at hs;obtain ⟨rfl,rfl⟩:=hs;exact h.next
  ·simp at hs;obtain ⟨rfl,rfl⟩:=hs;exact h
 rw [if_neg h1] at hs;by_cases h1:i.op=15
 ·rw [if_pos h1] at hs;simp only [pa] at hs;split at hs
  ·simp at hs;obtain ⟨rfl,rfl⟩:=hs;exact h.pass _
  ·simp at hs
 rw [if_neg h1] at hs;by_cases h1:i.op=16
 ·rw [if_pos h1] at hs;simp only [kb] at hs;repeat' split at hs
  ·simp at hs;obtain ⟨rfl,rfl⟩:=hs;exact h.pop.pass _
  ·simp at hs;obtain ⟨rfl,rfl⟩:=hs;exact h.pop.next
  ·simp at hs
 rw [if_neg h1] at hs;by_cases h1:i.op=17
 ·rw [if_pos h1] at hs;simp only [uG] at hs;repeat' split at hs
  ·simp at hs
  ·simp at hs;obtain ⟨rfl,rfl⟩:=hs;exact h.pop.next
  ·simp at hs;obtain ⟨rfl,rfl⟩:=hs;exact h
 rw [if_neg h1] at hs;by_cases h1:i.op=18
 ·rw [if_pos h1] at hs;simp only [dC] at hs;split at hs
  ·simp at hs;obtain ⟨rfl,rfl⟩:=hs;exact ⟨h.pop.loc,h.pop.stack⟩
  ·simp at hs
 rw [if_neg h1] at hs;by_cases h1:i.op=19
 ·rw [if_pos h1] at hs;exact h.reckon (fun _ _ hx hy=>LL hx hy) hs
 rw [if_neg h1] at hs;simp at hs
end Uw.Tryz.Vm
