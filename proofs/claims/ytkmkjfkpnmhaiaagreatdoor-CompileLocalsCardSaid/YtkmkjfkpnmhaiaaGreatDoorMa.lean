/- Ma: Ec Ed Ee Ef Eg Eh Cc Ib (merged by merge2.py from the working texts). -/
import Derived.Test.YtkmkjfkpnmhaiaaGreatDoorM9
import Derived.Test.YtkmkjfkpnmhaiaaGreatDoorM7
import Derived.Test.YtkmkjfkpnmhaiaaGreatDoorM8
set_option maxRecDepth 4000
set_option maxHeartbeats 8000000
set_option linter.unusedSimpArgs false
set_option linter.unnecessarySimpa false
set_option linter.unusedVariables false
set_option linter.unusedSectionVars false
namespace Uw.Tryz
open Go Uw
abbrev ndB (xk xn:Int) (xs xt:Str) (xo:List Int):Blk:=.var [.d (I xk),.d (I xn),.d (.str xs),.d (.str xt),.d (cb xo)]
abbrev fmS (p:Pg) (i:Nat) (b:Blk) (E1 E2 E3:Nat->Nat) (j:Nat):St:=⟨[(9,.d (I j)),(6,.d (I (E1 j:Nat))),(7,.d (I (E2 j:Nat))),(8,.d (I (E3 j:Nat))),(5,.ptr 1 0),(1,.d (I i)),(2,.ptr 0 0)],[(1,b),(0,pgV p)],2,[],0⟩
def fmB:bN:=qL (qL (qR (qL (qR (qR (qR (qR (qR rH.code))))))))
theorem Gv (p:Pg) (hN:p.nodes.length<100000) (i:Nat) (hi:i<p.nodes.length) (xk xn:Int) (xs xt:Str) (xo:List Int) (hlow:∀k∈xo,0<=k/\k<(i:Int)) (hxo:xo.length<100000) (E1 E2 E3:Nat->Nat)
  (hE:∀(j:Nat) (h:j<xo.length),(cQ (cU p.nodes xo[j])=1/\E1 (j+1)=E1 j+1/\E2 (j+1)=E2 j/\E3 (j+1)=E3 j)\/(cQ (cU p.nodes xo[j])=2/\E1 (j+1)=E1 j/\E2 (j+1)=E2 j+1/\E3 (j+1)=E3 j)\/(cQ (cU p.nodes xo[j])=3/\E1 (j+1)=E1 j/\E2 (j+1)=E2 j/\E3 (j+1)=E3 j+1))
  (hb:∀j,E1 j<=100000/\E2 j<=100000/\E3 j<=100000)
  (j:Nat) (hj:j<xo.length) (hpre:∀m,m<j->True) {QQ:aG->St->Prop}:WT P0 (gJ (fmS p i (ndB xk xn xs xt xo) E1 E2 E3) (sK xo.length fun _=>True) (forM xo.length) j QQ) (exec fmB (fmS p i (ndB xk xn xs xt xo) E1 E2 E3 j) Tree.done):=by
 have hnl:(p.nodes.map ndL).length=p.nodes.length:=by simp
 have hol:(xo.map fun i=>[I i]).length=xo.length:=by simp
 have he:(xo.map fun i=>[I i])[(j:Int).toNat]? = some [I xo[j]]:=by simp [hj]
 have hlo:=hlow xo[j] (YT hj);have hE:=hE j hj;have hb:=hb j;generalize xo[j]=y at *;obtain ⟨hl1,hl2⟩:=hlo;obtain ⟨hb1,hb2,hb3⟩:=hb;have hyl:y.toNat<p.nodes.length:=by omega
 have hen:(p.nodes.map ndL)[y.toNat]? = some (ndL p.nodes[y.toNat]):=by simp [hyl]
 have hk:cU p.nodes y=p.nodes[y.toNat].kind:=by rw [cU,List.getD,YQ hyl];rfl
 rw [hk] at hE;clear hk;generalize p.nodes[y.toNat]=n at *;obtain ⟨yk,yn,ys,yt,yo⟩:=n;have hen:(p.nodes.map ndL)[y.toNat]? = some [I yk,I yn,.str ys,.str yt,cb yo]:=hen;have hso:=wa yk;simp only at hE
 rcases hE with ⟨h0,h1,h2,h3⟩|⟨h0,h1,h2,h3⟩|⟨h0,h1,h2,h3⟩
 all_goals rw [h0] at hso
 all_goals repeat refine aw ?_
 all_goals exact ay j trivial (by exact Uw.wM)
theorem JP (ns:List Nd) (x:Nd) (h:0<x.of.length):(ct ns x).headD 0=cQ (cU ns x.of[0])/\x.of.headD 0=x.of[0]:=by
 obtain ⟨k,n,s,t,o⟩:=x
 cases o with
 | nil=>simp at h
 | cons a l=>exact ⟨rfl,rfl⟩
theorem MN (ns:List Nd) (x:Nd):(ct ns x).length=x.of.length:=by simp [ct]
theorem Bq (p:Pg) (hf:aY p=true) (hp:Lim p) (i:Nat) (hi:i<p.nodes.length):Ret P0 rG [pgD p,I i] (.bool true):=by
 have hN:=hp.nodes;have hnl:(p.nodes.map ndL).length=p.nodes.length:=by simp
 have he:(p.nodes.map ndL)[(i:Int).toNat]? = some (ndL p.nodes[i]):=by simp [hi]
 obtain ⟨hlow,hsh⟩:=jm hf i hi;have hxo:=hp.of p.nodes[i] (YT hi);generalize p.nodes[i]=x at *;obtain ⟨IK,hsum,hall⟩:=JO hsh;have hsl:=MN p.nodes x;have hsg:∀(j:Nat) (h:j<x.of.length),(ct p.nodes x)[j]'(by rw [hsl];exact h)=cQ (cU p.nodes x.of[j]):=fun j h=>by simp [ct]
 have hhd:=JP p.nodes x;generalize ct p.nodes x=so at *;obtain ⟨xk,xn,xs,xt,xo⟩:=x;have he:(p.nodes.map ndL)[(i:Int).toNat]? = some [I xk,I xn,.str xs,.str xt,.slice 1 (xo.map fun i=>[I i]) false]:=he;simp only at hlow hxo IK hsl hsg hhd;have hol:(xo.map fun i=>[I i]).length=xo.length:=by simp
 obtain ⟨E1,hE1⟩:∃E:Nat->Nat,∀j,E j=(so.take j).count 1:=⟨_,fun _=>rfl⟩
 obtain ⟨E2,hE2⟩:∃E:Nat->Nat,∀j,E j=(so.take j).count 2:=⟨_,fun _=>rfl⟩
 obtain ⟨E3,hE3⟩:∃E:Nat->Nat,∀j,E j=(so.take j).count 3:=⟨_,fun _=>rfl⟩
 have z1:E1 0=0:=by rw [hE1];rfl
 have z2:E2 0=0:=by rw [hE2];rfl
 have z3:E3 0=0:=by rw [hE3];rfl
 have n1:E1 xo.length=so.count 1:=by rw [hE1,<- hsl,YW]
 have n2:E2 xo.length=so.count 2:=by rw [hE2,<- hsl,YW]
 have n3:E3 xo.length=so.count 3:=by rw [hE3,<- hsl,YW]
 have hb:∀j,E1 j<=100000/\E2 j<=100000/\E3 j<=100000:=fun j=>by
  have a1:(so.take j).count 1<=(so.take j).length:=Z2;have a2:(so.take j).count 2<=(so.take j).length:=Z2;have a3:(so.take j).count 3<=(so.take j).length:=Z2;rw [Y8] at a1 a2 a3;rw [hE1,hE2,hE3];omega
 have hE:∀(j:Nat) (h:j<xo.length),(cQ (cU p.nodes xo[j])=1/\E1 (j+1)=E1 j+1/\E2 (j+1)=E2 j/\E3 (j+1)=E3 j)\/(cQ (cU p.nodes xo[j])=2/\E1 (j+1)=E1 j/\E2 (j+1)=E2 j+1/\E3 (j+1)=E3 j)\/(cQ (cU p.nodes xo[j])=3/\E1 (j+1)=E1 j/\E2 (j+1)=E2 j/\E3 (j+1)=E3 j+1):=fun j h=>by
  have hjl:j<so.length:=by rw [hsl];exact h
  rw [<- hsg j h];have h1:=m5 so 1 j hjl;have h2:=m5 so 2 j hjl;have h3:=m5 so 3 j hjl;rw [hE1,hE1,hE2,hE2,hE3,hE3,h1,h2,h3]
  rcases hall so[j] (YT hjl) with e|e|e
  ·rw [e];exact .inl ⟨rfl,rfl,rfl,rfl⟩
  ·rw [e];exact .inr (.inl ⟨rfl,rfl,rfl,rfl⟩)
  ·rw [e];exact .inr (.inr ⟨rfl,rfl,rfl,rfl⟩)
 clear hE1 hE2 hE3 hsg hall hsh;have uH:=fun j hj hpre {QQ}=>Gv p hN i hi xk xn xs xt xo hlow hxo E1 E2 E3 hE hb j hj hpre (QQ:=QQ);have c1:(E1 xo.length:Int)+(E2 xo.length:Nat)+(E3 xo.length:Nat)=((xo.map fun i=>[I i]).length:Nat):=by omega
 have c2:E1 xo.length<=100000/\E2 xo.length<=100000/\E3 xo.length<=100000:=hb _;obtain ⟨c3,c4,c5⟩:=c2;clear hE hb;by_cases hx:xo.length=0
 ·have hx' : ¬(0:Int)<((xo.map fun i=>[I i]).length:Nat):=by omega
  have hkind:(xk=1/\0<=xn/\xn<4294967296)\/xk=2\/xk=12\/((xk=8\/xk=10)/\E1 xo.length=xo.length)\/(xk=18/\E2 xo.length=xo.length):=by
   cases IK with
   | num h h1 h2 h3=>exact .inl ⟨h,h2,h3⟩
   | none h h1=>omega
   | two h h1 h2=>omega
   | many h h1=>omega
   | one h h1 h2=>omega
   | act h h1 h2=>omega
   | cond h h0 h1 h2 h3 h4=>omega
   | loop h h0 h1 h2 h3 h4=>omega
   | blk h h1=>omega
  clear IK hhd
  rcases hkind with ⟨rfl,h2,h3⟩|rfl|rfl|⟨rfl|rfl,h2⟩|⟨rfl,h2⟩
  all_goals refine aF qy rfl ?_
  all_goals repeat refine aw ?_
  all_goals refine bn xo.length (fmS p i (ndB _ xn xs xt xo) E1 E2 E3) (fun _=>True) (by exact Uw.wM) (fun _=>?_) (fun j hj hpre=>uH j hj hpre)
  all_goals refine aw ?_
  all_goals refine aA ?_
  all_goals repeat refine aw ?_
  all_goals first|exact al rfl rfl rfl rfl rfl|exact al rfl rfl rfl rfl (congrArg Dat.bool (decide_eq_true (by omega)))
 ·have hx' : (0:Int)<((xo.map fun i=>[I i]).length:Nat):=by omega
  have hx2:0<xo.length:=by omega
  obtain ⟨hh1,hh2⟩:=hhd hx2;rw [hh2] at IK;have he0:(xo.map fun i=>[I i])[Int.toNat 0]? = some [I xo[0]]:=by
   show (xo.map fun i=>[I i])[0]? = _;simp [hx2]
  have hlo:=hlow xo[0] (YT hx2);clear hhd hh2 hlow;generalize xo[0]=y at *;obtain ⟨hl1,hl2⟩:=hlo;have hyl:y.toNat<p.nodes.length:=by omega
  have hen:(p.nodes.map ndL)[y.toNat]? = some (ndL p.nodes[y.toNat]):=by simp [hyl]
  have hk:cU p.nodes y=p.nodes[y.toNat].kind:=by rw [cU,List.getD,YQ hyl];rfl
  rw [hk] at hh1 IK;clear hk;generalize p.nodes[y.toNat]=n at *;obtain ⟨yk,yn,ys,yt,yo⟩:=n;have hen:(p.nodes.map ndL)[y.toNat]? = some [I yk,I yn,.str ys,.str yt,cb yo]:=hen;have hso:=wa yk;simp only at hh1 IK;rw [<- hh1] at hso;have hkind:((xk=3\/xk=4\/xk=5\/xk=6\/xk=7\/xk=11)/\E1 xo.length=2/\xo.length=2)\/((xk=8\/xk=10)/\E1 xo.length=xo.length)\/((xk=9\/xk=15\/xk=16)/\E1 xo.length=1/\xo.length=1)\/(xk=17/\xo.length=1/\yk=8)\/(xk=13/\so.headD 0=1/\E1 xo.length=1/\E2 xo.length=0/\(E3 xo.length=1\/E3 xo.length=2))\/(xk=14/\so.headD 0=1/\E1 xo.length=1/\E2 xo.length=0/\E3 xo.length=1)\/(xk=18/\E2 xo.length=xo.length):=by
   cases IK with
   | num h h1 h2 h3=>omega
   | none h h1=>omega
   | two h h1 h2=>exact .inl ⟨h,by omega,by omega⟩
   | many h h1=>exact .inr (.inl ⟨h,by omega⟩)
   | one h h1 h2=>exact .inr (.inr (.inl ⟨h,by omega,by omega⟩))
   | act h h1 h2=>exact .inr (.inr (.inr (.inl ⟨h,by omega,h2⟩)))
   | cond h h0 h1 h2 h3 h4=>exact .inr (.inr (.inr (.inr (.inl ⟨h,h1,by omega,by omega,by omega⟩))))
   | loop h h0 h1 h2 h3 h4=>exact .inr (.inr (.inr (.inr (.inr (.inl ⟨h,h1,by omega,by omega,by omega⟩)))))
   | blk h h1=>exact .inr (.inr (.inr (.inr (.inr (.inr ⟨h,by omega⟩)))))
  clear IK hh1;generalize so.headD 0=hd at *;clear hsum n1 n2 n3 hsl
  rcases hkind with ⟨rfl|rfl|rfl|rfl|rfl|rfl,h2,h3⟩|⟨rfl|rfl,h2⟩|⟨rfl|rfl|rfl,h2,h3⟩|⟨rfl,h3,rfl⟩|⟨rfl,rfl,h2,h3,h4|h4⟩|⟨rfl,rfl,h2,h3,h4⟩|⟨rfl,h2⟩
  all_goals refine aF qy rfl ?_
  all_goals repeat refine aw ?_
  all_goals refine bn xo.length (fmS p i (ndB _ xn xs xt xo) E1 E2 E3) (fun _=>True) (by exact Uw.wM) (fun _=>?_) (fun j hj hpre=>uH j hj hpre)
  all_goals refine aw ?_
  all_goals refine aA ?_
  all_goals repeat refine aw ?_
  all_goals first|exact al rfl rfl rfl rfl rfl|exact al rfl rfl rfl rfl (congrArg Dat.bool (decide_eq_true (by omega)))
theorem sd (p:Pg) (hf:aY p=true) (hp:Lim p):Ret P0 rn [pgD p] (.bool true):=by
 have hN:=hp.nodes;have hF:=hp.ae;have hnl:(p.nodes.map ndL).length=p.nodes.length:=by simp
 have hfl:(p.ae.map fuL).length=p.ae.length:=by simp
 have lZ:∀(j:Nat) (h:j<p.nodes.length),(p.nodes.map ndL)[(j:Int).toNat]? = some (ndL p.nodes[j]):=fun j h=>by simp [h]
 have qP:∀(j:Nat) (h:j<p.ae.length),(p.ae.map fuL)[(j:Int).toNat]? = some (fuL p.ae[j]):=fun j h=>by simp [h]
 refine aF yq rfl ?_
 repeat refine aw ?_
 refine bn p.nodes.length (fun j:Nat=>⟨[(3,.d (I j)),(1,.ptr 0 0)],[(0,pgV p)],1,[],0⟩) (fun _=>True) (by exact Uw.wM) (fun _=>?_) (fun j hj _=>?_);rotate_left 1
 ·have h1:=Bq p hf hp j hj
  have h2:=Gu p (j:Int) hp;rw [lV hf j hj] at h2
  repeat refine aw ?_
  exact ay j trivial (by exact Uw.wM)
 refine aw ?_;refine aA ?_
 repeat refine aw ?_
 refine bn p.ae.length (fun j:Nat=>⟨[(5,.d (I j)),(1,.ptr 0 0)],[(0,pgV p)],1,[],0⟩) (fun _=>True) (by exact Uw.wM) (fun _=>?_) (fun j hj _=>?_)
 ·refine aw ?_
  refine aA ?_;exact al rfl rfl rfl rfl rfl
 have he:=qP j hj;obtain ⟨hb1,hb2,hb3⟩:=nK hf j hj;clear lZ qP;generalize p.ae[j]=f at *;obtain ⟨fn,fa,fb⟩:=f;have he:(p.ae.map fuL)[(j:Int).toNat]? = some [.str fn,ei fa,I fb]:=he;simp only at hb1 hb2 hb3;have hyl:fb.toNat<p.nodes.length:=by omega
 have hen:(p.nodes.map ndL)[fb.toNat]? = some (ndL p.nodes[fb.toNat]):=by simp [hyl]
 have hk:cU p.nodes fb=p.nodes[fb.toNat].kind:=by rw [cU,List.getD,YQ hyl];rfl
 rw [hk] at hb3;clear hk;generalize p.nodes[fb.toNat]=n at *;obtain ⟨yk,yn,ys,yt,yo⟩:=n;simp only at hb3;subst hb3;have hen:(p.nodes.map ndL)[fb.toNat]? = some [I 18,I yn,.str ys,.str yt,cb yo]:=hen
 repeat refine aw ?_
 exact ay j trivial (by exact Uw.wM)
end Uw.Tryz
namespace Uw.Tryz
open Go Uw
theorem MO {α:Type} {P:Program} {Q:aG->St->Prop} {S:α->St} {inv:α->Prop} {mu:α->Nat} {x:α} {kk:aG->St->Tree} (hkk:∀s,kk .ret s=Tree.done .ret s) {s:St} (h:WT P Q (.done .ret s)):WT P (gJ S inv mu x fun e s=>WT P Q (kk e s)) (.done .ret s):=
 aN (by show WT P Q (kk .ret s);rw [hkk];exact h)
def upTo (p:Pg) (k:Int):Nat->Int
 | 0=>-1
 | j+1=>if k∈(p.nodes.getD j default).of then (j:Int) else upTo p k j
theorem D5 (p:Pg) (k:Int):∀n,(upTo p k n = -1/\∀j,j<n->k∉(p.nodes.getD j default).of)\/∃j,j<n/\upTo p k n=(j:Int)/\k∈(p.nodes.getD j default).of
 | 0=>.inl ⟨rfl,fun j h=>absurd h (Z9 j)⟩
 | n+1=>by
  rw [upTo];by_cases h:k∈(p.nodes.getD n default).of
  ·rw [if_pos h];exact .inr ⟨n,by omega,rfl,h⟩
  ·rw [if_neg h]
   rcases D5 p k n with ⟨h1,h2⟩|⟨j,h1,h2,h3⟩
   ·refine .inl ⟨h1,fun j hj=>?_⟩
    by_cases hjn:j=n
    ·subst hjn;exact h
    ·exact h2 j (by omega)
   ·exact .inr ⟨j,by omega,h2,h3⟩
abbrev whS (p:Pg) (x:Nat×Nat):St:=⟨[(5,.d (I (x.1:Nat))),(1,.d (I (x.2:Nat))),(2,.ptr 0 0)],[(0,pgV p)],1,[],0⟩
abbrev CG (p:Pg) (n k:Nat) (U:Nat->Int) (j:Nat):St:=⟨[(8,.d (I j)),(7,.d (I (U j))),(5,.d (I n)),(1,.d (I k)),(2,.ptr 0 0)],[(0,pgV p)],1,[],0⟩
abbrev VG (p:Pg) (n k j:Nat) (W:Nat->Int) (m:Nat):St:=⟨[(9,.d (I m)),(8,.d (I j)),(7,.d (I (W m))),(5,.d (I n)),(1,.d (I k)),(2,.ptr 0 0)],[(0,pgV p)],1,[],0⟩
def whB:bN:=qL (qL (qR (qL (qR nZ.code))))
def whX:bN:=qL (qL (qR whB))
def WY:bN:=qL (qL (qR (qL (qR (qR whX)))))
def X7:bN:=qL (qL (qR (qL (qL (qR WY)))))
theorem MP (p:Pg) (hN:p.nodes.length<100000) (n k j:Nat) (hj:j<p.nodes.length) (xk xn:Int) (xs xt:Str) (xo:List Int) (hxo:xo.length<100000) (he:(p.nodes.map ndL)[(j:Int).toNat]? = some [I xk,I xn,.str xs,.str xt,.slice 1 (xo.map fun i=>[I i]) false])
  (W:Nat->Int) (hWs:∀(m:Nat) (h:m<xo.length),W (m+1)=if xo[m]=(k:Int) then (j:Int) else W m) (m:Nat) (hm:m<xo.length) (hpre:∀i,i<m->True) {QQ:aG->St->Prop}:WT P0 (gJ (VG p n k j W) (sK xo.length fun _=>True) (forM xo.length) m QQ) (exec X7 (VG p n k j W m) Tree.done):=by
 have hnl:(p.nodes.map ndL).length=p.nodes.length:=by simp
 have hol:(xo.map fun i=>[I i]).length=xo.length:=by simp
 have heo:(xo.map fun i=>[I i])[(m:Int).toNat]? = some [I xo[m]]:=by simp [hm]
 have hWs:=hWs m hm;generalize xo[m]=y at *;by_cases q:y=(k:Int)
 ·rw [if_pos q] at hWs
  repeat refine aw ?_
  exact ay m trivial (by exact Uw.wM)
 ·rw [if_neg q] at hWs
  repeat refine aw ?_
  exact ay m trivial (by exact Uw.wM)
theorem MQ (p:Pg) (hp:Lim p) (n k:Nat) (j:Nat) (hj:j<p.nodes.length) (hpre:∀i,i<j->True) {QQ:aG->St->Prop}:WT P0 (gJ (CG p n k (upTo p k)) (sK p.nodes.length fun _=>True) (forM p.nodes.length) j QQ) (exec WY (CG p n k (upTo p k) j) Tree.done):=by
 have hN:=hp.nodes;have hnl:(p.nodes.map ndL).length=p.nodes.length:=by simp
 have he:(p.nodes.map ndL)[(j:Int).toNat]? = some (ndL p.nodes[j]):=by simp [hj]
 have hxo:=hp.of p.nodes[j] (YT hj);have hU:upTo p k (j+1)=if (k:Int)∈p.nodes[j].of then (j:Int) else upTo p k j:=by
  rw [upTo,show p.nodes.getD j default=p.nodes[j] by simp [List.getD,hj]]
 generalize p.nodes[j]=x at *;obtain ⟨xk,xn,xs,xt,xo⟩:=x;have he:(p.nodes.map ndL)[(j:Int).toNat]? = some [I xk,I xn,.str xs,.str xt,.slice 1 (xo.map fun i=>[I i]) false]:=he;have hol:(xo.map fun i=>[I i]).length=xo.length:=by simp
 simp only at hxo hU;obtain ⟨W,hW⟩:∃W:Nat->Int,∀m,W m=if (k:Int)∈xo.take m then (j:Int) else upTo p k j:=⟨_,fun _=>rfl⟩
 have hW0:W 0=upTo p k j:=by rw [hW];simp
 have hWn:W xo.length=upTo p k (j+1):=by rw [hW,YW,hU]
 have hWs:∀(m:Nat) (h:m<xo.length),W (m+1)=if xo[m]=(k:Int) then (j:Int) else W m:=fun m h=>by
  rw [hW,hW,YM h];by_cases e:xo[m]=(k:Int)
  ·rw [if_pos (by simp [e]),if_pos e]
  ·rw [if_neg e]
   have:((k:Int)∈xo.take m++[xo[m]])<->(k:Int)∈xo.take m:=by
    rw [Y7];exact ⟨fun h=>h.resolve_right fun h2=>e (List.mem_singleton.1 h2).symm,.inl⟩
   simp only [this]
 clear hW hU;generalize hU1:upTo p k (j+1)=u1 at *;generalize hU0:upTo p k j=u0 at *;have hS0:CG p n k (upTo p k) j=⟨[(8,.d (I j)),(7,.d (I u0)),(5,.d (I n)),(1,.d (I k)),(2,.ptr 0 0)],[(0,pgV p)],1,[],0⟩:=by rw [CG,hU0]
 have hS1:CG p n k (upTo p k) (j+1)=⟨[(8,.d (I ((j+1:Nat):Int))),(7,.d (I u1)),(5,.d (I n)),(1,.d (I k)),(2,.ptr 0 0)],[(0,pgV p)],1,[],0⟩:=by rw [CG,hU1]
 rw [hS0]
 repeat refine aw ?_
 refine bn xo.length (VG p n k j W) (fun _=>True) (by exact Uw.wM) (fun _=>?_) (fun m hm hpre=>MP p hN n k j hj xk xn xs xt xo hxo he W hWs m hm hpre);refine aw ?_;refine aw ?_;refine aw ?_;refine aA ?_
 repeat refine aw ?_
 refine ay j trivial (cH hS1 ?_);exact Uw.wM
theorem IL (p:Pg) (hu:Ups p (aD p)) (hp:Lim p) (R:Int) (n k:Nat) (hnk:n<=k) (hk:k<p.nodes.length) (ho:(aD p).getD k 0=R) {kk:aG->St->Tree} (hkk:∀s,kk .ret s=Tree.done .ret s) :
  WT P0 (gJ (whS p) (fun x=>x.1<=x.2/\x.2<p.nodes.length/\(aD p).getD x.2 0=R) (fun x=>p.nodes.length - x.1) (n,k) fun e s=>WT P0 (BG nZ.res (I R)) (kk e s)) (exec whB (whS p (n,k)) Tree.done):=by
 have hN:=hp.nodes;have hF:=hp.ae;have hnl:(p.nodes.map ndL).length=p.nodes.length:=by simp
 have hfl:(p.ae.map fuL).length=p.ae.length:=by simp
 have qP:∀(j:Nat) (h:j<p.ae.length),(p.ae.map fuL)[(j:Int).toNat]? = some (fuL p.ae[j]):=fun j h=>by simp [h]
 have hbody:∀(i:Nat) (h:i<p.ae.length),p.ae[i].body=(k:Int)->R=(i:Int):=fun i h e=>by
  rw [<- ho];exact hu.body i h k hk e
 repeat refine aw ?_
 refine bn p.ae.length (fun j:Nat=>⟨[(6,.d (I j)),(5,.d (I n)),(1,.d (I k)),(2,.ptr 0 0)],[(0,pgV p)],1,[],0⟩) (fun j=>∀h:j<p.ae.length,p.ae[j].body≠(k:Int)) (by exact Uw.wM) (fun g=>?_) (fun j hj _=>?_);rotate_left 1
 ·have he:=qP j hj
  have hbody:=hbody j hj;have hG:p.ae[j].body≠(k:Int)->(fun j=>∀h:j<p.ae.length,p.ae[j].body≠(k:Int)) j:=fun h _=>h;clear qP;generalize p.ae[j]=f at *;obtain ⟨fn,fa,fb⟩:=f;have he:(p.ae.map fuL)[(j:Int).toNat]? = some [.str fn,ei fa,I fb]:=he;simp only at hbody hG;by_cases q:fb=(k:Int)
  ·rw [hbody q]
   repeat refine aw ?_
   refine aN (MO hkk ?_);exact al rfl rfl rfl rfl rfl
  ·have hG1:=hG q
   repeat refine aw ?_
   exact ay j hG1 (by exact Uw.wM)
 have hex:∃i:Nat,i<p.nodes.length/\upTo p k p.nodes.length=(i:Int)/\k<i/\(aD p).getD i 0=R:=by
  rcases D5 p k p.nodes.length with ⟨_,h2⟩|⟨i,h1,h2,h3⟩
  ·refine absurd (hu.up k hk (fun i hi=>g i hi hi) fun i hi hm=>h2 i hi ?_) id
   rw [show p.nodes.getD i default=p.nodes[i] by simp [List.getD,hi]];exact hm
  ·rw [show p.nodes.getD i default=p.nodes[i] by simp [List.getD,h1]] at h3
   obtain ⟨e1,e2⟩:=hu.kid i h1 k h3;exact ⟨i,h1,h2,e2,by rw [<- e1];exact ho⟩
 obtain ⟨i,hi1,hi2,hi3,hi4⟩:=hex;have hS0:CG p n k (upTo p k) 0=⟨[(8,.d (I ((0:Nat):Int))),(7,.d (I (-1))),(5,.d (I n)),(1,.d (I k)),(2,.ptr 0 0)],[(0,pgV p)],1,[],0⟩:=rfl;have hSn:CG p n k (upTo p k) p.nodes.length=⟨[(8,.d (I (p.nodes.length:Nat))),(7,.d (I (i:Nat))),(5,.d (I n)),(1,.d (I k)),(2,.ptr 0 0)],[(0,pgV p)],1,[],0⟩:=by rw [CG,hi2]
 clear qP hbody g hi2;refine aw ?_;refine aA ?_
 repeat refine aw ?_
 refine bn p.nodes.length (CG p n k (upTo p k)) (fun _=>True) (cH hS0 ?_) (fun _=>?_) (fun j hj hpre=>MQ p hp n k j hj hpre)
 ·exact Uw.wM
 rw [hSn];refine aw ?_;refine aA ?_
 repeat refine aw ?_
 exact cJ (n+1,i) ⟨by show n+1<=i;omega,hi1,hi4⟩ (by show p.nodes.length - (n+1)<p.nodes.length - n;omega) (by exact Uw.wM)
theorem ox (p:Pg) (hf:aY p=true) (hp:Lim p) (k:Nat) (hk:k<p.nodes.length):Ret P0 tH [pgD p,I k] (I ((aD p).getD k 0)):=by
 have hu:=Am hf;obtain ⟨R,hR⟩:∃R,(aD p).getD k 0=R:=⟨_,rfl⟩
 rw [hR];refine aF zZ rfl ?_
 repeat refine aw ?_
 refine dO (whS p) (fun x=>x.1<=x.2/\x.2<p.nodes.length/\(aD p).getD x.2 0=R) (fun x=>p.nodes.length - x.1) (0,k) (by exact Uw.wM) ⟨ZP _,hk,hR⟩ ?_;rintro ⟨n,k'⟩ ⟨h1,h2,h3⟩;exact IL p hu hp R n k' h1 h2 h3 (fun s=>rfl)
end Uw.Tryz
namespace Uw.Tryz
open Go Uw
theorem IP (p:Pg) (f:Int):∀(r:List (Nd×Int)) (l:List Str),(oe p f r l).length<=l.length+r.length
 | [],l=>by rw [oe];simp
 | (x,o)::r,l=>by
  rw [oe];refine Zp (IP p f r _) ?_
  split
  ·simp;omega
  ·simp
theorem D6 (p:Pg) (f:Int) (x:Nd) (o:Int):∀(r:List (Nd×Int)) (l:List Str),oe p f (r++[(x,o)]) l=if dA p x=true/\o=f/\x.name∉oe p f r l then oe p f r l++[x.name] else oe p f r l
 | [],l=>by rw [Z4,oe,oe,oe]
 | (y,q)::r,l=>by rw [Za,oe,D6 p f x o r,oe]
abbrev lcZ (p:Pg) (f j:Nat):St:=⟨[(7,.d (I j)),(6,.d (.slice 1 [] true)),(1,.d (I f)),(2,.ptr 0 0)],[(0,pgV p)],1,[],0⟩
abbrev lcR (p:Pg) (f:Nat) (l:List Str) (j:Nat):St:=⟨[(7,.d (I j)),(6,.ref 1 0 0 l.length),(1,.d (I f)),(2,.ptr 0 0)],[(1,.arr 1 (rowT l)),(0,pgV p)],2,[],0⟩
def lcS (p:Pg) (f:Nat) (L:Nat->List Str) (j:Nat):St:=if L j=[] then lcZ p f j else lcR p f (L j) j
def lcB:bN:=qL (qL (qR (qL (qR (qR (qR (qR rJ.code)))))))
theorem yg (p:Pg) (x:Nd) (o f:Int) (l:List Str) :
  ((if dA p x=true/\o=f/\x.name∉l then l++[x.name] else l)=l/\(x.kind≠9/\x.kind≠10/\x.kind≠11\/(x.kind=9\/x.kind=10\/x.kind=11)/\(x.name=[]\/x.name≠[]/\(o≠f\/o=f/\((aE p x.name).isSome=true\/(aE p x.name).isSome=false/\x.name∈l)))))\/
  ((if dA p x=true/\o=f/\x.name∉l then l++[x.name] else l)=l++[x.name]/\(x.kind=9\/x.kind=10\/x.kind=11)/\x.name≠[]/\o=f/\(aE p x.name).isSome=false/\x.name∉l):=by
 by_cases hk:x.kind=9\/x.kind=10\/x.kind=11
 ·by_cases hn:x.name=[]
  ·refine .inl ⟨if_neg fun h=>?_,.inr ⟨hk,.inl hn⟩⟩
   have:=h.1;simp [dA,hn] at this
  by_cases ho:o=f
  ·cases ht:(aE p x.name).isSome with
   | true=>
    refine .inl ⟨if_neg fun h=>?_,.inr ⟨hk,.inr ⟨hn,.inr ⟨ho,.inl rfl⟩⟩⟩⟩;have:=h.1;rw [dA] at this
    cases h2:aE p x.name with
    | none=>rw [h2] at ht;cases ht
    | some k=>rw [h2] at this;simp at this
   | false=>
    have hl:dA p x=true:=by
     rw [dA]
     cases h2:aE p x.name with
     | some k=>rw [h2] at ht;cases ht
     | none=>simp [hn];omega
    by_cases hm:x.name∈l
    ·exact .inl ⟨if_neg fun h=>h.2.2 hm,.inr ⟨hk,.inr ⟨hn,.inr ⟨ho,.inr ⟨rfl,hm⟩⟩⟩⟩⟩
    ·exact .inr ⟨if_pos ⟨hl,ho,hm⟩,hk,hn,ho,rfl,hm⟩
  ·exact .inl ⟨if_neg fun h=>ho h.2.1,.inr ⟨hk,.inr ⟨hn,.inl ho⟩⟩⟩
 ·refine .inl ⟨if_neg fun h=>?_,.inl (by omega)⟩
  have:=h.1;simp only [dA,YL,Zj,decide_eq_true_eq] at this;omega
theorem MR (p:Pg) (hf:aY p=true) (hp:Lim p) (f j:Nat) (hj:j<p.nodes.length) (L:Nat->List Str) (h0:L j=[]) (hs:L (j+1)=if dA p p.nodes[j]=true/\(aD p).getD j 0=(f:Int)/\p.nodes[j].name∉L j then L j++[p.nodes[j].name] else L j)
  (hpre:∀i,i<j->True) {QQ:aG->St->Prop}:WT P0 (gJ (lcS p f L) (sK p.nodes.length fun _=>True) (forM p.nodes.length) j QQ) (exec lcB (lcS p f L j) Tree.done):=by
 have hN:=hp.nodes;have hnl:(p.nodes.map ndL).length=p.nodes.length:=by simp
 have he:(p.nodes.map ndL)[(j:Int).toNat]? = some (ndL p.nodes[j]):=by simp [hj]
 have hw:=ox p hf hp j hj;have hth:=gi p p.nodes[j].name (by have:=hp.decls;omega);have hin:Ret P0 mN [.slice 1 [] true,.str p.nodes[j].name] (.bool false):=by
  have:=qg [] p.nodes[j].name (by simp);rw [decide_eq_false (by simp)] at this;exact this.args (.cons (.slice (.refl _)) (.refl _))
 have hS0:lcS p f L j=lcZ p f j:=by rw [lcS,if_pos h0]
 rw [h0] at hs;have hcs:=yg p p.nodes[j] ((aD p).getD j 0) f [];generalize (aD p).getD j 0=o at *;rw [lw] at hth;generalize p.nodes[j]=x at *;obtain ⟨xk,xn,xs,xt,xo⟩:=x;have he:(p.nodes.map ndL)[(j:Int).toNat]? = some [I xk,I xn,.str xs,.str xt,cb xo]:=he;simp only at hs hcs hth hin;generalize (aE p xs).getD (-1)=tk at *;generalize (aE p xs).isSome=tb at *;rw [hS0]
 rcases hcs with ⟨h1,h2⟩|⟨h1,hk,hn,ho,ht,_⟩
 ·rw [h1] at hs
  have hS1:lcS p f L (j+1)=lcZ p f (j+1):=by rw [lcS,if_pos hs]
  clear h1 hs h0
  rcases h2 with ⟨k9,k10,k11⟩|⟨hk,hn|⟨hn,ho|⟨ho,ht|⟨_,hm⟩⟩⟩⟩
  ·repeat refine aw ?_
   refine ay j trivial (cH hS1 ?_);exact Uw.wM
  ·subst hn
   rcases hk with rfl|rfl|rfl
   all_goals repeat refine aw ?_
   all_goals refine ay j trivial (cH hS1 ?_)
   all_goals exact Uw.wM
  ·rcases hk with rfl|rfl|rfl
   all_goals repeat refine aw ?_
   all_goals refine ay j trivial (cH hS1 ?_)
   all_goals exact Uw.wM
  ·subst ho ht
   rcases hk with rfl|rfl|rfl
   all_goals repeat refine aw ?_
   all_goals refine ay j trivial (cH hS1 ?_)
   all_goals exact Uw.wM
  ·simp at hm
 ·rw [h1] at hs
  have hS1:lcS p f L (j+1)=lcR p f [xs] (j+1):=by
   have hs:L (j+1)=[xs]:=hs;rw [lcS,if_neg (by rw [hs];simp),hs]
  clear h1 hs h0;subst ho ht
  rcases hk with rfl|rfl|rfl
  all_goals repeat refine aw ?_
  all_goals refine ay j trivial (cH hS1 ?_)
  all_goals exact Weak.eqs [(1,2)] rfl rfl rfl rfl rfl rfl rfl rfl rfl rfl
theorem MU (p:Pg) (hf:aY p=true) (hp:Lim p) (f j:Nat) (hj:j<p.nodes.length) (L:Nat->List Str) (h0:L j≠[]) (hlen:(L j).length<1000000) (hs:L (j+1)=if dA p p.nodes[j]=true/\(aD p).getD j 0=(f:Int)/\p.nodes[j].name∉L j then L j++[p.nodes[j].name] else L j)
  (hpre:∀i,i<j->True) {QQ:aG->St->Prop}:WT P0 (gJ (lcS p f L) (sK p.nodes.length fun _=>True) (forM p.nodes.length) j QQ) (exec lcB (lcS p f L j) Tree.done):=by
 have hN:=hp.nodes;have hnl:(p.nodes.map ndL).length=p.nodes.length:=by simp
 have he:(p.nodes.map ndL)[(j:Int).toNat]? = some (ndL p.nodes[j]):=by simp [hj]
 have hw:=ox p hf hp j hj;have hth:=gi p p.nodes[j].name (by have:=hp.decls;omega);have hS0:lcS p f L j=lcR p f (L j) j:=by rw [lcS,if_neg h0]
 have hcs:=yg p p.nodes[j] ((aD p).getD j 0) f (L j);generalize (aD p).getD j 0=o at *;rw [hS0];clear hS0;generalize hLj:L j=l at *;have hin:Ret P0 mN [.slice 1 (((rowT l).drop 0).take l.length) false,.str p.nodes[j].name] (.bool (decide (p.nodes[j].name∈l))):=by
  have e:((rowT l).drop 0).take l.length=rowT l:=by rw [Zf,YU (by simp)]
  rw [e];exact qg l p.nodes[j].name (by omega)
 have hrl:(rowT l).length=l.length:=by simp
 rw [lw] at hth;generalize p.nodes[j]=x at *;obtain ⟨xk,xn,xs,xt,xo⟩:=x;have he:(p.nodes.map ndL)[(j:Int).toNat]? = some [I xk,I xn,.str xs,.str xt,cb xo]:=he;simp only at hs hcs hth hin;generalize (aE p xs).getD (-1)=tk at *;generalize (aE p xs).isSome=tb at *
 rcases hcs with ⟨h1,h2⟩|⟨h1,hk,hn,ho,ht,hm⟩
 ·rw [h1] at hs
  have hS1:lcS p f L (j+1)=lcR p f l (j+1):=by rw [lcS,hs,if_neg h0]
  clear h1 hs h0 hLj
  rcases h2 with ⟨k9,k10,k11⟩|⟨hk,hn|⟨hn,ho|⟨ho,ht|⟨ht,hm⟩⟩⟩⟩
  ·repeat refine aw ?_
   refine ay j trivial (cH hS1 ?_);exact Uw.wM
  ·subst hn
   rcases hk with rfl|rfl|rfl
   all_goals repeat refine aw ?_
   all_goals refine ay j trivial (cH hS1 ?_)
   all_goals exact Uw.wM
  ·rcases hk with rfl|rfl|rfl
   all_goals repeat refine aw ?_
   all_goals refine ay j trivial (cH hS1 ?_)
   all_goals exact Uw.wM
  ·subst ho ht
   generalize decide (xs∈l)=b at *
   rcases hk with rfl|rfl|rfl
   all_goals repeat refine aw ?_
   all_goals refine ay j trivial (cH hS1 ?_)
   all_goals exact Uw.wM
  ·subst ho ht
   rw [decide_eq_true hm] at hin
   rcases hk with rfl|rfl|rfl
   all_goals repeat refine aw ?_
   all_goals refine ay j trivial (cH hS1 ?_)
   all_goals exact Uw.wM
 ·rw [h1] at hs
  rw [decide_eq_false hm] at hin;obtain ⟨l',hl'⟩:∃l',l' = l++[xs]:=⟨_,rfl⟩
  have hS1:lcS p f L (j+1)=lcR p f l' (j+1):=by rw [lcS,hs,<- hl',if_neg (by rw [hl'];simp)]
  have hrow:rowT l++[[Dat.str xs]]=rowT l':=by rw [hl'];simp [rowT]
  have hlen2:l.length+1=l'.length:=by rw [hl'];simp
  clear h1 hs h0 hLj hl';subst ho ht
  rcases hk with rfl|rfl|rfl
  all_goals repeat refine aw ?_
  all_goals refine ay j trivial (cH hS1 ?_)
  all_goals exact Uw.wM
theorem Qa (p:Pg) (hp:Lim p) (f:Nat) (hfl:f<p.ae.length):∃L:Nat->List Str,L 0=p.ae[f].args/\L p.nodes.length=oe p f (p.nodes.zip (aD p)) p.ae[f].args/\(∀j,(L j).length<1000000)/\
  ∀(j:Nat) (h:j<p.nodes.length),L (j+1)=if dA p p.nodes[j]=true/\(aD p).getD j 0=(f:Int)/\p.nodes[j].name∉L j then L j++[p.nodes[j].name] else L j:=by
 have hzl:(p.nodes.zip (aD p)).length=p.nodes.length:=by rw [aav,dT];omega
 refine ⟨fun j=>oe p f ((p.nodes.zip (aD p)).take j) p.ae[f].args,rfl,?_,fun j=>?_,fun j h=>?_⟩
 ·show oe p f ((p.nodes.zip (aD p)).take p.nodes.length) _=_
  rw [YU (by omega)]
 ·have h1:=IP p f ((p.nodes.zip (aD p)).take j) p.ae[f].args
  rw [Y8,hzl] at h1;have h2:=hp.args _ (YT hfl);have h3:=hp.nodes;show (oe p f ((p.nodes.zip (aD p)).take j) p.ae[f].args).length<_;omega
 ·have hz:j<(p.nodes.zip (aD p)).length:=by omega
  have hol:j<(aD p).length:=by rw [dT];exact h
  show oe p f ((p.nodes.zip (aD p)).take (j+1)) _=_;rw [YM hz,aaG,D6];have e:(aD p)[j]=(aD p).getD j 0:=by simp [List.getD,hol]
  rw [e]
theorem sg (p:Pg) (hf:aY p=true) (hp:Lim p) (f:Nat) (hfl:f<p.ae.length):Ret P0 rI [pgD p,I f] (ei ((aj p).getD f [])):=by
 have hN:=hp.nodes;have hF:=hp.ae;have hnl:(p.nodes.map ndL).length=p.nodes.length:=by simp
 have Rq:(p.ae.map fuL).length=p.ae.length:=by simp
 have hfm:=sd p hf hp;obtain ⟨L,hL0,hLn,hLl,hLs⟩:=Qa p hp f hfl;rw [HV hf f hfl,<- hLn];clear hLn;have he:(p.ae.map fuL)[(f:Int).toNat]? = some (fuL p.ae[f]):=by simp [hfl]
 have hal:=hp.args _ (YT hfl);generalize p.ae[f]=g at *;obtain ⟨gn,ga,gb⟩:=g;have he:(p.ae.map fuL)[(f:Int).toNat]? = some [.str gn,.slice 1 (rowT ga) false,I gb]:=he;simp only at hL0 hal;have hgl:(rowT ga).length=ga.length:=by simp
 have hby:decide ((rowT ga).length * 16<=70368744177664)=true:=by rw [decide_eq_true_eq];omega
 have uH:∀(j:Nat),j<p.nodes.length->(∀i,i<j->True)->∀{QQ:aG->St->Prop},WT P0 (gJ (lcS p f L) (sK p.nodes.length fun _=>True) (forM p.nodes.length) j QQ) (exec lcB (lcS p f L j) Tree.done):=fun j hj hpre {QQ}=>by
  by_cases h0:L j=[]
  ·exact MR p hf hp f j hj L h0 (hLs j hj) hpre
  ·exact MU p hf hp f j hj L h0 (hLl j) (hLs j hj) hpre
 clear hLs hLl;generalize hLn:L p.nodes.length=ln at *;have hdat:((rowT ln).drop 0).take ln.length=rowT ln:=by rw [Zf,YU (by simp)]
 by_cases hg:ga=[]
 ·subst hg
  have hS0:lcS p f L 0=lcZ p f 0:=by rw [lcS,if_pos hL0]
  by_cases hn:ln=[]
  ·have hSn:lcS p f L p.nodes.length=lcZ p f p.nodes.length:=by rw [lcS,hLn,if_pos hn]
   subst hn;refine Ret.res (r:=.slice 1 [] true) ?_ (.slice (.refl _));refine aF iW rfl ?_
   repeat refine aw ?_
   refine bn p.nodes.length (lcS p f L) (fun _=>True) (cH hS0 ?_) (fun _=>?_) (fun j hj hpre=>uH j hj hpre)
   ·exact Uw.wM
   rw [hSn];refine aw ?_;refine aA ?_;exact al rfl rfl rfl rfl rfl
  ·have hSn:lcS p f L p.nodes.length=lcR p f ln p.nodes.length:=by rw [lcS,hLn,if_neg hn]
   refine aF iW rfl ?_
   repeat refine aw ?_
   refine bn p.nodes.length (lcS p f L) (fun _=>True) (cH hS0 ?_) (fun _=>?_) (fun j hj hpre=>uH j hj hpre)
   ·exact Uw.wM
   rw [hSn];refine aw ?_;refine aA ?_;exact al rfl rfl rfl rfl (congrArg (fun r=>Dat.slice 1 r false) hdat)
 ·have hemp:(rowT ga).isEmpty=false:=by cases ga<;>first|rfl|exact absurd rfl hg
  have hS0:lcS p f L 0=lcR p f ga 0:=by rw [lcS,hL0,if_neg hg]
  by_cases hn:ln=[]
  ·have hSn:lcS p f L p.nodes.length=lcZ p f p.nodes.length:=by rw [lcS,hLn,if_pos hn]
   subst hn;refine Ret.res (r:=.slice 1 [] true) ?_ (.slice (.refl _));refine aF iW rfl ?_
   repeat refine aw ?_
   refine bn p.nodes.length (lcS p f L) (fun _=>True) (cH hS0 ?_) (fun _=>?_) (fun j hj hpre=>uH j hj hpre)
   ·exact Uw.wM
   rw [hSn];refine aw ?_;refine aA ?_;exact al rfl rfl rfl rfl rfl
  ·have hSn:lcS p f L p.nodes.length=lcR p f ln p.nodes.length:=by rw [lcS,hLn,if_neg hn]
   refine aF iW rfl ?_
   repeat refine aw ?_
   refine bn p.nodes.length (lcS p f L) (fun _=>True) (cH hS0 ?_) (fun _=>?_) (fun j hj hpre=>uH j hj hpre)
   ·exact Uw.wM
   rw [hSn];refine aw ?_;refine aA ?_;exact al rfl rfl rfl rfl (congrArg (fun r=>Dat.slice 1 r false) hdat)
end Uw.Tryz
namespace Uw.Tryz
open Go Uw
theorem IQ (p:Pg):∃B:Bool,
  ((∀(j:Nat) (h:j<p.nodes.length),¬(p.nodes[j].kind=10/\16<p.nodes[j].of.length))->(∀(j:Nat) (h:j<p.ae.length),¬16<((aj p).getD j []).length)->(!dw p)=B)/\
  ((¬p.ae.length<=16/\B=false)\/(p.ae.length<=16/\¬bX p.decls 0<=16/\B=false)\/(p.ae.length<=16/\bX p.decls 0<=16/\¬bX p.decls 1<=8/\B=false)\/(p.ae.length<=16/\bX p.decls 0<=16/\bX p.decls 1<=8/\¬bX p.decls 2<=8/\B=false)\/(p.ae.length<=16/\bX p.decls 0<=16/\bX p.decls 1<=8/\bX p.decls 2<=8/\¬bX p.decls 3<=8/\B=false)\/(p.ae.length<=16/\bX p.decls 0<=16/\bX p.decls 1<=8/\bX p.decls 2<=8/\bX p.decls 3<=8/\B=true)):=by
 refine ⟨decide (p.ae.length<=16)&&decide (bX p.decls 0<=16)&&decide (bX p.decls 1<=8)&&decide (bX p.decls 2<=8)&&decide (bX p.decls 3<=8),fun h1 h2=>?_,?_⟩
 ·have e1:((aj p).any fun l=>decide (16<l.length))=false:=Zl.2 fun l hl=>by
   obtain ⟨j,hj,rfl⟩:=Y0.1 hl;have:=h2 j (by rw [<- fP p];exact hj);rw [List.getD,YQ hj] at this;simpa using this
  have e2:(p.nodes.any fun x=>decide (x.kind=10)&&decide (16<x.of.length))=false:=Zl.2 fun x hx=>by
   obtain ⟨j,hj,rfl⟩:=Y0.1 hx;have:=h1 j hj;simpa using this
  rw [dw,e1,e2];show (!(decide (16<p.ae.length)||decide (16<bX p.decls 0)||decide (8<bX p.decls 1)||decide (8<bX p.decls 2)||decide (8<bX p.decls 3)||false||false))=_;rw [ZF];simp only [Bool.or_false,aaB,Zt,decide_eq_false_iff_not,YL,decide_eq_true_eq];omega
 ·by_cases c0:p.ae.length<=16
  ·by_cases c1:bX p.decls 0<=16
   ·by_cases c2:bX p.decls 1<=8
    ·by_cases c3:bX p.decls 2<=8
     ·by_cases c4:bX p.decls 3<=8
      ·exact .inr (.inr (.inr (.inr (.inr ⟨c0,c1,c2,c3,c4,by simp [c0,c1,c2,c3,c4]⟩))))
      ·exact .inr (.inr (.inr (.inr (.inl ⟨c0,c1,c2,c3,c4,by simp [c4]⟩))))
     ·exact .inr (.inr (.inr (.inl ⟨c0,c1,c2,c3,by simp [c3]⟩)))
    ·exact .inr (.inr (.inl ⟨c0,c1,c2,by simp [c2]⟩))
   ·exact .inr (.inl ⟨c0,c1,by simp [c1]⟩)
  ·exact .inl ⟨c0,by simp [c0]⟩
theorem Br (p:Pg) (hf:aY p=true) (hp:Lim p):Ret P0 rp [pgD p] (.bool (!dw p)):=by
 have hN:=hp.nodes;have hF:=hp.ae;have hnl:(p.nodes.map ndL).length=p.nodes.length:=by simp
 have hfl:(p.ae.map fuL).length=p.ae.length:=by simp
 have hd0:=kz p 0 (by have:=hp.decls;omega);have hd1:=kz p 1 (by have:=hp.decls;omega);have hd2:=kz p 2 (by have:=hp.decls;omega);have hd3:=kz p 3 (by have:=hp.decls;omega);obtain ⟨B,hB,hcs⟩:=IQ p;have nP:∀(j:Nat) (h:j<p.nodes.length),p.nodes[j].kind=10/\16<p.nodes[j].of.length->(!dw p)=false:=fun j h e=>by
  have:(p.nodes.any fun x=>decide (x.kind=10)&&decide (16<x.of.length))=true:=Zv.2 ⟨_,YT h,by simpa using e⟩;simp [dw,this]
 have gB:∀(j:Nat) (h:j<p.ae.length),16<((aj p).getD j []).length->(!dw p)=false:=fun j h e=>by
  have hjl:j<(aj p).length:=by rw [fP];exact h
  rw [List.getD,YQ hjl] at e;have:((aj p).any fun l=>decide (16<l.length))=true:=Zv.2 ⟨_,YT hjl,by simpa using e⟩;simp [dw,this]
 have lZ:∀(j:Nat) (h:j<p.nodes.length),(p.nodes.map ndL)[(j:Int).toNat]? = some (ndL p.nodes[j]):=fun j h=>by simp [h]
 have hlo:=fun (j:Nat) (h:j<p.ae.length)=>sg p hf hp j h;generalize (!dw p)=R at *;generalize bX p.decls 0=k0 at *;generalize bX p.decls 1=k1 at *;generalize bX p.decls 2=k2 at *;generalize bX p.decls 3=k3 at *
 rcases hcs with ⟨c0,rfl⟩|⟨c0,c1,rfl⟩|⟨c0,c1,c2,rfl⟩|⟨c0,c1,c2,c3,rfl⟩|⟨c0,c1,c2,c3,c4,rfl⟩|⟨c0,c1,c2,c3,c4,rfl⟩
 all_goals refine aF yr rfl ?_
 all_goals repeat refine aw ?_
 all_goals refine bn p.nodes.length (fun j:Nat=>⟨[(3,.d (I j)),(1,.ptr 0 0)],[(0,pgV p)],1,[],0⟩) (fun j=>∀h:j<p.nodes.length,¬(p.nodes[j].kind=10/\16<p.nodes[j].of.length)) (by exact Uw.wM) (fun g1=>?_) (fun j hj _=>?_)
 all_goals first
  | (have hB:=hB fun j h=>g1 j h h
     refine aw ?_;refine aA ?_
     repeat refine aw ?_
     refine bn p.ae.length (fun j:Nat=>⟨[(5,.d (I j)),(1,.ptr 0 0)],[(0,pgV p)],1,[],0⟩) (fun j=>∀h:j<p.ae.length,¬16<((aj p).getD j []).length) (by exact Uw.wM) (fun g2=>?_) (fun j hj _=>?_)
     ·rw [hB fun j h=>g2 j h h]
      refine aw ?_;refine aA ?_
      repeat refine aw ?_
      first
       | exact al rfl rfl rfl rfl rfl
       | exact al rfl rfl rfl rfl (congrArg Dat.bool (decide_eq_true (by omega)))
       | exact al rfl rfl rfl rfl (congrArg Dat.bool (decide_eq_false (by omega)))
     have hlo:=hlo j hj;have hone:=gB j hj;have hG:¬16<((aj p).getD j []).length->(fun j=>∀h:j<p.ae.length,¬16<((aj p).getD j []).length) j:=fun h _=>h;clear nP gB lZ hB;generalize (aj p).getD j []=l at *;have hll:(l.map fun s=>[Dat.str s]).length=l.length:=by simp
     by_cases q:16<l.length
     ·rw [hone q]
      repeat refine aw ?_
      exact aN (al rfl rfl rfl rfl rfl)
     ·have hG1:=hG q
      repeat refine aw ?_
      exact ay j hG1 (by exact Uw.wM))
  | (have he:=lZ j hj
     have hone:=nP j hj;have hG:¬(p.nodes[j].kind=10/\16<p.nodes[j].of.length)->(fun j=>∀h:j<p.nodes.length,¬(p.nodes[j].kind=10/\16<p.nodes[j].of.length)) j:=fun h _=>h;clear nP gB lZ hB hlo;generalize p.nodes[j]=x at *;obtain ⟨xk,xn,xs,xt,xo⟩:=x;have he:(p.nodes.map ndL)[(j:Int).toNat]? = some [I xk,I xn,.str xs,.str xt,.slice 1 (xo.map fun i=>[I i]) false]:=he;have hol:(xo.map fun i=>[I i]).length=xo.length:=by simp
     simp only at hone hG;by_cases k10:xk=10
     ·by_cases q:16<xo.length
      ·rw [hone ⟨k10,q⟩]
       repeat refine aw ?_
       exact aN (al rfl rfl rfl rfl rfl)
      ·have hG1:=hG fun h=>q h.2
       repeat refine aw ?_
       exact ay j hG1 (by exact Uw.wM)
     ·have hG1:=hG fun h=>k10 h.1
      repeat refine aw ?_
      exact ay j hG1 (by exact Uw.wM))
theorem JQ (p:Pg) (x:Nd):∃B:Bool,iN p x=B/\
  (((x.kind=2\/x.kind=9)/\((aE p x.name=none/\B=false)\/(aE p x.name=some 0/\B=false)\/∃k,k≠0/\aE p x.name=some k/\B=true))\/
    ((x.kind=10\/x.kind=11)/\((aE p x.name=none/\B=false)\/∃k,aE p x.name=some k/\B=true))\/
    (x.kind=8/\((∃c,cX ((aE p x.name).getD (-1)) x.name2=some c/\B=false)\/(cX ((aE p x.name).getD (-1)) x.name2=none/\B=true)))\/
    (x.kind≠2/\x.kind≠9/\x.kind≠10/\x.kind≠11/\x.kind≠8/\B=false)):=by
 refine ⟨iN p x,rfl,?_⟩;unfold iN;by_cases h1:x.kind=2\/x.kind=9
 ·rw [if_pos h1]
  refine .inl ⟨h1,?_⟩
  cases ht:aE p x.name with
  | none=>exact .inl ⟨rfl,rfl⟩
  | some k=>
   by_cases hk:k=0
   ·subst hk;exact .inr (.inl ⟨rfl,rfl⟩)
   ·exact .inr (.inr ⟨k,hk,rfl,by simp [hk]⟩)
 rw [if_neg h1];by_cases h2:x.kind=10\/x.kind=11
 ·rw [if_pos h2]
  refine .inr (.inl ⟨h2,?_⟩)
  cases ht:aE p x.name with
  | none=>exact .inl ⟨rfl,rfl⟩
  | some k=>exact .inr ⟨k,rfl,rfl⟩
 rw [if_neg h2];by_cases h3:x.kind=8
 ·rw [if_pos h3]
  refine .inr (.inr (.inl ⟨h3,?_⟩));have e:cX ((aE p x.name).getD 0) x.name2=cX ((aE p x.name).getD (-1)) x.name2:=by
   cases aE p x.name with
   | none=>rfl
   | some k=>rfl
  rw [e]
  cases cX ((aE p x.name).getD (-1)) x.name2 with
  | none=>exact .inr ⟨rfl,rfl⟩
  | some c=>exact .inl ⟨c,rfl,rfl⟩
 rw [if_neg h3];exact .inr (.inr (.inr ⟨by omega,by omega,by omega,by omega,h3,rfl⟩))
theorem JR {k:Int} {s:Str} {c:Int} (h:cX k s=some c):0<=c/\c<=2:=by
 unfold cX at h
 repeat' split at h
 all_goals first
  | (injection h with h;omega)
  | cases h
theorem CH (p:Pg) (hp:Lim p):Ret P0 tD [pgD p] (.bool (!gx p)):=by
 have hN:=hp.nodes;have hnl:(p.nodes.map ndL).length=p.nodes.length:=by simp
 have hall:(∀(j:Nat) (h:j<p.nodes.length),iN p p.nodes[j]=false)->(!gx p)=true:=fun h=>by
  rw [gx,Zl.2];rfl;intro x hx;obtain ⟨j,hj,rfl⟩:=Y0.1 hx;rw [h j hj];simp
 have hone:∀(j:Nat) (h:j<p.nodes.length),iN p p.nodes[j]=true->(!gx p)=false:=fun j h e=>by
  rw [gx,Zv.2 ⟨_,YT h,e⟩];rfl
 have lZ:∀(j:Nat) (h:j<p.nodes.length),(p.nodes.map ndL)[(j:Int).toNat]? = some (ndL p.nodes[j]):=fun j h=>by simp [h]
 generalize (!gx p)=R at *;refine aF zS rfl ?_
 repeat refine aw ?_
 refine bn p.nodes.length (fun j:Nat=>⟨[(3,.d (I j)),(1,.ptr 0 0)],[(0,pgV p)],1,[],0⟩) (fun j=>∀h:j<p.nodes.length,iN p p.nodes[j]=false) (by exact Uw.wM) (fun g1=>?_) (fun j hj _=>?_)
 ·rw [hall fun j h=>g1 j h h]
  refine aw ?_;refine aA ?_;exact al rfl rfl rfl rfl rfl
 have he:=lZ j hj;have hone:=hone j hj;have hG:iN p p.nodes[j]=false->(fun j=>∀h:j<p.nodes.length,iN p p.nodes[j]=false) j:=fun h _=>h;have hth:=gi p p.nodes[j].name (by have:=hp.decls;omega);obtain ⟨B,hB,hcs⟩:=JQ p p.nodes[j];rw [hB] at hone hG;rw [lw] at hth;have hmy:=wb ((aE p p.nodes[j].name).getD (-1)) p.nodes[j].name2;clear hall lZ hB;generalize p.nodes[j]=x at *;obtain ⟨xk,xn,xs,xt,xo⟩:=x;have he:(p.nodes.map ndL)[(j:Int).toNat]? = some [I xk,I xn,.str xs,.str xt,cb xo]:=he;simp only at hcs hth hmy
 rcases hcs with ⟨hk,⟨ht,rfl⟩|⟨ht,rfl⟩|⟨k,hk0,ht,rfl⟩⟩|⟨hk,⟨ht,rfl⟩|⟨k,ht,rfl⟩⟩|⟨rfl,⟨c,ht,rfl⟩|⟨ht,rfl⟩⟩|⟨h2,h9,h10,h11,h8,rfl⟩
 ·rw [ht] at hth
  have hth:Ret P0 cy [pgD p,.str xs] (.tuple [I (-1),.bool false]):=hth;have hG1:=hG rfl
  rcases hk with rfl|rfl
  all_goals repeat refine aw ?_
  all_goals exact ay j hG1 (by exact Uw.wM)
 ·rw [ht] at hth
  have hth:Ret P0 cy [pgD p,.str xs] (.tuple [I 0,.bool true]):=hth;have hG1:=hG rfl
  rcases hk with rfl|rfl
  all_goals repeat refine aw ?_
  all_goals exact ay j hG1 (by exact Uw.wM)
 ·rw [ht] at hth
  have hth:Ret P0 cy [pgD p,.str xs] (.tuple [I k,.bool true]):=hth;rw [hone rfl]
  rcases hk with rfl|rfl
  all_goals repeat refine aw ?_
  all_goals exact aN (al rfl rfl rfl rfl rfl)
 ·rw [ht] at hth
  have hth:Ret P0 cy [pgD p,.str xs] (.tuple [I (-1),.bool false]):=hth;have hG1:=hG rfl
  rcases hk with rfl|rfl
  all_goals repeat refine aw ?_
  all_goals exact ay j hG1 (by exact Uw.wM)
 ·rw [ht] at hth
  have hth:Ret P0 cy [pgD p,.str xs] (.tuple [I k,.bool true]):=hth;rw [hone rfl]
  rcases hk with rfl|rfl
  all_goals repeat refine aw ?_
  all_goals exact aN (al rfl rfl rfl rfl rfl)
 ·rw [ht] at hmy
  obtain ⟨c0,c2⟩:=JR ht;have hG1:=hG rfl;generalize (aE p xs).getD (-1)=tk at *;generalize (aE p xs).isSome=tb at *;have hmy:Ret P0 jK [I tk,.str xt] (I c):=hmy
  repeat refine aw ?_
  exact ay j hG1 (by exact Uw.wM)
 ·rw [ht] at hmy
  rw [hone rfl];generalize (aE p xs).getD (-1)=tk at *;generalize (aE p xs).isSome=tb at *;have hmy:Ret P0 jK [I tk,.str xt] (I (-1)):=hmy
  repeat refine aw ?_
  exact aN (al rfl rfl rfl rfl rfl)
 ·have hG1:=hG rfl
  generalize (aE p xs).getD (-1)=tk at *;generalize (aE p xs).isSome=tb at *
  repeat refine aw ?_
  exact ay j hG1 (by exact Uw.wM)
end Uw.Tryz
namespace Uw.Tryz
open Go Uw
theorem D7 {p:Pg} {s:Str} (h:cV p s=none):sc p s = -1:=by rw [sc,h]
theorem kq {p:Pg} {s:Str} {i:Nat} (h:cV p s=some i):sc p s=(i:Nat):=by rw [sc,h]
theorem Qb {p:Pg} (hn:nameP p=false) (j:Nat) (h:j<p.nodes.length):ft p p.nodes[j] ((aD p).getD j 0)=false:=by
 cases hx:ft p p.nodes[j] ((aD p).getD j 0) with
 | false=>rfl
 | true=>rw [xj j h hx] at hn;cases hn
theorem Qc {p:Pg} (hn:gx p=false) (j:Nat) (h:j<p.nodes.length):iN p p.nodes[j]=false:=by
 have:=Zl.1 hn _ (YT h);simpa using this
theorem IR (p:Pg) (x:Nd) (o:Int) (hn:ft p x o=false) (hs:iN p x=false):∃B:Bool,manyN p x=B/\
  ((x.kind=10/\∃k,∃hk:k<p.ae.length,cV p x.name2=some k/\((p.ae[k].args.length=x.of.length/\B=false)\/(p.ae[k].args.length≠x.of.length/\B=true)))\/
    (x.kind=11/\∃k,∃hk:k<p.ae.length,cV p x.name2=some k/\((p.ae[k].args.length=1/\B=false)\/(p.ae[k].args.length≠1/\B=true)))\/
    (x.kind=8/\∃k c,aE p x.name=some k/\cX k x.name2=some c/\((c=(x.of.length:Nat)/\B=false)\/(c≠(x.of.length:Nat)/\B=true)))\/
    (x.kind≠10/\x.kind≠11/\x.kind≠8/\B=false)):=by
 refine ⟨manyN p x,rfl,?_⟩;unfold manyN;by_cases h1:x.kind=10\/x.kind=11
 ·rw [ft,if_pos h1] at hn
  cases hf:cV p x.name2 with
  | none=>rw [hf] at hn;cases hn
  | some k=>
   obtain ⟨hk,_⟩:=o9 hf;have ha:argsAt p x.name2=p.ae[k].args.length:=by rw [argsAt,hf];simp [List.getD,hk]
   rcases h1 with h1|h1
   ·rw [if_pos h1,ha]
    refine .inl ⟨h1,k,hk,rfl,?_⟩;by_cases e:p.ae[k].args.length=x.of.length
    ·exact .inl ⟨e,by simp [e]⟩
    ·exact .inr ⟨e,by simp [Ne.symm e]⟩
   ·rw [if_neg (by omega),if_pos h1,ha]
    refine .inr (.inl ⟨h1,k,hk,rfl,?_⟩);by_cases e:p.ae[k].args.length=1
    ·exact .inl ⟨e,by simp [e]⟩
    ·exact .inr ⟨e,by simp [e]⟩
 rw [if_neg (by omega),if_neg (by omega)];by_cases h3:x.kind=8
 ·rw [if_pos h3]
  rw [ft,if_neg h1,if_pos h3] at hn;rw [iN,if_neg (by omega),if_neg h1,if_pos h3] at hs
  cases ht:aE p x.name with
  | none=>rw [ht] at hn;cases hn
  | some k=>
   rw [ht] at hs;simp only [abf] at hs ⊢;obtain ⟨c,hq⟩:∃c,cX k x.name2=some c:=aaf.1 (by
    cases h:cX k x.name2 with
    | none=>rw [h] at hs;cases hs
    | some c=>rfl)
   refine .inr (.inr (.inl ⟨h3,k,c,rfl,hq,?_⟩));by_cases e:c=(x.of.length:Nat)
   ·exact .inl ⟨e,by simp [hq,e]⟩
   ·exact .inr ⟨e,by simp [hq,Ne.symm e]⟩
 ·rw [if_neg h3]
  exact .inr (.inr (.inr ⟨by omega,by omega,h3,rfl⟩))
theorem Bt (p:Pg) (hp:Lim p) (hn:nameP p=false) (hs:gx p=false):Ret P0 ru [pgD p] (.bool (!fu p)):=by
 have hN:=hp.nodes;have hF:=hp.ae;have hnl:(p.nodes.map ndL).length=p.nodes.length:=by simp
 have hfl:(p.ae.map fuL).length=p.ae.length:=by simp
 have hmain:cV p eY≠none:=fun h=>by rw [xi h] at hn;cases hn
 obtain ⟨m,hm⟩:=Option.ne_none_iff_exists'.1 hmain;obtain ⟨hml,_⟩:=o9 hm;have ha:argsAt p eY=p.ae[m].args.length:=by rw [argsAt,hm];simp [List.getD,hml]
 have hfun:=jo p eY (by omega);rw [kq hm] at hfun
 have hfun:Ret P0 kP [pgD p,.str [109,97,105,110]] (I (m:Nat)):=hfun
 have hem:(p.ae.map fuL)[((m:Nat):Int).toNat]? = some (fuL p.ae[m]):=by simp [hml]
 have hR0:0<p.ae[m].args.length->(!fu p)=false:=fun h=>by rw [fu,ha,decide_eq_true h];rfl
 have hall:¬0<p.ae[m].args.length->(∀(j:Nat) (h:j<p.nodes.length),manyN p p.nodes[j]=false)->(!fu p)=true:=fun h0 h=>by
  rw [fu,ha,decide_eq_false h0,Zl.2];rfl;intro x hx;obtain ⟨j,hj,rfl⟩:=Y0.1 hx;rw [h j hj];simp
 have hone:∀(j:Nat) (h:j<p.nodes.length),manyN p p.nodes[j]=true->(!fu p)=false:=fun j h e=>by
  rw [fu,Zv.2 ⟨_,YT h,e⟩,Bool.or_true];rfl
 have lZ:∀(j:Nat) (h:j<p.nodes.length),(p.nodes.map ndL)[(j:Int).toNat]? = some (ndL p.nodes[j]):=fun j h=>by simp [h]
 have hcs:=fun (j:Nat) (h:j<p.nodes.length)=>IR p p.nodes[j] _ (Qb hn j h) (Qc hs j h);clear hm ha hmain hn hs;generalize (!fu p)=R at *;generalize p.ae[m]=f at *;obtain ⟨fn,fa,fb⟩:=f;have hem:(p.ae.map fuL)[((m:Nat):Int).toNat]? = some [.str fn,.slice 1 (fa.map fun s=>[Dat.str s]) false,I fb]:=hem;simp only at hR0 hall;have hal:(fa.map fun s=>[Dat.str s]).length=fa.length:=by simp
 by_cases q0:0<fa.length
 ·rw [hR0 q0]
  have q1:(0:Int)<((fa.map fun s=>[Dat.str s]).length:Nat):=by omega
  refine aF qq rfl ?_
  repeat refine aw ?_
  exact al rfl rfl rfl rfl rfl
 have q1:¬(0:Int)<((fa.map fun s=>[Dat.str s]).length:Nat):=by omega
 have hall:=hall q0;refine aF qq rfl ?_
 repeat refine aw ?_
 refine bn p.nodes.length (fun j:Nat=>⟨[(4,.d (I j)),(1,.ptr 0 0)],[(0,pgV p)],1,[],0⟩) (fun j=>∀h:j<p.nodes.length,manyN p p.nodes[j]=false) (by exact Uw.wM) (fun g1=>?_) (fun j hj _=>?_)
 ·rw [hall fun j h=>g1 j h h]
  refine aw ?_;refine aA ?_;exact al rfl rfl rfl rfl rfl
 have he:=lZ j hj;have hone:=hone j hj;have hG:manyN p p.nodes[j]=false->(fun j=>∀h:j<p.nodes.length,manyN p p.nodes[j]=false) j:=fun h _=>h;have hth:=gi p p.nodes[j].name (by have:=hp.decls;omega);rw [lw] at hth;obtain ⟨B,hB,hcs⟩:=hcs j hj;rw [hB] at hone hG;have hfn:=jo p p.nodes[j].name2 (by omega);have hmy:=fun k=>wb k p.nodes[j].name2;clear hall lZ hB hfun hem;generalize p.nodes[j]=x at *;obtain ⟨xk,xn,xs,xt,xo⟩:=x;have he:(p.nodes.map ndL)[(j:Int).toNat]? = some [I xk,I xn,.str xs,.str xt,.slice 1 (xo.map fun i=>[I i]) false]:=he;have hol:(xo.map fun i=>[I i]).length=xo.length:=by simp
 simp only at hcs hth hmy hfn
 rcases hcs with ⟨rfl,k,hk,hfk,hc⟩|⟨rfl,k,hk,hfk,hc⟩|⟨rfl,k,c,ht,hq,hc⟩|⟨h10,h11,h8,rfl⟩
 ·rw [kq hfk] at hfn
  have hek:(p.ae.map fuL)[((k:Nat):Int).toNat]? = some (fuL p.ae[k]):=by simp [hk]
  generalize p.ae[k]=f at *;obtain ⟨gn,ga,gb⟩:=f;have hek:(p.ae.map fuL)[((k:Nat):Int).toNat]? = some [.str gn,.slice 1 (ga.map fun s=>[Dat.str s]) false,I gb]:=hek;have hgl:(ga.map fun s=>[Dat.str s]).length=ga.length:=by simp
  simp only at hc
  rcases hc with ⟨hc,rfl⟩|⟨hc,rfl⟩
  ·have hc' : (((xo.map fun i=>[I i]).length:Nat):Int)=((ga.map fun s=>[Dat.str s]).length:Nat):=by omega
   have hG1:=hG rfl
   repeat refine aw ?_
   exact ay j hG1 (by exact Uw.wM)
  ·have hc' : ¬(((xo.map fun i=>[I i]).length:Nat):Int)=((ga.map fun s=>[Dat.str s]).length:Nat):=by omega
   rw [hone rfl]
   repeat refine aw ?_
   exact aN (al rfl rfl rfl rfl rfl)
 ·rw [kq hfk] at hfn
  have hek:(p.ae.map fuL)[((k:Nat):Int).toNat]? = some (fuL p.ae[k]):=by simp [hk]
  generalize p.ae[k]=f at *;obtain ⟨gn,ga,gb⟩:=f;have hek:(p.ae.map fuL)[((k:Nat):Int).toNat]? = some [.str gn,.slice 1 (ga.map fun s=>[Dat.str s]) false,I gb]:=hek;have hgl:(ga.map fun s=>[Dat.str s]).length=ga.length:=by simp
  simp only at hc
  rcases hc with ⟨hc,rfl⟩|⟨hc,rfl⟩
  ·have hc' : (((ga.map fun s=>[Dat.str s]).length:Nat):Int)=1:=by omega
   have hG1:=hG rfl
   repeat refine aw ?_
   exact ay j hG1 (by exact Uw.wM)
  ·have hc' : ¬(((ga.map fun s=>[Dat.str s]).length:Nat):Int)=1:=by omega
   rw [hone rfl]
   repeat refine aw ?_
   exact aN (al rfl rfl rfl rfl rfl)
 ·rw [ht] at hth
  have hth:Ret P0 cy [pgD p,.str xs] (.tuple [I k,.bool true]):=hth;have hmy:=hmy k;rw [hq] at hmy;have hmy:Ret P0 jK [I k,.str xt] (I c):=hmy
  rcases hc with ⟨hc,rfl⟩|⟨hc,rfl⟩
  ·have hc' : c=(((xo.map fun i=>[I i]).length:Nat):Int):=by omega
   have hG1:=hG rfl
   repeat refine aw ?_
   exact ay j hG1 (by exact Uw.wM)
  ·have hc' : ¬c=(((xo.map fun i=>[I i]).length:Nat):Int):=by omega
   rw [hone rfl]
   repeat refine aw ?_
   exact aN (al rfl rfl rfl rfl rfl)
 ·have hG1:=hG rfl
  repeat refine aw ?_
  exact ay j hG1 (by exact Uw.wM)
theorem Qd (p:Pg) (x:Nd) (f:Nat):∃B:Bool,ft p x (f:Int)=B/\
  (((x.kind=10\/x.kind=11)/\((cV p x.name2=none/\B=true)\/∃i,cV p x.name2=some i/\B=false))\/
    (x.kind=8/\((aE p x.name=none/\B=true)\/∃k,aE p x.name=some k/\B=false))\/
    (x.kind=2/\((∃k,aE p x.name=some k/\B=false)\/(aE p x.name=none/\x.name∈(aj p).getD f []/\B=false)\/(aE p x.name=none/\x.name∉(aj p).getD f []/\B=true)))\/
    (x.kind≠10/\x.kind≠11/\x.kind≠8/\x.kind≠2/\B=false)):=by
 refine ⟨ft p x (f:Int),rfl,?_⟩;unfold ft;by_cases h1:x.kind=10\/x.kind=11
 ·rw [if_pos h1]
  refine .inl ⟨h1,?_⟩
  cases cV p x.name2 with
  | none=>exact .inl ⟨rfl,rfl⟩
  | some i=>exact .inr ⟨i,rfl,rfl⟩
 rw [if_neg h1];by_cases h2:x.kind=8
 ·rw [if_pos h2]
  refine .inr (.inl ⟨h2,?_⟩)
  cases aE p x.name with
  | none=>exact .inl ⟨rfl,rfl⟩
  | some i=>exact .inr ⟨i,rfl,rfl⟩
 rw [if_neg h2];by_cases h3:x.kind=2
 ·rw [if_pos h3]
  refine .inr (.inr (.inl ⟨h3,?_⟩));rw [aaA]
  cases aE p x.name with
  | some i=>exact .inl ⟨i,rfl,rfl⟩
  | none=>
   by_cases hm:x.name∈(aj p).getD f []
   ·exact .inr (.inl ⟨rfl,hm,by simp only [decide_eq_true hm];rfl⟩)
   ·exact .inr (.inr ⟨rfl,hm,by simp only [decide_eq_false hm];rfl⟩)
 rw [if_neg h3];exact .inr (.inr (.inr ⟨by omega,by omega,h2,h3,rfl⟩))
theorem CJ (p:Pg) (hf:aY p=true) (hp:Lim p):Ret P0 tC [pgD p] (.bool (!nameP p)):=by
 have hN:=hp.nodes;have hF:=hp.ae;have hD:=hp.decls;have hnl:(p.nodes.map ndL).length=p.nodes.length:=by simp
 have hdl:(p.decls.map bM).length=p.decls.length:=by simp
 cases hm:cV p eY with
 | none=>
  rw [xi hm];have hfun:=jo p eY (by omega);rw [D7 hm] at hfun
  have hfun:Ret P0 kP [pgD p,.str [109,97,105,110]] (I (-1)):=hfun
  refine aF rq rfl ?_
  repeat refine aw ?_
  exact al rfl rfl rfl rfl rfl
 | some m=>
 have hfun:=jo p eY (by omega);rw [kq hm] at hfun
 have hfun:Ret P0 kP [pgD p,.str [109,97,105,110]] (I (m:Nat)):=hfun
 have hall:(∀(j:Nat) (h:j<p.nodes.length),ft p p.nodes[j] ((aD p).getD j 0)=false)->(∀(j:Nat) (h:j<p.decls.length),¬(p.decls[j].kind<0\/3<p.decls[j].kind))->(!nameP p)=true:=fun h1 h2=>by
  rw [Ig (by rw [hm];exact fun h=>by cases h) h1 h2];rfl
 have nP:∀(j:Nat) (h:j<p.nodes.length),ft p p.nodes[j] ((aD p).getD j 0)=true->(!nameP p)=false:=fun j h e=>by rw [xj j h e];rfl
 have gB:∀(j:Nat) (h:j<p.decls.length),p.decls[j].kind<0\/3<p.decls[j].kind->(!nameP p)=false:=fun j h e=>by rw [DU j h e];rfl
 have lZ:∀(j:Nat) (h:j<p.nodes.length),(p.nodes.map ndL)[(j:Int).toNat]? = some (ndL p.nodes[j]):=fun j h=>by simp [h]
 have qP:∀(j:Nat) (h:j<p.decls.length),(p.decls.map bM)[(j:Int).toNat]? = some (bM p.decls[j]):=fun j h=>by simp [h]
 clear hm;generalize (!nameP p)=R at *;refine aF rq rfl ?_
 repeat refine aw ?_
 refine bn p.decls.length (fun j:Nat=>⟨[(3,.d (I j)),(1,.ptr 0 0)],[(0,pgV p)],1,[],0⟩) (fun j=>∀h:j<p.decls.length,¬(p.decls[j].kind<0\/3<p.decls[j].kind)) (by exact Uw.wM) (fun g1=>?_) (fun j hj _=>?_);rotate_left 1
 ·have he:=qP j hj
  have hone:=gB j hj;have hG:¬(p.decls[j].kind<0\/3<p.decls[j].kind)->(fun j=>∀h:j<p.decls.length,¬(p.decls[j].kind<0\/3<p.decls[j].kind)) j:=fun h _=>h;clear hall lZ qP nP gB;generalize p.decls[j]=d at *;obtain ⟨dk,dn,dv⟩:=d;have he:(p.decls.map bM)[(j:Int).toNat]? = some [I dk,.str dn,I dv]:=he;simp only at hone hG;by_cases q0:dk<0
  ·rw [hone (.inl q0)]
   repeat refine aw ?_
   exact aN (al rfl rfl rfl rfl rfl)
  by_cases q3:3<dk
  ·rw [hone (.inr q3)]
   repeat refine aw ?_
   exact aN (al rfl rfl rfl rfl rfl)
  have hG1:=hG (by omega)
  repeat refine aw ?_
  exact ay j hG1 (by exact Uw.wM)
 have hall:=fun h=>hall h fun j h=>g1 j h h;clear g1 gB qP hfun
 refine aw ?_;refine aA ?_
 repeat refine aw ?_
 refine bn p.nodes.length (fun j:Nat=>⟨[(4,.d (I j)),(1,.ptr 0 0)],[(0,pgV p)],1,[],0⟩) (fun j=>∀h:j<p.nodes.length,ft p p.nodes[j] ((aD p).getD j 0)=false) (by exact Uw.wM) (fun g2=>?_) (fun j hj _=>?_)
 ·rw [hall fun j h=>g2 j h h]
  refine aw ?_;refine aA ?_;exact al rfl rfl rfl rfl rfl
 have he:=lZ j hj;have hone:=nP j hj;have hG:ft p p.nodes[j] ((aD p).getD j 0)=false->(fun j=>∀h:j<p.nodes.length,ft p p.nodes[j] ((aD p).getD j 0)=false) j:=fun h _=>h;have hwh:=ox p hf hp j hj;obtain ⟨o1,o2⟩:=wX hf _ j hj (YN _);have hth:=gi p p.nodes[j].name (by omega);have hfn:=jo p p.nodes[j].name2 (by omega);obtain ⟨f,hof⟩:∃f:Nat,(aD p).getD j 0=(f:Int):=⟨((aD p).getD j 0).toNat,by omega⟩
 rw [hof] at hwh o1 o2 hone hG;have hfl:f<p.ae.length:=by omega
 have hlo:=sg p hf hp f hfl;have hln:((aj p).getD f []).length<1000000000:=by
  have hjl:f<(aj p).length:=by rw [fP];exact hfl
  rw [List.getD,YQ hjl];have:=uA p hp p.nodes.length f (aj p)[f] (by rw [rT];simp [hjl]);show (aj p)[f].length<_;omega
 have hin:=qg ((aj p).getD f []) p.nodes[j].name hln;rw [lw] at hth;obtain ⟨B,hB,hcs⟩:=Qd p p.nodes[j] f;rw [hB] at hone hG;clear hall lZ nP hB hof hln;generalize (aj p).getD f []=l at *;generalize p.nodes[j]=x at *;obtain ⟨xk,xn,xs,xt,xo⟩:=x;have he:(p.nodes.map ndL)[(j:Int).toNat]? = some [I xk,I xn,.str xs,.str xt,cb xo]:=he;simp only at hcs hth hfn hin
 rcases hcs with ⟨hk,⟨ht,rfl⟩|⟨i,ht,rfl⟩⟩|⟨rfl,⟨ht,rfl⟩|⟨k,ht,rfl⟩⟩|⟨rfl,⟨k,ht,rfl⟩|⟨ht,hm,rfl⟩|⟨ht,hm,rfl⟩⟩|⟨h10,h11,h8,h2,rfl⟩
 ·rw [D7 ht] at hfn
  rw [hone rfl];generalize (aE p xs).getD (-1)=tk at *;generalize (aE p xs).isSome=tb at *
  rcases hk with rfl|rfl
  all_goals repeat refine aw ?_
  all_goals exact aN (al rfl rfl rfl rfl rfl)
 ·rw [kq ht] at hfn
  have hG1:=hG rfl;generalize (aE p xs).getD (-1)=tk at *;generalize (aE p xs).isSome=tb at *
  rcases hk with rfl|rfl
  all_goals repeat refine aw ?_
  all_goals exact ay j hG1 (by exact Uw.wM)
 ·rw [ht] at hth
  have hth:Ret P0 cy [pgD p,.str xs] (.tuple [I (-1),.bool false]):=hth;rw [hone rfl]
  repeat refine aw ?_
  exact aN (al rfl rfl rfl rfl rfl)
 ·rw [ht] at hth
  have hth:Ret P0 cy [pgD p,.str xs] (.tuple [I k,.bool true]):=hth;have hG1:=hG rfl
  repeat refine aw ?_
  exact ay j hG1 (by exact Uw.wM)
 ·rw [ht] at hth
  have hth:Ret P0 cy [pgD p,.str xs] (.tuple [I k,.bool true]):=hth;have hG1:=hG rfl;generalize decide (xs∈l)=b at *
  repeat refine aw ?_
  exact ay j hG1 (by exact Uw.wM)
 ·rw [ht] at hth
  have hth:Ret P0 cy [pgD p,.str xs] (.tuple [I (-1),.bool false]):=hth;rw [decide_eq_true hm] at hin;have hG1:=hG rfl
  repeat refine aw ?_
  exact ay j hG1 (by exact Uw.wM)
 ·rw [ht] at hth
  have hth:Ret P0 cy [pgD p,.str xs] (.tuple [I (-1),.bool false]):=hth;rw [decide_eq_false hm] at hin;rw [hone rfl]
  repeat refine aw ?_
  exact aN (al rfl rfl rfl rfl rfl)
 ·have hG1:=hG rfl
  generalize (aE p xs).getD (-1)=tk at *;generalize (aE p xs).isSome=tb at *
  repeat refine aw ?_
  exact ay j hG1 (by exact Uw.wM)
end Uw.Tryz
namespace Uw.Tryz
open Go Uw
theorem xu (p:Pg):∀(l seen:List Str),jq p seen l=true<->∃(k:Nat) (h:k<l.length),(aE p l[k]).isSome=true\/l[k]∈seen\/l[k]∈l.take k
 | [],seen=>by simp [jq]
 | a::r,seen=>by
  rw [jq,Zj,Zj,decide_eq_true_eq,xu p r (a::seen)];constructor
  ·rintro ((h|h)|⟨k,hk,h⟩)
   ·exact ⟨0,by simp,.inl h⟩
   ·exact ⟨0,by simp,.inr (.inl h)⟩
   ·refine ⟨k+1,by simpa using hk,?_⟩
    simp only [aaz,ZE,Y3]
    rcases h with h|h|h
    ·exact .inl h
    ·rcases Y3.1 h with h|h
     ·exact .inr (.inr (.inl h))
     ·exact .inr (.inl h)
    ·exact .inr (.inr (.inr h))
  ·rintro ⟨k,hk,h⟩
   cases k with
   | zero=>
    simp only [Z6,aa1,aaF,or_false] at h
    rcases h with h|h
    ·exact .inl (.inl h)
    ·exact .inl (.inr h)
   | succ k=>
    simp only [aaz,ZE,Y3] at h;refine .inr ⟨k,by simpa using hk,?_⟩
    rcases h with h|h|h|h
    ·exact .inl h
    ·exact .inr (.inl (ZH _ h))
    ·exact .inr (.inl (by rw [h];exact ZY ..))
    ·exact .inr (.inr h)
theorem IU {α:Type} {l:List α} (h:∀(j:Nat) (hj:j<l.length) (k:Nat) (hk:k<j),l[j]≠l[k]'(by omega)):l.Nodup:=by
 rw [aan,aar];intro i j hi hj hij e;exact h j hj i hij e.symm
abbrev twP (p:Pg) (f:Fu) (k:Nat):Prop:=∀h:k<f.args.length,¬((aE p f.args[k]).isSome=true\/f.args[k]∈f.args.take k)
theorem MV {p:Pg} (h1:∀(j:Nat) (h:j<p.decls.length) (k:Nat) (hk:k<j),p.decls[j].name≠(p.decls[k]'(by omega)).name) (h2:∀(j:Nat) (h:j<p.ae.length),sc p p.ae[j].name=(j:Nat)/\∀k,k<p.ae[j].args.length->twP p p.ae[j] k):dp p=false:=by
 have e1:(p.decls.map (·.name)).Nodup:=IU fun j hj k hk=>by
  simp only [ZZ];exact h1 j (by simpa using hj) k hk
 have e2:(p.ae.map (·.name)).Nodup:=IU fun j hj k hk e=>by
  simp only [ZZ] at e;have hj:j<p.ae.length:=by simpa using hj
  have a1:=(h2 j hj).1;have a2:=(h2 k (by omega)).1;rw [e,a2] at a1;omega
 have e3:(p.ae.any fun f=>jq p [] f.args)=false:=Zl.2 fun f hf hd=>by
  obtain ⟨j,hj,rfl⟩:=Y0.1 hf;obtain ⟨k,hk,h⟩:=(xu p _ _).1 hd;refine (h2 j hj).2 k hk hk ?_
  rcases h with h|h|h
  ·exact .inl h
  ·simp at h
  ·exact .inr h
 rw [dp,e3,decide_eq_true e1,decide_eq_true e2];rfl
theorem JS {p:Pg} (j:Nat) (h:j<p.decls.length) (k:Nat) (hk:k<j) (e:p.decls[j].name=(p.decls[k]'(by omega)).name):dp p=true:=by
 have:¬(p.decls.map (·.name)).Nodup:=fun hn=>by
  have:=o8 hn (i:=j) (j:=k) (by simpa using h) (by simp;omega) (by simpa using e);omega
 rw [dp,decide_eq_false this];rfl
theorem MW {p:Pg} (j:Nat) (h:j<p.ae.length) (e:sc p p.ae[j].name≠(j:Nat)):dp p=true:=by
 have:¬(p.ae.map (·.name)).Nodup:=fun hn=>e (kq (DK hn h));rw [dp,decide_eq_false this];simp
theorem MX {p:Pg} (j:Nat) (h:j<p.ae.length) (k:Nat) (hk:k<p.ae[j].args.length) (e:(aE p p.ae[j].args[k]).isSome=true\/p.ae[j].args[k]∈p.ae[j].args.take k):dp p=true:=by
 have:(p.ae.any fun f=>jq p [] f.args)=true:=Zv.2 ⟨_,YT h,(xu p _ _).2 ⟨k,hk,by rcases e with e|e;exact .inl e;exact .inr (.inr e)⟩⟩;rw [dp,this];simp
theorem CM (p:Pg) (hp:Lim p):Ret P0 tB [pgD p] (.bool (!dp p)):=by
 have hF:=hp.ae;have hD:=hp.decls;have hdl:(p.decls.map bM).length=p.decls.length:=by simp
 have hfl:(p.ae.map fuL).length=p.ae.length:=by simp
 have hall:=fun h1 h2=>congrArg (!·) (MV (p:=p) h1 h2);have nP:=fun j h k hk e=>congrArg (!·) (JS (p:=p) j h k hk e);have gB:=fun j h e=>congrArg (!·) (MW (p:=p) j h e);have Bv:=fun j h k hk e=>congrArg (!·) (MX (p:=p) j h k hk e);simp only [Bool.not_true,Bool.not_false] at hall nP gB Bv;have lZ:∀(j:Nat) (h:j<p.decls.length),(p.decls.map bM)[(j:Int).toNat]? = some (bM p.decls[j]):=fun j h=>by simp [h]
 have qP:∀(j:Nat) (h:j<p.ae.length),(p.ae.map fuL)[(j:Int).toNat]? = some (fuL p.ae[j]):=fun j h=>by simp [h]
 have hag:=fun (j:Nat) (h:j<p.ae.length)=>hp.args p.ae[j] (YT h);generalize (!dp p)=R at *;refine aF zR rfl ?_
 repeat refine aw ?_
 refine bn p.decls.length (fun j:Nat=>⟨[(3,.d (I j)),(1,.ptr 0 0)],[(0,pgV p)],1,[],0⟩) (fun j=>∀(h:j<p.decls.length) (k:Nat) (hk:k<j),p.decls[j].name≠(p.decls[k]'(by omega)).name) (by exact Uw.wM) (fun g1=>?_) (fun j hj _=>?_);rotate_left 1
 ·have he:=lZ j hj
  have hone:=nP j hj;have hG:(∀(k:Nat) (hk:k<j),p.decls[j].name≠(p.decls[k]'(by omega)).name)->(fun j=>∀(h:j<p.decls.length) (k:Nat) (hk:k<j),p.decls[j].name≠(p.decls[k]'(by omega)).name) j:=fun h _=>h;clear hall nP gB Bv qP hag;generalize p.decls[j]=d at *;obtain ⟨dk,dn,dv⟩:=d;have he:(p.decls.map bM)[(j:Int).toNat]? = some [I dk,.str dn,I dv]:=he;simp only at hone hG
  repeat refine aw ?_
  refine bn j (fun k:Nat=>⟨[(4,.d (I k)),(3,.d (I j)),(1,.ptr 0 0)],[(0,pgV p)],1,[],0⟩) (fun k=>∀(hk:k<j),dn≠(p.decls[k]'(by omega)).name) (by exact Uw.wM) (fun g=>?_) (fun k hk _=>?_)
  ·have hG1:=hG fun k hk=>g k hk hk
   refine aw ?_;refine aA ?_
   repeat refine aw ?_
   exact ay j hG1 (by exact Uw.wM)
  have hkl:k<p.decls.length:=by omega
  have he2:=lZ k hkl;have hone:=hone k hk;have hG2:dn≠(p.decls[k]'hkl).name->(fun k=>∀(hk:k<j),dn≠(p.decls[k]'(by omega)).name) k:=fun h _=>h;clear lZ hG;generalize p.decls[k]=e at *;obtain ⟨ek,en,ev⟩:=e;have he2:(p.decls.map bM)[(k:Int).toNat]? = some [I ek,.str en,I ev]:=he2;simp only at hone hG2;by_cases q:dn=en
  ·rw [hone q]
   repeat refine aw ?_
   exact aN (aN (al rfl rfl rfl rfl rfl))
  ·have hG1:=hG2 q
   repeat refine aw ?_
   exact ay k hG1 (by exact Uw.wM)
 have hall:=hall fun j h k hk=>g1 j h h k hk;clear g1 nP lZ;refine aw ?_;refine aA ?_
 repeat refine aw ?_
 refine bn p.ae.length (fun j:Nat=>⟨[(5,.d (I j)),(1,.ptr 0 0)],[(0,pgV p)],1,[],0⟩) (fun j=>∀(h:j<p.ae.length),sc p p.ae[j].name=(j:Nat)/\∀k,k<p.ae[j].args.length->twP p p.ae[j] k) (by exact Uw.wM) (fun g2=>?_) (fun j hj _=>?_)
 ·rw [hall fun j h=>g2 j h h]
  refine aw ?_;refine aA ?_;exact al rfl rfl rfl rfl rfl
 have he:=qP j hj;have gB:=gB j hj;have Bv:=Bv j hj;have hag:=hag j hj;have hfn:=jo p p.ae[j].name (by omega);have hG:(sc p p.ae[j].name=(j:Nat)/\∀k,k<p.ae[j].args.length->twP p p.ae[j] k)->(fun j=>∀(h:j<p.ae.length),sc p p.ae[j].name=(j:Nat)/\∀k,k<p.ae[j].args.length->twP p p.ae[j] k) j:=fun h _=>h;clear hall qP;generalize p.ae[j]=f at *;obtain ⟨fn,fa,fb⟩:=f;have he:(p.ae.map fuL)[(j:Int).toNat]? = some [.str fn,.slice 1 (fa.map fun s=>[Dat.str s]) false,I fb]:=he;have hal:(fa.map fun s=>[Dat.str s]).length=fa.length:=by simp
 simp only at gB Bv hag hfn hG;by_cases q:sc p fn=(j:Nat)
 rotate_left 1
 ·rw [gB q]
  generalize sc p fn=u at *
  repeat refine aw ?_
  exact aN (al rfl rfl rfl rfl rfl)
 have hG:=fun h=>hG ⟨q,h⟩;rw [q] at hfn;clear gB q;have hth:=fun (k:Nat) (h:k<fa.length)=>gi p fa[k] (by omega);have hin:=fun (k:Nat) (h:k<fa.length)=>qg (fa.take k) fa[k] (by rw [Y8];omega);have hea:∀(k:Nat) (h:k<fa.length),(fa.map fun s=>[Dat.str s])[(k:Int).toNat]? = some [.str fa[k]]:=fun k h=>by simp [h]
 repeat refine aw ?_
 refine bn fa.length (fun k:Nat=>⟨[(7,.d (I k)),(6,.d (ei fa)),(5,.d (I j)),(1,.ptr 0 0)],[(0,pgV p)],1,[],0⟩) (twP p ⟨fn,fa,fb⟩) (by exact Uw.wM) (fun g=>?_) (fun k hk _=>?_)
 ·have hG1:=hG fun k hk=>g k hk
  refine aw ?_;refine aA ?_
  repeat refine aw ?_
  exact ay j hG1 (by exact Uw.wM)
 have hth:=hth k hk;rw [lw] at hth;have hin:=hin k hk;have hea:=hea k hk;have hone:=Bv k hk;have hG2:¬((aE p fa[k]).isSome=true\/fa[k]∈fa.take k)->twP p ⟨fn,fa,fb⟩ k:=fun h _=>h;have hin:Ret P0 mN [.slice 1 (((fa.map fun s=>[Dat.str s]).take ((k:Int).toNat)).drop 0) false,.str fa[k]] (.bool (decide (fa[k]∈fa.take k))):=by
  have e:((fa.map fun s=>[Dat.str s]).take ((k:Int).toNat)).drop 0=(fa.take k).map fun s=>[Dat.str s]:=by
   rw [Zf,show (k:Int).toNat=k by omega,abx]
  rw [e];exact hin
 clear Bv hG;generalize fa[k]=s at *;by_cases q1:(aE p s).isSome=true
 ·rw [hone (.inl q1)]
  rw [q1] at hth;generalize (aE p s).getD (-1)=tk at *;generalize decide (s∈fa.take k)=b at *
  repeat refine aw ?_
  exact aN (aN (al rfl rfl rfl rfl rfl))
 have q1' : (aE p s).isSome=false:=by simpa using q1
 by_cases q2:s∈fa.take k
 ·rw [hone (.inr q2)]
  rw [decide_eq_true q2] at hin;rw [q1'] at hth;generalize (aE p s).getD (-1)=tk at *
  repeat refine aw ?_
  exact aN (aN (al rfl rfl rfl rfl rfl))
 ·have hG1:=hG2 fun h=>by rcases h with h|h;exact q1 h;exact q2 h
  rw [decide_eq_false q2] at hin;rw [q1'] at hth;clear hG2 hone;generalize (aE p s).getD (-1)=tk at *
  repeat refine aw ?_
  exact ay k hG1 (by exact Uw.wM)
theorem IV (p:Pg) (hf:aY p=true) (hp:Lim p):Ret P0 xQ [pgD p] (I (jT p)):=by
 have h0:=sd p hf hp;have h1:=Br p hf hp;have h2:=CM p hp;have h3:=CJ p hf hp;have h4:=CH p hp;have h5:=Bt p hp;have hw:jT p=(if dw p=true then 2 else if dp p=true then 5 else if nameP p=true then 4 else if gx p=true then 6 else if fu p=true then 7 else 0):=by rw [jT,hf];rfl
 rw [hw];generalize dw p=b1 at *;generalize dp p=b2 at *;generalize nameP p=b3 at *;generalize gx p=b4 at *;generalize fu p=b5 at *;clear hw
 cases b1 with
 | true=>
  refine aF iu rfl ?_
  repeat refine aw ?_
  exact al rfl rfl rfl rfl rfl
 | false=>
 cases b2 with
 | true=>
  refine aF iu rfl ?_
  repeat refine aw ?_
  exact al rfl rfl rfl rfl rfl
 | false=>
 cases b3 with
 | true=>
  refine aF iu rfl ?_
  repeat refine aw ?_
  exact al rfl rfl rfl rfl rfl
 | false=>
 cases b4 with
 | true=>
  refine aF iu rfl ?_
  repeat refine aw ?_
  exact al rfl rfl rfl rfl rfl
 | false=>
 have h5:=h5 rfl rfl
 cases b5 with
 | true=>
  refine aF iu rfl ?_
  repeat refine aw ?_
  exact al rfl rfl rfl rfl rfl
 | false=>
  refine aF iu rfl ?_
  repeat refine aw ?_
  exact al rfl rfl rfl rfl rfl
end Uw.Tryz
namespace Uw.Tryz
open Go Uw
def Seg (ks:Nat->Int):Nat->List Nod->Prop
 | _,[]=>True
 | b,x::r=>ks b=x.kind/\Seg ks (b+1) r
theorem Seg.app {ks:Nat->Int}:∀{x y:List Nod} {b:Nat},Seg ks b (x++y)->Seg ks b x/\Seg ks (b+x.length) y
 | [],y,b,h=>⟨trivial,h⟩
 | a::x,y,b,⟨h1,h2⟩=>by
  obtain ⟨h3,h4⟩:=Seg.app h2;exact ⟨⟨h1,h3⟩,by rw [YR,show b+(x.length+1)=b+1+x.length by omega];exact h4⟩
def eQ (ks:Nat->Int) (x:Nod):Bool:=dY x.kind x.n (x.of.map fun k=>cQ (ks k)) (ks (x.of.headD 0))
def ShN (ks:Nat->Int) (l:List Nod):Prop:=∀x∈l,eQ ks x=true
theorem ShN.app {ks:Nat->Int} {x y:List Nod} (h1:ShN ks x) (h2:ShN ks y):ShN ks (x++y):=fun a h=>(Y7.1 h).elim (h1 a) (h2 a)
theorem ShN.one {ks:Nat->Int} {x:Nod} (h:eQ ks x=true):ShN ks [x]:=by intro a ha;simp at ha;subst ha;exact h
def uI (ks:Nat->Int) (s:Int) (l:List Nat):Prop:=∀k∈l,cQ (ks k)=s
theorem uI.cons {ks:Nat->Int} {s:Int} {k:Nat} {l:List Nat} (h1:cQ (ks k)=s) (h2:uI ks s l):uI ks s (k::l):=fun a h=>(Y3.1 h).elim (fun e=>e ▸ h1) (h2 a)
theorem uI.nil {ks:Nat->Int} {s:Int}:uI ks s []:=fun a h=>by simp at h
theorem SO {k:Int} (h:1<=k/\k<=8):cQ k=1:=by rw [cQ,if_pos h]
theorem SQ {k:Int} (h:9<=k/\k<=17):cQ k=2:=by rw [cQ,if_neg (by omega),if_pos h]
theorem SR {ks:Nat->Int} {k:Int} (hk:3<=k/\k<=7) {a b:Nat} (ha:cQ (ks a)=1) (hb:cQ (ks b)=1):eQ ks ⟨k,0,[],[],[a,b]⟩=true:=by
 unfold eQ dY;rw [if_neg (by simp;omega),if_neg (by simp;omega),if_pos (by simp;omega)];simp [ha,hb]
theorem Gw {ks:Nat->Int} {k:Int} (hk:k=8\/k=10) {n:Int} {s t:Str} {l:List Nat} (hl:uI ks 1 l):eQ ks ⟨k,n,s,t,l⟩=true:=by
 unfold eQ dY;rw [if_neg (by simp;omega),if_neg (by simp;omega),if_neg (by simp;omega),if_pos hk];simp only [Y1,Zk];rintro _ ⟨k,hk,rfl⟩;simpa using hl k hk
theorem K8 {ks:Nat->Int} {k:Int} (hk:k=9\/k=15\/k=16) {n:Int} {s t:Str} {a:Nat} (ha:cQ (ks a)=1):eQ ks ⟨k,n,s,t,[a]⟩=true:=by
 unfold eQ dY;rw [if_neg (by simp;omega),if_neg (by simp;omega),if_neg (by simp;omega),if_neg (by simp;omega),if_pos hk];simp [ha]
theorem SS {ks:Nat->Int} {l:List Nat} (hl:uI ks 2 l):eQ ks ⟨18,0,[],[],l⟩=true:=by
 unfold eQ dY;simp only [Int.reduceEq,or_self,if_false,if_true,Y1,Zk];rintro _ ⟨k,hk,rfl⟩;simpa using hl k hk
mutual
theorem Ex.shp {ks:Nat->Int}:∀(e:Ex) (b:Nat),e.good->Seg ks b (e.flat b)->ShN ks (e.flat b)/\cQ (ks (b+e.sz - 1))=1
 | .num n,b,hg,h=>by
  refine ⟨ShN.one ?_,?_⟩
  ·have:0<=n/\n<4294967296:=hg
   simp [eQ,dY,this.1,this.2]
  ·show cQ (ks b)=1
   rw [h.1];rfl
 | .name s,b,hg,h=>by
  refine ⟨ShN.one rfl,?_⟩;show cQ (ks b)=1;rw [h.1];rfl
 | .bin k x y,b,hg,h=>by
  obtain ⟨h12,h3⟩:=Seg.app h;obtain ⟨h1,h2⟩:=Seg.app h12;rw [Ex.ax] at h2;obtain ⟨a1,a2⟩:=x.shp b hg.2.1 h1;obtain ⟨b1,b2⟩:=y.shp _ hg.2.2 h2;refine ⟨(a1.app b1).app (ShN.one (SR hg.1 a2 b2)),?_⟩;have e:ks (b+(Ex.bin k x y).sz - 1)=k:=by
   have:=h3.1;rw [YP,Ex.ax,Ex.ax] at this;rw [Ex.sz,show b+(x.sz+y.sz+1) - 1=b+(x.sz+y.sz) by omega];exact this
  rw [e];exact SO ⟨by have:=hg.1;omega,by have:=hg.1;omega⟩
 | .call o v ar,b,hg,h=>by
  obtain ⟨h1,h3⟩:=Seg.app h;obtain ⟨a1,a2⟩:=ar.shp b hg.2.2 h1;refine ⟨a1.app (ShN.one (Gw (.inl rfl) a2)),?_⟩;have e:ks (b+(Ex.call o v ar).sz - 1)=8:=by
   have:=h3.1;rw [Exs.ax] at this;rw [Ex.sz,show b+(ar.sz+1) - 1=b+ar.sz by omega];exact this
  rw [e];rfl
theorem Exs.shp {ks:Nat->Int}:∀(e:Exs) (b:Nat),e.good->Seg ks b (e.flat b)->ShN ks (e.flat b)/\uI ks 1 (e.places b)
 | .nil,b,_,_=>⟨fun a h=>by simp [Exs.flat] at h,uI.nil⟩
 | .cons e r,b,hg,h=>by
  obtain ⟨h1,h2⟩:=Seg.app h;rw [Ex.ax] at h2;obtain ⟨a1,a2⟩:=e.shp b hg.1 h1;obtain ⟨b1,b2⟩:=r.shp _ hg.2 h2;exact ⟨a1.app b1,uI.cons a2 b2⟩
end
theorem Exs.two {ks:Nat->Int} {ar:Exs} {b:Nat} (h:ar.length=2) (ha:uI ks 1 (ar.places b)):((ar.places b).map fun k=>cQ (ks k))=[1,1]:=by
 cases ar with
 | nil=>cases h
 | cons x r=>cases r with
  | nil=>cases h
  | cons y r=>cases r with
   | nil=>
    simp only [Exs.places,Zm,List.map_nil];rw [ha _ (by simp [Exs.places]),ha _ (by simp [Exs.places])]
   | cons z r=>simp [Exs.length] at h
theorem Bl.wc {ks:Nat->Int} {x:Bl} {b:Nat} (h:Seg ks b (x.flat b)->ShN ks (x.flat b)/\uI ks 2 (x.places b)) (hs:Seg ks b (x.all b)):ShN ks (x.all b)/\cQ (ks (b+(x.sz+1) - 1))=3:=by
 obtain ⟨h1,h2⟩:=Seg.app hs;obtain ⟨a1,a2⟩:=h h1;refine ⟨a1.app (ShN.one (SS a2)),?_⟩;have e:ks (b+(x.sz+1) - 1)=18:=by
  have:=h2.1;rw [Bl.ax] at this;rw [show b+(x.sz+1) - 1=b+x.sz by omega];exact this
 rw [e];rfl
mutual
theorem Stm.shp {ks:Nat->Int}:∀(e:Stm) (b:Nat),e.good->Seg ks b (e.flat b)->ShN ks (e.flat b)/\cQ (ks (b+e.sz - 1))=2
 | .set s e,b,hg,h=>by
  obtain ⟨h1,h3⟩:=Seg.app h;obtain ⟨a1,a2⟩:=e.shp b hg.2 h1;refine ⟨a1.app (ShN.one (K8 (.inl rfl) a2)),?_⟩;have e:ks (b+(Stm.set s e).sz - 1)=9:=by
   have:=h3.1;rw [Ex.ax] at this;rw [Stm.sz,show b+(e.sz+1) - 1=b+e.sz by omega];exact this
  rw [e];rfl
 | .task par to f ar,b,hg,h=>by
  obtain ⟨h1,h3⟩:=Seg.app h;obtain ⟨a1,a2⟩:=ar.shp b hg.2.2.1 h1;refine ⟨a1.app (ShN.one ?_),?_⟩
  ·cases par with
   | false=>exact Gw (.inr rfl) a2
   | true=>
    have:=Exs.two (hg.2.2.2 rfl) a2;simp [eQ,dY,this]
  ·have e:ks (b+(Stm.task par to f ar).sz - 1)=if par then 11 else 10:=by
    have:=h3.1;rw [Exs.ax] at this;rw [Stm.sz,show b+(ar.sz+1) - 1=b+ar.sz by omega];exact this
   rw [e];cases par<;>rfl
 | .sync,b,hg,h=>by
  refine ⟨ShN.one rfl,?_⟩;show cQ (ks b)=2;rw [h.1];rfl
 | .if1 e x,b,hg,h=>by
  obtain ⟨h12,h3⟩:=Seg.app h;obtain ⟨h1,h2⟩:=Seg.app h12;rw [Ex.ax] at h2;obtain ⟨a1,a2⟩:=e.shp b hg.1 h1;obtain ⟨b1,b2⟩:=Bl.wc (x.shp _ hg.2) h2;have b3:cQ (ks (b+e.sz+x.sz))=3:=by rw [show b+e.sz+x.sz=b+e.sz+(x.sz+1) - 1 by omega];exact b2
  refine ⟨(a1.app b1).app (ShN.one (by simp [eQ,dY,a2,b3])),?_⟩;have e:ks (b+(Stm.if1 e x).sz - 1)=13:=by
   have:=h3.1;rw [YP,Ex.ax,show (x.flat (b+e.sz)++[(⟨18,0,[],[],x.places (b+e.sz)⟩:Nod)]).length=x.sz+1 from x.fy _] at this;rw [Stm.sz,show b+(e.sz+(x.sz+1)+1) - 1=b+(e.sz+(x.sz+1)) by omega];exact this
  rw [e];rfl
 | .if2 e x y,b,hg,h=>by
  obtain ⟨X8,h4⟩:=Seg.app h;obtain ⟨h12,h3⟩:=Seg.app X8;obtain ⟨h1,h2⟩:=Seg.app h12;rw [Ex.ax] at h2;rw [YP,Ex.ax,show (x.flat (b+e.sz)++[(⟨18,0,[],[],x.places (b+e.sz)⟩:Nod)]).length=x.sz+1 from x.fy _,<- ZG] at h3;obtain ⟨a1,a2⟩:=e.shp b hg.1 h1;obtain ⟨b1,b2⟩:=Bl.wc (x.shp _ hg.2.1) h2;obtain ⟨c1,c2⟩:=Bl.wc (y.shp _ hg.2.2) h3;have b3:cQ (ks (b+e.sz+x.sz))=3:=by rw [show b+e.sz+x.sz=b+e.sz+(x.sz+1) - 1 by omega];exact b2
  have c3:cQ (ks (b+e.sz+(x.sz+1)+y.sz))=3:=by rw [show b+e.sz+(x.sz+1)+y.sz=b+e.sz+(x.sz+1)+(y.sz+1) - 1 by omega];exact c2
  refine ⟨((a1.app b1).app c1).app (ShN.one (by simp [eQ,dY,a2,b3,c3])),?_⟩;have e:ks (b+(Stm.if2 e x y).sz - 1)=13:=by
   have:=h4.1;rw [YP,YP,Ex.ax,show (x.flat (b+e.sz)++[(⟨18,0,[],[],x.places (b+e.sz)⟩:Nod)]).length=x.sz+1 from x.fy _,show (y.flat (b+e.sz+(x.sz+1))++[(⟨18,0,[],[],y.places (b+e.sz+(x.sz+1))⟩:Nod)]).length=y.sz+1 from y.fy _] at this;rw [Stm.sz,show b+(e.sz+(x.sz+1)+(y.sz+1)+1) - 1=b+(e.sz+(x.sz+1)+(y.sz+1)) by omega];exact this
  rw [e];rfl
 | .loop e x,b,hg,h=>by
  obtain ⟨h12,h3⟩:=Seg.app h;obtain ⟨h1,h2⟩:=Seg.app h12;rw [Ex.ax] at h2;obtain ⟨a1,a2⟩:=e.shp b hg.1 h1;obtain ⟨b1,b2⟩:=Bl.wc (x.shp _ hg.2) h2;have b3:cQ (ks (b+e.sz+x.sz))=3:=by rw [show b+e.sz+x.sz=b+e.sz+(x.sz+1) - 1 by omega];exact b2
  refine ⟨(a1.app b1).app (ShN.one (by simp [eQ,dY,a2,b3])),?_⟩;have e:ks (b+(Stm.loop e x).sz - 1)=14:=by
   have:=h3.1;rw [YP,Ex.ax,show (x.flat (b+e.sz)++[(⟨18,0,[],[],x.places (b+e.sz)⟩:Nod)]).length=x.sz+1 from x.fy _] at this;rw [Stm.sz,show b+(e.sz+(x.sz+1)+1) - 1=b+(e.sz+(x.sz+1)) by omega];exact this
  rw [e];rfl
 | .one k e,b,hg,h=>by
  obtain ⟨h1,h3⟩:=Seg.app h;obtain ⟨a1,a2⟩:=e.shp b hg.2 h1;refine ⟨a1.app (ShN.one (K8 (.inr hg.1) a2)),?_⟩;have e:ks (b+(Stm.one k e).sz - 1)=k:=by
   have:=h3.1;rw [Ex.ax] at this;rw [Stm.sz,show b+(e.sz+1) - 1=b+e.sz by omega];exact this
  rw [e];exact SQ (by have:=hg.1;omega)
 | .act o v ar,b,hg,h=>by
  obtain ⟨h12,h3⟩:=Seg.app h;obtain ⟨h1,h2⟩:=Seg.app h12;obtain ⟨a1,a2⟩:=ar.shp b hg.2.2 h1;have e8:ks (b+ar.sz)=8:=by have:=h2.1;rw [Exs.ax] at this;exact this
  refine ⟨(a1.app (ShN.one (Gw (.inl rfl) a2))).app (ShN.one ?_),?_⟩
  ·simp [eQ,dY,show b+ar.sz+1 - 1=b+ar.sz by omega,e8,cQ]
  ·have e:ks (b+(Stm.act o v ar).sz - 1)=17:=by
    have:=h3.1;rw [YP,Exs.ax] at this;rw [Stm.sz,show b+(ar.sz+1+1) - 1=b+(ar.sz+1) by omega];exact this
   rw [e];rfl
theorem Bl.shp {ks:Nat->Int}:∀(e:Bl) (b:Nat),e.good->Seg ks b (e.flat b)->ShN ks (e.flat b)/\uI ks 2 (e.places b)
 | .nil,b,_,_=>⟨fun a h=>by simp [Bl.flat] at h,uI.nil⟩
 | .cons e r,b,hg,h=>by
  obtain ⟨h1,h2⟩:=Seg.app h;rw [Stm.ax] at h2;obtain ⟨a1,a2⟩:=e.shp b hg.1 h1;obtain ⟨b1,b2⟩:=r.shp _ hg.2 h2;exact ⟨a1.app b1,uI.cons a2 b2⟩
end
theorem Bw {ks:Nat->Int}:∀(fs:List Fn) (b:Nat),(∀f∈fs,f.good)->Seg ks b (bV fs b)->ShN ks (bV fs b)/\∀k∈bodies fs b,ks k=18
 | [],b,_,_=>⟨fun a h=>by simp [bV] at h,fun k h=>by simp [bodies] at h⟩
 | f::fs,b,hg,h=>by
  obtain ⟨h1,h2⟩:=Seg.app h;rw [show (f.body.all b).length=f.sz from f.body.fy _] at h2;obtain ⟨a1,a2⟩:=Bl.wc (f.body.shp _ (hg f (by simp)).body) h1;obtain ⟨b1,b2⟩:=Bw fs _ (fun g hgm=>hg g (by simp [hgm])) h2;refine ⟨a1.app b1,fun k hk=>?_⟩
  rcases Y3.1 hk with rfl|hk
  ·have:=(Seg.app h1).2.1
   rw [Bl.ax] at this;exact this
  ·exact b2 k hk
theorem IW:∀(l pre:List Nod),Seg (fun k=>((pre++l).getD k default).kind) pre.length l
 | [],_=>trivial
 | x::l,pre=>by
  refine ⟨by simp [List.getD],?_⟩;have:=IW l (pre++[x]);simpa using this
theorem si:∀(fs:List Fn) (b:Nat),(oR fs b).map (·.body)=(bodies fs b).map fun (k:Nat)=>(k:Int)
 | [],_=>rfl
 | f::fs,b=>by simp [oR,bodies,si fs]
theorem VH (l:List Nod):(l.map Nod.nd).flatMap (·.of)=(ofs l).map fun (k:Nat)=>(k:Int):=by
 induction l with
 | nil=>rfl
 | cons x l ih=>
  rw [Zm,Z3,ih,show ofs (x::l)=x.of++ofs l by simp [ofs],ZO];rfl
theorem xw (l:List Nod) (k:Nat):cU (l.map Nod.nd) (k:Int)=(l.getD k default).kind:=by
 unfold cU;simp only [aaA,List.getD,ZB]
 cases l[k]?<;>rfl
theorem JU (l:List Nod) (x:Nod):dH (l.map Nod.nd) x.nd=eQ (fun k=>(l.getD k default).kind) x:=by
 unfold dH eQ;have e1:ct (l.map Nod.nd) x.nd=x.of.map fun k=>cQ ((l.getD k default).kind):=by
  simp only [ct,Nod.nd,aaq];refine List.map_congr_left fun k _=>?_;simp only [Function.comp,xw]
 have e2:cU (l.map Nod.nd) (x.nd.of.headD 0)=(l.getD (x.of.headD 0) default).kind:=by
  rw [<- xw]
  cases h:x.of<;>simp [Nod.nd,h]
 rw [e1,e2];rfl
theorem Bz {ns:List Nd}:∀{l:List Nod} {b:Nat},Low b l->(∀x∈l,dH ns x.nd=true)->ez ns b (l.map Nod.nd)=true
 | [],_,_,_=>rfl
 | x::l,b,⟨h1,h2⟩,h=>by
  simp only [Zm,ez,YL];refine ⟨?_,Bz h2 fun y hy=>h y (by simp [hy])⟩;simp only [mK,YL,Y1];refine ⟨fun k hk=>?_,h x (by simp)⟩;simp only [Nod.nd,Zk] at hk;obtain ⟨c,hc,rfl⟩:=hk;have:=h1 c hc;simp;omega
theorem count_cast (l:List Nat) (k:Nat):(l.map fun (i:Nat)=>(i:Int)).count (k:Int)=l.count k:=by
 induction l with
 | nil=>rfl
 | cons x l ih=>simp only [Zm,Zz,ih,beq_iff_eq,Int.natCast_inj]
theorem MY (x:List Dec×List Fn) (hg:∀f∈x.2,f.good):aY (Jk x)=true:=by
 have hs:=IW (bV x.2 0) [];obtain ⟨h1,h2⟩:=Bw x.2 0 hg hs;simp only [Z4] at h1 h2;have hlow:=zK x.2 0;have hperm:=rl x.2 0;simp only [aY,YL,Y1,Jk];refine ⟨⟨Bz hlow fun y hy=>?_,fun f hf=>?_⟩,fun k hk=>?_⟩
 ·rw [JU];exact h1 y hy
 ·have hb:f.body∈(oR x.2 0).map (·.body):=Zk.2 ⟨f,hf,rfl⟩
  rw [si] at hb;obtain ⟨k,hk,hkb⟩:=Zk.1 hb;have hlt:k<eO x.2:=by
   have:=(hperm.mem_iff (a:=k)).1 (Y7.2 (.inr hk));simpa using this
  simp only [gQ,YL,decide_eq_true_eq,<- hkb,xw,Y5,mI];exact ⟨⟨by omega,by omega⟩,h2 k hk⟩
 ·have hk:k<eO x.2:=by simpa [mI] using hk
  have e:eX (Jk x)=(ofs (bV x.2 0)++bodies x.2 0).map fun (i:Nat)=>(i:Int):=by
   simp only [eX,Jk,VH,si,ZO]
  have h3:=count_cast (ofs (bV x.2 0)++bodies x.2 0) k;rw [<- e,hperm.count_eq,List.count_range'] at h3;refine decide_eq_true ?_;refine Eq.trans h3 ?_;simp [hk]
end Uw.Tryz
namespace Uw.Tryz
open Go Uw
theorem JV (s:List UInt8) (h:(ofR s).2=0):aY (ofR s).1=true:=by
 unfold ofR at h ⊢
 split at h
 ·rename_i h1
  exact absurd h h1
 ·split at h
  ·cases h
  ·rename_i h1 h2
   rw [if_neg h1,if_neg h2]
   cases hp:vd (fD s).1 with
   | none=>rw [hp] at h;cases h
   | some x=>
    exact MY x ((DC.1 hp).good (Bh s)).2
theorem D8:∀(r:List Nd) (l:List Str),(fj r l).length<=l.length+r.length
 | [],l=>by rw [fj];simp
 | x::r,l=>by
  rw [fj];refine Zp (D8 r _) ?_
  split
  ·simp;omega
  ·simp
theorem D9 (p:Pg):∀(l:List Str) (i:Nat),∀b∈hZ p i l,b.ins.length<1000000
 | [],_,b,h=>by cases h
 | s::l,i,b,h=>by
  rw [hZ] at h
  rcases Y3.1 h with rfl|h
  ·exact (by decide:30<1000000)
  ·exact D9 p l _ b h
theorem VI (p:Pg) (hp:Lim p):(ofP p).1.ae.length<1000000/\(ofP p).1.cells.length<1000000/\∀f∈(ofP p).1.ae,f.ins.length<1000000:=by
 have hno:BZ.ae.length<1000000/\BZ.cells.length<1000000/\∀f∈BZ.ae,f.ins.length<1000000:=⟨by decide,by decide,fun f h=>by cases h⟩
 by_cases hw:jT p=0
 ·cases ha:(dJ p 0 p.ae).any fun b=>decide (400<b.ins.length) with
  | true=>rw [ofP,if_neg (by simp [hw]),ha];exact hno
  | false=>
   rw [ofP,if_neg (by simp [hw]),ha];have h1:=hp.nodes;have h2:=hp.ae;have h3:=hp.decls;have h4:(cS p).length<=0+p.nodes.length:=D8 p.nodes [];refine ⟨?_,?_,fun f hf=>?_⟩
   ·show (dJ p 0 p.ae++hZ p p.ae.length (cS p)).length<_
    rw [YP,jn,qb];omega
   ·show ((p.decls.filter _).map _).length<_
    rw [Y5];exact aa6 (abC _ _) (by omega)
   ·rcases Y7.1 (show f∈dJ p 0 p.ae++hZ p p.ae.length (cS p) from hf) with hf|hf
    ·have:=Zl.1 ha f hf
     simp at this;omega
    ·exact D9 p _ _ f hf
 ·rw [ofP,if_pos hw];exact hno
theorem Gx (R:List (List Dat)):∃F:Nat->List (List Dat),F 0=[]/\(∀k,k<=R.length->(F k).length=k)/\(∀(k:Nat) (h:k<R.length),F k++[R[k]]=F (k+1))/\((F R.length).drop 0).take R.length=R:=by
 refine ⟨fun k=>R.take k,rfl,fun k h=>?_,fun k h=>?_,?_⟩
 ·rw [Y8];omega
 ·exact (YM h).symm
 ·simp
theorem VJ (was is x:Str):bm P0 fF [.d (.str x),.ptr 0 0,.ptr 1 0] [.var [.d (.str was)],.var [.d (.str is)]] (.d (.str (cm was is x))) [.var [.d (.str was)],.var [.d (.str is)]]:=by
 by_cases h:x=was
 ·subst h
  have e:cm x is x=is:=if_pos rfl;rw [e];refine aJ iO rfl ?_
  repeat refine aw ?_
  exact aI 2 rfl rfl (by exact Uw.wM)
 ·have e:cm was is x=x:=if_neg h
  rw [e];refine aJ iO rfl ?_
  repeat refine aw ?_
  exact aI 2 rfl rfl (by exact Uw.wM)
abbrev lqR:fw:=[(8,.d (I 0)),(7,.ptr 2 0),(5,.ptr 1 0),(4,.ptr 0 0),(6,.d (.bool false))]
abbrev lqH (p:Pg) (was is:Str):Heap:=[(2,pgV p),(1,.var [.d (.str is)]),(0,.var [.d (.str was)])]
abbrev X9 (p:Pg) (was is:Str) (k:Nat):St:=⟨(50,.d (I k))::(49,.d (I ((p.decls.map bM).length:Nat)))::(48,.d (.slice 3 (p.decls.map bM) false))::lqR,lqH p was is,3,[],0⟩
abbrev WZ:fw:=(12,.func fF [] [.ptr 0 0,.ptr 1 0])::(11,.ptr 3 0)::lqR
abbrev W0 (p:Pg) (k:Nat):fw:=(73,.d (I k))::(72,.d (I ((p.ae.map fuL).length:Nat)))::(71,.d (.slice 3 (p.ae.map fuL) false))::WZ
abbrev W2 (p:Pg) (was is:Str) (F:List (List Dat)) (k:Nat):Heap:=(4,.arr 3 F)::(3,.var [.d (.slice 3 (p.decls.map bM) false),.ref 4 0 0 k,.d .nil])::lqH p was is
abbrev VK (p:Pg) (was is:Str) (F:List (List Dat)) (k:Nat):St:=⟨W0 p k,W2 p was is F k,5,[],0⟩
abbrev VL (p:Pg) (was is:Str) (F:List (List Dat)) (k:Nat) (gn:Str) (ga:List Str) (gb:Int) (G:List (List Dat)) (j:Nat):St:=⟨(80,.d (I j))::(79,.d (I ((rowT ga).length:Nat)))::(78,.d (.slice 1 (rowT ga) false))::(15,.ref 6 0 0 j)::(14,.ptr 5 0)::W0 p k,(6,.arr 1 G)::(5,.var [.d (.str gn),.d (.slice 1 (rowT ga) false),.d (I gb)])::W2 p was is F k,7,[],0⟩
abbrev VM (p:Pg) (was is:Str) (F:List (List Dat)) (n:Nat) (N:List (List Dat)) (k:Nat):St:=⟨(110,.d (I k))::(109,.d (I ((p.nodes.map ndL).length:Nat)))::(108,.d (bZ p.nodes))::WZ,(5,.arr 5 N)::(4,.arr 3 F)::(3,.var [.d (.slice 3 (p.decls.map bM) false),.ref 4 0 0 n,.ref 5 0 0 k])::lqH p was is,6,[],0⟩
end Uw.Tryz
