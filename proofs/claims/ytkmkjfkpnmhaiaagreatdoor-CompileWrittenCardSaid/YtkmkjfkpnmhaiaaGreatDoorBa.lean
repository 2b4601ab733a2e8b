/- Ba: Ga Gb Gc Gd Ge Gf Cy Cz Dc Dd De Df Dg Dh Di Gg Gh Gm Fd Fe Ha Hb Px Ho Ia (merged by merge2.py from the working texts). -/
import Derived.Test.YtkmkjfkpnmhaiaaGreatDoorB9
import Derived.Test.YtkmkjfkpnmhaiaaGreatDoorB8
import Derived.Test.YtkmkjfkpnmhaiaaGreatDoorB5
import Derived.Test.YtkmkjfkpnmhaiaaGreatDoorB4
set_option maxRecDepth 20000
set_option maxHeartbeats 4000000
set_option linter.unusedSimpArgs false
set_option linter.unnecessarySimpa false
set_option linter.unusedVariables false
set_option linter.unusedSectionVars false
namespace Uw.Tryz
open Go Uw
abbrev i2 (o a:Int):In4:=⟨o,a,0,0⟩
theorem YU {l:List In4} {i:Nat} {x:In4} (h:l[i]? = some x):(l.map in4)[i]? = some (in4 x):=by rw [acg,h];rfl
theorem y6 {l:List Int} {i:Nat} {c:Int} (h:l[i]? = some c):(l.map fun i=>[I i])[((i:Nat):Int).toNat]? = some [I c]:=by
 rw [acM,acg,h];rfl
theorem Rq {l:List Int} {i:Nat} {c:Int} (h:l[i]? = some c):(i:Int)<((l.map fun i=>[I i]).length:Nat):=by
 have:=(aa0.1 h).1;rw [aaT];omega
theorem G0 (M:Mk) (l:List In4) (i:Nat) (o a:Int):mkB M (l.set i (i2 o a))=[.var [.d (cv M.ns),.hnd 1,.hnd 2,.hnd 3,.d M.pd,.hnd 4,.ref 5 l.length 0 l.length],.map none M.te,.map none M.fe,.map none M.he,.map none M.le,.mt 4 l.length ((l.map in4).set (0+((i:Nat):Int).toNat) (setAt [I o,I 0,I 0,I 0] (0+1) [I a]))]:=by
 simp [ac7,in4,i2,setAt]
theorem G1 {l:List In4} {i:Nat} {o:Int} (h:l[i]? = some (i2 o 0)):(l.map in4)[0+((i:Nat):Int).toNat]? = some [I o,I 0,I 0,I 0]:=by
 have hr:=YU h;simpa [in4] using hr
theorem CQ (M:Mk) (l l1 l3:List In4) (xk xn:Int) (xs xt:Str) (xo:List Int) (c0 c1:Int) (h0:xo[0]? = some c0) (h1:xo[1]? = some c1)
  (hA:aE P0 aY [.ptr 0 0,.d (I c0)] (mkB M l) (.tuple []) (mkB M l1))
  (hB:aE P0 aY [.ptr 0 0,.d (I c1)] (mkB M (l1++[(i2 16 0)])) (.tuple []) (mkB M l3))
  (h16:l3[l1.length]? = some (i2 16 0)) (hl1:l1.length<1000000) (hl3:l3.length+1<1000000) :
  aE P0 iG [.ptr 0 0,ndC xk xn xs xt xo] (mkB M l) (.tuple []) (mkB M ((l3++[i2 15 (l.length:Nat)]).set l1.length (i2 16 ((l3++[i2 15 (l.length:Nat)]).length:Nat)))):=by
 have y8:=bW M l1 hl1 16 0 0 0;have CU:=bW M l3 (by omega) 15 (l.length:Nat) 0 0;have hlt:l1.length<l3.length:=(aa0.1 h16).1;have h17:(l3++[i2 15 (l.length:Nat)])[l1.length]? = some (i2 16 0):=by rw [aaY hlt];exact h16
 have hl4:(l3++[i2 15 (l.length:Nat)]).length=l3.length+1:=by simp
 generalize (l3++[i2 15 (l.length:Nat)])=l4 at *;have hr:=G1 h17;rw [G0];have he0:=y6 h0;have he1:=y6 h1;have hlx:=Rq h1;refine ax rX rfl ?_
 repeat refine aw ?_
 refine ad 7 [0,1,2,3,4,5] hA ?_
 repeat refine aw ?_
 refine dK fl rfl ?_
 repeat refine aw ?_
 refine ad 9 [0,1,2,3,4,5] y8 ?_
 repeat refine aw ?_
 refine ef rfl rfl ?_
 repeat refine aw ?_
 refine ad 9 [0,1,2,3,4,5] hB ?_
 repeat refine aw ?_
 refine ad 9 [0,1,2,3,4,5] CU ?_
 repeat refine aw ?_
 refine dK eo rfl ?_
 repeat refine aw ?_
 refine wb rfl rfl ?_
 repeat refine aw ?_
 refine bG 6 rfl rfl ?_;exact Uw.wM
end Uw.Tryz
namespace Uw.Tryz
open Go Uw
theorem xB (M:Mk) (l l1 l3:List In4) (xk xn:Int) (xs xt:Str) (xo:List Int) (c0 c1:Int) (h0:xo[0]? = some c0) (h1:xo[1]? = some c1) (hxo:xo.length=2)
  (hA:aE P0 aY [.ptr 0 0,.d (I c0)] (mkB M l) (.tuple []) (mkB M l1))
  (hB:aE P0 aY [.ptr 0 0,.d (I c1)] (mkB M (l1++[(i2 16 0)])) (.tuple []) (mkB M l3))
  (h16:l3[l1.length]? = some (i2 16 0)) (hl1:l1.length<1000000) (hl3:l3.length<1000000) :
  aE P0 eU [.ptr 0 0,ndC xk xn xs xt xo] (mkB M l) (.tuple []) (mkB M (l3.set l1.length (i2 16 (l3.length:Nat)))):=by
 have y8:=bW M l1 hl1 16 0 0 0;have hlt:l1.length<l3.length:=(aa0.1 h16).1;have hr:=G1 h16;rw [G0];have he0:=y6 h0;have he1:=y6 h1;have hlx:(xo.map fun i=>[I i]).length=2:=by simpa using hxo
 refine ax jP rfl ?_
 repeat refine aw ?_
 refine ad 7 [0,1,2,3,4,5] hA ?_
 repeat refine aw ?_
 refine dK fl rfl ?_
 repeat refine aw ?_
 refine ad 9 [0,1,2,3,4,5] y8 ?_
 repeat refine aw ?_
 refine ef rfl rfl ?_
 repeat refine aw ?_
 refine ad 9 [0,1,2,3,4,5] hB ?_
 repeat refine aw ?_
 refine dK eo rfl ?_
 repeat refine aw ?_
 refine wb rfl rfl ?_
 repeat refine aw ?_
 refine aF 6 rfl rfl ?_;exact Uw.wM
theorem xC (M:Mk) (l l1 l3 l4 l6:List In4) (xk xn:Int) (xs xt:Str) (xo:List Int) (c0 c1 c2:Int) (h0:xo[0]? = some c0) (h1:xo[1]? = some c1) (h2:xo[2]? = some c2)
  (hA:aE P0 aY [.ptr 0 0,.d (I c0)] (mkB M l) (.tuple []) (mkB M l1))
  (hB:aE P0 aY [.ptr 0 0,.d (I c1)] (mkB M (l1++[(i2 16 0)])) (.tuple []) (mkB M l3))
  (hl4:l4=l3++[i2 15 0])
  (hC:aE P0 aY [.ptr 0 0,.d (I c2)] (mkB M (l4.set l1.length (i2 16 (l4.length:Nat)))) (.tuple []) (mkB M l6))
  (h16:l3[l1.length]? = some (i2 16 0)) (h15:l6[l3.length]? = some (i2 15 0)) (hl1:l1.length<1000000) (hl3:l3.length<1000000) (hl6:l6.length<1000000) :
  aE P0 eU [.ptr 0 0,ndC xk xn xs xt xo] (mkB M l) (.tuple []) (mkB M (l6.set l3.length (i2 15 (l6.length:Nat)))):=by
 have y8:=bW M l1 hl1 16 0 0 0;have CU:=bW M l3 hl3 15 0 0 0;have hlt:l1.length<l3.length:=(aa0.1 h16).1;have h17:l4[l1.length]? = some (i2 16 0):=by rw [hl4,aaY hlt];exact h16
 have hn4:l4.length=l3.length+1:=by rw [hl4];simp
 rw [<- hl4] at CU;clear hl4;have Z4:l3.length<l6.length:=(aa0.1 h15).1;have hr:=G1 h17;have hr6:=G1 h15;rw [G0];rw [G0] at hC;have he0:=y6 h0;have he1:=y6 h1;have he2:=y6 h2;have hlx:=Rq h2;refine ax jP rfl ?_
 repeat refine aw ?_
 refine ad 7 [0,1,2,3,4,5] hA ?_
 repeat refine aw ?_
 refine dK fl rfl ?_
 repeat refine aw ?_
 refine ad 9 [0,1,2,3,4,5] y8 ?_
 repeat refine aw ?_
 refine ef rfl rfl ?_
 repeat refine aw ?_
 refine ad 9 [0,1,2,3,4,5] hB ?_
 repeat refine aw ?_
 refine dK fl rfl ?_
 repeat refine aw ?_
 refine ad 11 [0,1,2,3,4,5] CU ?_
 repeat refine aw ?_
 refine ef rfl rfl ?_
 repeat refine aw ?_
 refine dK eo rfl ?_
 repeat refine aw ?_
 refine wb rfl rfl ?_
 repeat refine aw ?_
 refine ad 11 [0,1,2,3,4,5] hC ?_
 repeat refine aw ?_
 refine dK eo rfl ?_
 repeat refine aw ?_
 refine wb rfl rfl ?_
 repeat refine aw ?_
 refine bG 6 rfl rfl ?_;exact Uw.wM
end Uw.Tryz
namespace Uw.Tryz
open Go Uw
theorem XC (M:Mk) (l:List In4) (xk xn:Int) (xs xt:Str) (xo:List Int) (b:Bool) (tk tn:Int) (hth:UR M xs b tk tn) (hk:xk<1\/17<xk\/xk=13\/xk=14):aE P0 aZ [.ptr 0 0,ndC xk xn xs xt xo] (mkB M l) (.tuple []) (mkB M l):=by
 have k1:¬xk=1:=by omega
 have k2:¬xk=2:=by omega
 have k3:¬xk=3:=by omega
 have k4:¬xk=4:=by omega
 have k5:¬xk=5:=by omega
 have k6:¬xk=6:=by omega
 have k7:¬xk=7:=by omega
 have k8:¬xk=8:=by omega
 have k9:¬xk=9:=by omega
 have k10:¬xk=10:=by omega
 have k11:¬xk=11:=by omega
 have k12:¬xk=12:=by omega
 have k15:¬xk=15:=by omega
 have k16:¬xk=16:=by omega
 have k17:¬xk=17:=by omega
 clear hk
 rcases hth with ⟨h,rfl,rfl,rfl⟩|⟨h,rfl⟩
 ·refine ax bn rfl ?_
  repeat refine aw ?_
  refine cm (lsS M l xk xn xs xt xo false 0 0) ?_ ?_
  ·repeat (first|refine aw ?_|refine m1 ?_)
   exact aS (.inl ⟨rfl,by exact Uw.wM⟩)
  repeat (first|refine aw ?_|refine m1 ?_)
  refine bG 6 rfl rfl ?_;exact Uw.wM
 ·refine ax bn rfl ?_
  repeat refine aw ?_
  refine cm (lsS M l xk xn xs xt xo true tk tn) ?_ ?_
  ·repeat (first|refine aw ?_|refine m1 ?_)
   exact aS (.inl ⟨rfl,by exact Uw.wM⟩)
  repeat (first|refine aw ?_|refine m1 ?_)
  refine bG 6 rfl rfl ?_;exact Uw.wM
theorem CV (M:Mk) (N:Nms) (hM:XA M N) (l:List In4) (hl:l.length<1000000) (x:Nd) (hxo:x.of.length<1000000):aE P0 aZ [.ptr 0 0,ndC x.kind x.n x.name x.name2 x.of] (mkB M l) (.tuple []) (mkB M (l++ku N x)):=by
 obtain ⟨xk,xn,xs,xt,xo⟩:=x;show aE P0 aZ [.ptr 0 0,ndC xk xn xs xt xo] (mkB M l) (.tuple []) (mkB M (l++ku N ⟨xk,xn,xs,xt,xo⟩));have hxo:xo.length<1000000:=hxo;have zr:=hM.things xs;have hfu:=hM.ag xt;have hhe:=hM.helps xt;have hlo:=hM.BM xs;have hol:(xo.map fun i=>[I i]).length=xo.length:=by simp
 obtain ⟨b,tk,tn,hth,htn⟩:∃b tk tn,UR M xs b tk tn/\tn=((N.things xs).getD (0,0)).2:=by
  cases ht:N.things xs with
  | none=>rw [ht] at zr;exact ⟨false,0,0,.inl ⟨zr,rfl,rfl,rfl⟩,rfl⟩
  | some t=>rw [ht] at zr;exact ⟨true,t.1,t.2,.inr ⟨zr,rfl⟩,rfl⟩
 by_cases k1:xk=1
 ·subst k1;exact yu M l hl _ xn xs xt xo hxo b tk tn hth _ (.inl ⟨rfl,rfl⟩)
 by_cases k2:xk=2
 ·subst k2
  cases ht:N.things xs with
  | none=>
   rw [ht] at zr;have e:ku N ⟨2,xn,xs,xt,xo⟩=[⟨2,(N.BM xs).getD (-1),0,0⟩]:=by simp [ku,ht,Kp]
   rw [e];exact UT M l hl xn xs xt xo hxo zr _ hlo
  | some t=>
   rw [ht] at zr;have e:ku N ⟨2,xn,xs,xt,xo⟩=[⟨4,t.2,0,0⟩]:=by simp [ku,ht]
   rw [e];exact US M l hl xn xs xt xo hxo _ _ zr
 by_cases k9:xk=9
 ·subst k9
  cases ht:N.things xs with
  | none=>
   rw [ht] at zr;have e:ku N ⟨9,xn,xs,xt,xo⟩=[⟨3,(N.BM xs).getD (-1),0,0⟩]:=by simp [ku,ht,Kp]
   rw [e];exact UV M l hl xn xs xt xo hxo zr _ hlo
  | some t=>
   rw [ht] at zr;have e:ku N ⟨9,xn,xs,xt,xo⟩=[⟨5,t.2,0,0⟩]:=by simp [ku,ht]
   rw [e];exact UU M l hl xn xs xt xo hxo _ _ zr
 by_cases hk:3<=xk/\xk<=7
 ·have e:ku N ⟨xk,xn,xs,xt,xo⟩=[⟨xk+3,0,0,0⟩]:=by simp [ku,k1,k2,hk]
  rw [e];exact XB M l hl xk xn xs xt xo hxo b tk tn hth hk
 by_cases k8:xk=8
 ·subst k8
  have e:ku N ⟨8,xn,xs,xt,xo⟩=[⟨11,BU xt,tn,((xo.map fun i=>[I i]).length:Nat)⟩]:=by simp [ku,htn]
  rw [e];exact yu M l hl _ xn xs xt xo hxo b tk tn hth _ (.inr (.inr (.inr (.inr (.inr ⟨rfl,rfl⟩)))))
 by_cases k10:xk=10
 ·subst k10
  have e:ku N ⟨10,xn,xs,xt,xo⟩=[⟨13,N.ag xt,((xo.map fun i=>[I i]).length:Nat),if xs=[] then -1 else (N.BM xs).getD (-1)⟩]:=by simp [ku,LM,Kp]
  rw [e]
  rcases hth with ⟨h,rfl,rfl,rfl⟩|⟨h,rfl⟩
  ·exact Rl M l hl xn xs xt xo hxo h _ hfu _ hlo
  ·exact Rm M l hl xn xs xt xo hxo _ _ h _ hfu _ hlo
 by_cases k11:xk=11
 ·subst k11
  have e:ku N ⟨11,xn,xs,xt,xo⟩=[⟨13,N.helps xt,2,if xs=[] then -1 else (N.BM xs).getD (-1)⟩]:=by simp [ku,LM,Kp]
  rw [e]
  rcases hth with ⟨h,rfl,rfl,rfl⟩|⟨h,rfl⟩
  ·exact Rn M l hl xn xs xt xo hxo h _ hhe _ hlo
  ·exact Ro M l hl xn xs xt xo hxo _ _ h _ hhe _ hlo
 by_cases k12:xk=12
 ·subst k12;exact yu M l hl _ xn xs xt xo hxo b tk tn hth _ (.inr (.inl ⟨rfl,rfl⟩))
 by_cases k15:xk=15
 ·subst k15;exact yu M l hl _ xn xs xt xo hxo b tk tn hth _ (.inr (.inr (.inl ⟨rfl,rfl⟩)))
 by_cases k16:xk=16
 ·subst k16;exact yu M l hl _ xn xs xt xo hxo b tk tn hth _ (.inr (.inr (.inr (.inl ⟨rfl,rfl⟩))))
 by_cases k17:xk=17
 ·subst k17;exact yu M l hl _ xn xs xt xo hxo b tk tn hth _ (.inr (.inr (.inr (.inr (.inl ⟨rfl,rfl⟩)))))
 have e:ku N ⟨xk,xn,xs,xt,xo⟩=[]:=by simp [ku,k1,k2,hk,k8,k9,k10,k11,k12,k15,k16,k17]
 rw [e,aa6];exact XC M l xk xn xs xt xo b tk tn hth (by omega)
end Uw.Tryz
namespace Uw.Tryz
open Go Uw
theorem pW (g:Int->Nat->List In4):∀(r r' : List Int) (a:Nat),layAll g (r++r') a=layAll g r a++layAll g r' (a+(layAll g r a).length)
 | [],r',a=>by simp [layAll]
 | k::r,r',a=>by
  rw [aaE,layAll,layAll,pW g r r' _,aaD,aaw,abw]
theorem Jc (g:Int->Nat->List In4) (r:List Int) (j:Nat) (c:Int) (h:r[j]? = some c) (a:Nat):layAll g (r.take (j+1)) a=layAll g (r.take j) a++g c (a+(layAll g (r.take j) a).length):=by
 have e:r.take (j+1)=r.take j++[c]:=by rw [ac6,h];rfl
 rw [e,pW];simp [layAll]
theorem NM (g:Int->Nat->List In4) (r:List Int) (j:Nat) (a:Nat):(layAll g (r.take j) a).length<=(layAll g r a).length:=by
 have e:layAll g r a=layAll g (r.take j++r.drop j) a:=by rw [abM]
 rw [e,pW,aaw];omega
theorem set_mid (l1 B:List In4) (x y:In4):(l1++x::B).set l1.length y=l1++y::B:=by simp [List.set_append]
theorem UW (l1 B:List In4) (x:In4):(l1++x::B)[l1.length]? = some x:=by simp
theorem LV (M:Mk) (l l' : List In4) (k:Nat) (xn:Int) (xs xt:Str) (xo:List Int) (hk:(k:Int)<((M.ns.map ndL).length:Nat)) (he:(M.ns.map ndL)[(k:Int).toNat]? = some [I 13,I xn,.str xs,.str xt,bN xo])
  (h:aE P0 eU [.ptr 0 0,ndC 13 xn xs xt xo] (mkB M l) (.tuple []) (mkB M l')):aE P0 aY [.ptr 0 0,.d (I k)] (mkB M l) (.tuple []) (mkB M l'):=by
 refine ax gZ rfl ?_
 repeat refine aw ?_
 refine ad 7 [0,1,2,3,4,5] h ?_
 repeat refine aw ?_
 refine aF 6 rfl rfl ?_;exact Uw.wM
theorem UX (M:Mk) (l l' : List In4) (k:Nat) (xn:Int) (xs xt:Str) (xo:List Int) (hk:(k:Int)<((M.ns.map ndL).length:Nat)) (he:(M.ns.map ndL)[(k:Int).toNat]? = some [I 14,I xn,.str xs,.str xt,bN xo])
  (h:aE P0 iG [.ptr 0 0,ndC 14 xn xs xt xo] (mkB M l) (.tuple []) (mkB M l')):aE P0 aY [.ptr 0 0,.d (I k)] (mkB M l) (.tuple []) (mkB M l'):=by
 refine ax gZ rfl ?_
 repeat refine aw ?_
 refine ad 7 [0,1,2,3,4,5] h ?_
 repeat refine aw ?_
 refine aF 6 rfl rfl ?_;exact Uw.wM
theorem UY (M:Mk) (l' : List In4) (L:Nat->List In4) (k:Nat) (xk xn:Int) (xs xt:Str) (xo:List Int) (k13:¬xk=13) (k14:¬xk=14) (hxo:xo.length<1000000) (hk:(k:Int)<((M.ns.map ndL).length:Nat)) (he:(M.ns.map ndL)[(k:Int).toNat]? = some [I xk,I xn,.str xs,.str xt,bN xo])
  (hN:∀(j:Nat) (c:Int),xo[j]? = some c->aE P0 aY [.ptr 0 0,.d (I c)] (mkB M (L j)) (.tuple []) (mkB M (L (j+1))))
  (h:aE P0 aZ [.ptr 0 0,ndC xk xn xs xt xo] (mkB M (L xo.length)) (.tuple []) (mkB M l')):aE P0 aY [.ptr 0 0,.d (I k)] (mkB M (L 0)) (.tuple []) (mkB M l'):=by
 have hol:(xo.map fun i=>[I i]).length=xo.length:=by simp
 refine ax gZ rfl ?_
 repeat refine aw ?_
 refine dp xo.length (fun j=>⟨[(29,.d (I j)),(28,.d (I ((xo.map fun i=>[I i]).length:Nat))),(27,.d (bN xo)),(4,.ptr 6 0),(0,.ptr 0 0)],(6,.var [.d (I xk),.d (I xn),.d (.str xs),.d (.str xt),.d (bN xo)])::bz 0 (mkB M (L j)),7,[],6⟩) (fun _=>True) (by exact Uw.wM) ?_ ?_
 ·intro _
  repeat refine aw ?_
  refine aJ ?_
  repeat refine aw ?_
  refine ad 7 [0,1,2,3,4,5] h ?_
  repeat refine aw ?_
  refine bG 6 rfl rfl ?_;exact Uw.wM
 ·intro j hj hpre
  obtain ⟨c,hc⟩:∃c,xo[j]? = some c:=⟨xo[j],aaU hj⟩
  have hn:=hN j c hc;have hec:=y6 hc
  repeat refine aw ?_
  refine ad 7 [0,1,2,3,4,5] hn ?_
  repeat refine aw ?_
  exact aX j trivial (by exact Uw.wM)
end Uw.Tryz
namespace Uw.Tryz
open Go Uw
theorem CW (M:Mk) (N:Nms) (hM:XA M N) (hL:Lays M.ns) (hof:∀(i:Nat) (h:i<M.ns.length),M.ns[i].of.length<1000000) (k:Nat):k<M.ns.length->∀l:List In4,l.length+(lay M.ns N (k:Int) l.length).length<1000000->aE P0 aY [.ptr 0 0,.d (I k)] (mkB M l) (.tuple []) (mkB M (l++lay M.ns N (k:Int) l.length)):=by
 induction k using Nat.strongRecOn with
 | ind k ih=>
  intro hk l hl;have hkl:(k:Int)<((M.ns.map ndL).length:Nat):=by simpa using hk
  have he:(M.ns.map ndL)[(k:Int).toNat]? = some (ndL M.ns[k]):=by simp [hk]
  have hc:∀c∈M.ns[k].of,∀l:List In4,l.length+(lay M.ns N c l.length).length<1000000->aE P0 aY [.ptr 0 0,.d (I c)] (mkB M l) (.tuple []) (mkB M (l++lay M.ns N c l.length)):=fun c hcm l=>by
   obtain ⟨h1,h2⟩:=hL.low k hk c hcm;obtain ⟨m,rfl⟩:∃m:Nat,c=(m:Int):=⟨c.toNat,by omega⟩
   exact ih m (by omega) (by omega) l
  have h13:=hL.ifs k hk;have h14:=hL.GK k hk;have hxo:=hof k hk;have hq:=Rh N hL k hk l.length;have hown:∀l:List In4,l.length<1000000->_:=fun l hl=>CV M N hM l hl M.ns[k] hxo;rw [hq] at hl ⊢;clear hq ih;generalize M.ns[k]=x at *;obtain ⟨xk,xn,xs,xt,xo⟩:=x;have he:(M.ns.map ndL)[(k:Int).toNat]? = some [I xk,I xn,.str xs,.str xt,bN xo]:=he;simp only at hc h13 h14 hxo hl ⊢;have hown:∀l:List In4,l.length<1000000->aE P0 aZ [.ptr 0 0,ndC xk xn xs xt xo] (mkB M l) (.tuple []) (mkB M (l++ku N ⟨xk,xn,xs,xt,xo⟩)):=hown;by_cases k13:xk=13
  ·have h13:=h13 k13
   simp only [if_pos k13] at hl ⊢;subst k13;have h0:xo[0]? = some (xo.getD 0 0):=by simp [List.getD,show 0<xo.length by omega]
   have h1:xo[1]? = some (xo.getD 1 0):=by simp [List.getD,show 1<xo.length by omega]
   have hA:=hc _ (aaR h0) l;have hB:=hc _ (aaR h1);generalize hAA:lay M.ns N (xo.getD 0 0) l.length=A at *;have hB:=hB ((l++A)++[i2 16 0]);rw [show ((l++A)++[i2 16 0]).length=l.length+A.length+1 by simp<;>omega] at hB;generalize hBB:lay M.ns N (xo.getD 1 0) (l.length+A.length+1)=B at *;by_cases h3:xo.length<3
   ·simp only [if_pos h3,aaw,aaA] at hl ⊢
    have hs:=xB M l (l++A) ((l++A)++[i2 16 0]++B) 13 xn xs xt xo _ _ h0 h1 (by omega) (hA (by omega)) (hB (by omega)) (by simp) (by simp<;>omega) (by simp<;>omega);rw [aaD (l++A),List.singleton_append,set_mid] at hs;rw [aaD] at hs;have e:((l++A++i2 16 0::B).length:Int)=((l.length+A.length+1+B.length:Nat):Int):=by simp<;>omega
    rw [e] at hs;exact LV M l _ k xn xs xt xo hkl he hs
   ·simp only [if_neg h3,aaw,aaA] at hl ⊢
    have h2:xo[2]? = some (xo.getD 2 0):=by simp [List.getD,show 2<xo.length by omega]
    have hC:=hc _ (aaR h2);have hC:=hC (l++A++i2 16 ((l.length+A.length+1+B.length+1:Nat):Int)::(B++[i2 15 0]));have eC:(l++A++i2 16 ((l.length+A.length+1+B.length+1:Nat):Int)::(B++[i2 15 0])).length=l.length+A.length+1+B.length+1:=by simp<;>omega
    rw [eC] at hC;generalize hCC:lay M.ns N (xo.getD 2 0) (l.length+A.length+1+B.length+1)=C at *;have e3:l++A++[i2 16 0]++B++[i2 15 0]=l++A++i2 16 0::(B++[i2 15 0]):=by simp
    have hs:=xC M l (l++A) ((l++A)++[i2 16 0]++B) (l++A++i2 16 0::(B++[i2 15 0])) ((l++A++i2 16 ((l.length+A.length+1+B.length+1:Nat):Int)::(B++[i2 15 0]))++C) 13 xn xs xt xo _ _ _ h0 h1 h2 (hA (by omega)) (hB (by omega)) e3.symm
     (by
      rw [set_mid];have e4:((l++A++i2 16 0::(B++[i2 15 0])).length:Int)=((l.length+A.length+1+B.length+1:Nat):Int):=by simp<;>omega
      rw [e4];exact hC (by omega)) (by simp) ?_ (by simp<;>omega) (by simp<;>omega) (by simp<;>omega)
    ·have e5:((l++A++i2 16 ((l.length+A.length+1+B.length+1:Nat):Int)::(B++[i2 15 0]))++C)=(l++A++i2 16 ((l.length+A.length+1+B.length+1:Nat):Int)::B)++i2 15 0::C:=by simp
     have e6:((l++A)++[i2 16 0]++B).length=(l++A++i2 16 ((l.length+A.length+1+B.length+1:Nat):Int)::B).length:=by simp<;>omega
     rw [e5,e6,set_mid] at hs;have e7:(((l++A++i2 16 ((l.length+A.length+1+B.length+1:Nat):Int)::B)++i2 15 0::C).length:Int)=((l.length+A.length+1+B.length+1+C.length:Nat):Int):=by simp<;>omega
     rw [e7] at hs;refine LV M l _ k xn xs xt xo hkl he ?_;simpa using hs
    ·have e5:((l++A++i2 16 ((l.length+A.length+1+B.length+1:Nat):Int)::(B++[i2 15 0]))++C)=(l++A++i2 16 ((l.length+A.length+1+B.length+1:Nat):Int)::B)++i2 15 0::C:=by simp
     have e6:((l++A)++[i2 16 0]++B).length=(l++A++i2 16 ((l.length+A.length+1+B.length+1:Nat):Int)::B).length:=by simp<;>omega
     rw [e5,e6];exact UW _ _ _
  by_cases k14:xk=14
  ·have h14:=h14 k14
   simp only [if_neg k13,if_pos k14] at hl ⊢;clear k13;subst k14;have h0:xo[0]? = some (xo.getD 0 0):=by simp [List.getD,show 0<xo.length by omega]
   have h1:xo[1]? = some (xo.getD 1 0):=by simp [List.getD,show 1<xo.length by omega]
   have hA:=hc _ (aaR h0) l;have hB:=hc _ (aaR h1);generalize hAA:lay M.ns N (xo.getD 0 0) l.length=A at *;have hB:=hB ((l++A)++[i2 16 0]);rw [show ((l++A)++[i2 16 0]).length=l.length+A.length+1 by simp<;>omega] at hB;generalize hBB:lay M.ns N (xo.getD 1 0) (l.length+A.length+1)=B at *;simp only [aaw,aaA,aa3] at hl;have hs:=CQ M l (l++A) ((l++A)++[i2 16 0]++B) 14 xn xs xt xo _ _ h0 h1 (hA (by omega)) (hB (by omega)) (by simp) (by simp<;>omega) (by simp<;>omega);have e5:(l++A)++[i2 16 0]++B++[i2 15 (l.length:Nat)]=(l++A)++i2 16 0::(B++[i2 15 (l.length:Nat)]):=by simp
   rw [e5,set_mid] at hs;have e7:(((l++A)++i2 16 0::(B++[i2 15 (l.length:Nat)])).length:Int)=((l.length+A.length+1+B.length+1:Nat):Int):=by simp<;>omega
   rw [e7] at hs;refine UX M l _ k xn xs xt xo hkl he ?_;simpa using hs
  simp only [if_neg k13,if_neg k14,aaw] at hl ⊢;have ho:(ku N ⟨xk,xn,xs,xt,xo⟩).length=0\/0<(ku N ⟨xk,xn,xs,xt,xo⟩).length:=by omega
  have hlen:l.length+(layAll (lay M.ns N) xo l.length).length<1000000:=by omega
  have hs:=UY M (l++layAll (lay M.ns N) xo l.length++ku N ⟨xk,xn,xs,xt,xo⟩) (fun j=>l++layAll (lay M.ns N) (xo.take j) l.length) k xk xn xs xt xo k13 k14 hxo hkl he ?_ ?_
  ·simp only [List.take_zero,layAll,aa6] at hs
   rw [aaD] at hs;exact hs
  ·intro j c hj
   have hle:=NM (lay M.ns N) xo (j+1) l.length;rw [Jc _ _ _ _ hj] at hle ⊢;rw [aaw] at hle;have:=hc c (aaR hj) (l++layAll (lay M.ns N) (xo.take j) l.length) (by rw [aaw];omega);rw [aaw] at this;rw [<- aaD];exact this
  ·rw [aaK]
   exact hown _ (by rw [aaw];omega)
end Uw.Tryz
namespace Uw.Tryz
open Go Uw
abbrev pgA (p:Pg):V:=.agg [.d (.slice 3 (p.decls.map cO) false),.d (.slice 3 (p.ag.map fuL) false),.d (cv p.nodes)]
def mJ (p:Pg) (l:List Str):List Int:=l.map fun s=>(((eY p s).getD 0:Nat):Int)
abbrev nuH (p:Pg) (C T F H:MS) (l:List Int):Heap:=[(7,.arr 1 (l.map fun i=>[I i])),(6,.map (some .i64) C),(5,.var [.hnd 2,.hnd 3,.hnd 4,.ref 7 0 0 (l.map fun i=>[I i]).length]),(4,.map none H),(3,.map none F),(2,.map none T),(1,.var [.d .bg,.d .bg,.d .bg,.d .nil]),(0,.var [.d (.slice 3 (p.decls.map cO) false),.d (.slice 3 (p.ag.map fuL) false),.d (cv p.nodes)])]
abbrev XD (p:Pg) (C T:MS) (F:Nat->MS) (j:Nat):St:=⟨[(45,.d (I j)),(44,.d (I ((p.ag.map fuL).length:Nat))),(43,.d (.slice 3 (p.ag.map fuL) false)),(4,.hnd 6),(3,.ptr 5 0),(2,.ptr 1 0),(1,.ptr 0 0)],nuH p C T (F j) [] [],8,[],0⟩
abbrev Kx (p:Pg) (C T F:MS) (H:Nat->MS) (L:Nat->List Int) (j:Nat):St:=⟨[(59,.d (I j)),(58,.d (I ((p.nodes.map ndL).length:Nat))),(57,.d (cv p.nodes)),(4,.hnd 6),(3,.ptr 5 0),(2,.ptr 1 0),(1,.ptr 0 0)],nuH p C T F (H j) (L j),8,[],0⟩
abbrev XE (p:Pg) (C T:Nat->MS) (j:Nat):St:=⟨[(21,.d (I j)),(20,.d (I ((p.decls.map cO).length:Nat))),(19,.d (.slice 3 (p.decls.map cO) false)),(4,.hnd 6),(3,.ptr 5 0),(2,.ptr 1 0),(1,.ptr 0 0)],nuH p (C j) (T j) [] [] [],8,[],0⟩
theorem yw (p:Pg) (hp:Lim p) (hm:May p):aE P0 qt [pgA p] [] (.agg [.hnd 0,.hnd 1,.hnd 2,.d (bN (mJ p (dA p)))]) [.map none (tgE p.decls),.map none (fuE p.ag),.map none (hpE p.ag.length (dA p))]:=by
 have hF:=hp.ag;have hD:=hp.decls;have hN:=hp.nodes;have hfl:(p.ag.map fuL).length=p.ag.length:=by simp
 have hdl:(p.decls.map cO).length=p.decls.length:=by simp
 have hnl:(p.nodes.map ndL).length=p.nodes.length:=by simp
 obtain ⟨C,hC⟩:∃E:Nat->MS,∀j,E j=ctE (p.decls.take j):=⟨_,fun _=>rfl⟩
 obtain ⟨T,hT⟩:∃E:Nat->MS,∀j,E j=tgE (p.decls.take j):=⟨_,fun _=>rfl⟩
 have hst:∀(j:Nat) (h:j<p.decls.length),∃c:Nat,c<=100000/\(bh (C j) (.i p.decls[j].kind)).getD (I 0)=I (c:Nat)/\dQ (C j) (.i p.decls[j].kind) (I ((c:Nat)+1))=C (j+1)/\dQ (T j) (.s p.decls[j].name) (.agg [I p.decls[j].kind,I (c:Nat)])=T (j+1):=fun j h=>by
  refine ⟨ctN (p.decls.take j) p.decls[j].kind,?_,by rw [hC,vJ],?_,?_⟩
  ·have h2:(p.decls.take j).length<=j:=by rw [aa5];omega
   have h3:ctN (p.decls.take j) p.decls[j].kind<=(p.decls.take j).length:=acY;omega
  ·rw [hC,hC,LU,<- aaz h]
  ·rw [hT,hT,aaz h,CN]
 have hdel:∀(j:Nat) (h:j<p.decls.length),(p.decls.map cO)[(j:Int).toNat]? = some (cO p.decls[j]):=fun j h=>by simp [h]
 obtain ⟨F,hF1⟩:∃E:Nat->MS,∀j,E j=fuE (p.ag.take j):=⟨_,fun _=>rfl⟩
 obtain ⟨H,hH⟩:∃E:Nat->MS,∀j,E j=hpE p.ag.length (gX (p.nodes.take j) []):=⟨_,fun _=>rfl⟩
 obtain ⟨L,hL⟩:∃E:Nat->List Int,∀j,E j=mJ p (gX (p.nodes.take j) []):=⟨_,fun _=>rfl⟩
 have hfs:∀(j:Nat) (h:j<p.ag.length),dQ (F j) (.s p.ag[j].name) (I (j:Nat))=F (j+1):=fun j h=>by
  rw [hF1,hF1,aaz h,CO,aa5,acE (by omega)]
 have NN:∀(j:Nat) (h:j<p.ag.length),(p.ag.map fuL)[(j:Int).toNat]? = some (fuL p.ag[j]):=fun j h=>by simp [h]
 have Rt:∀(j:Nat) (h:j<p.nodes.length),(p.nodes.map ndL)[(j:Int).toNat]? = some (ndL p.nodes[j]):=fun j h=>by simp [h]
 have hFg:∀s,(bh (F p.ag.length) (.s s)).getD (I 0)=I (((eY p s).getD 0:Nat):Int):=fun s=>by
  rw [hF1,aaK,Kv p hm.names.2.1]
  cases eY p s<;>rfl
 have hns:∀(j:Nat) (h:j<p.nodes.length),(∃i,bh (H j) (.s p.nodes[j].name2)=some (I i)/\H j=H (j+1)/\L j=L (j+1))\/(p.nodes[j].kind≠11/\H j=H (j+1)/\L j=L (j+1))\/
   (p.nodes[j].kind=11/\bh (H j) (.s p.nodes[j].name2)=none/\dQ (H j) (.s p.nodes[j].name2) (I (((p.ag.map fuL).length:Nat)+((L j).map fun i=>[I i]).length:Int))=H (j+1)/\L j++[(((eY p p.nodes[j].name2).getD 0:Nat):Int)]=L (j+1)):=fun j h=>by
  have hS:=vK p.nodes[j] (p.nodes.take j) [];rw [<- aaz h] at hS;have hg:=Kw p.ag.length p.nodes[j].name2 (gX (p.nodes.take j) []) (tC _ _ ac0);have hi:=NL (l:=gX (p.nodes.take j) []) (s:=p.nodes[j].name2);simp only [hH,hL];rw [hS];by_cases k11:p.nodes[j].kind=11
  ·by_cases hm2:p.nodes[j].name2∈gX (p.nodes.take j) []
   ·rw [decide_eq_true hm2] at hi
    rw [if_neg (fun e=>e.2 hm2)]
    cases hq:uF (gX (p.nodes.take j) []) p.nodes[j].name2 with
    | none=>rw [hq] at hi;cases hi
    | some i=>rw [hq] at hg;exact .inl ⟨_,hg,rfl,rfl⟩
   ·rw [decide_eq_false hm2] at hi
    rw [if_pos ⟨k11,hm2⟩]
    cases hq:uF (gX (p.nodes.take j) []) p.nodes[j].name2 with
    | some i=>rw [hq] at hi;cases hi
    | none=>
     rw [hq] at hg;refine .inr (.inr ⟨k11,hg,?_,by simp [mJ]⟩);rw [CP]
     congr 2
     simp [mJ]
  ·rw [if_neg (fun e=>k11 e.1)]
   exact .inr (.inl ⟨k11,rfl,rfl⟩)
 have hLl:∀j,(L j).length<=j:=fun j=>by
  rw [hL,mJ,aaT];have:∀n,(gX (p.nodes.take n) []).length<=n:=by
   intro n
   induction n with
   | zero=>simp [gX]
   | succ n ih=>
    rcases aa2 n p.nodes.length with h|h
    ·rw [aaz h,vK]
     split
     ·simp;omega
     ·omega
    ·rw [aaG (by omega)]
     rw [aaG h] at ih;omega
  exact this j
 have hC0:C 0=[]:=by rw [hC];rfl
 have hT0:T 0=[]:=by rw [hT];rfl
 have hF0:F 0=[]:=by rw [hF1];rfl
 have hH0:H 0=[]:=by rw [hH];rfl
 have hL0:L 0=[]:=by rw [hL];rfl
 have hTn:tgE p.decls=T p.decls.length:=by rw [hT,aaK]
 have hFn:fuE p.ag=F p.ag.length:=by rw [hF1,aaK]
 have hHn:hpE p.ag.length (dA p)=H p.nodes.length:=by rw [hH,aaK];rfl
 have hLn:mJ p (dA p)=L p.nodes.length:=by rw [hL,aaK];rfl
 rw [hTn,hFn,hHn,hLn];clear hTn hFn hHn hLn hC hT hF1 hH hL;have hS0:XE p C T 0=⟨[(21,.d (I (0:Nat))),(20,.d (I ((p.decls.map cO).length:Nat))),(19,.d (.slice 3 (p.decls.map cO) false)),(4,.hnd 6),(3,.ptr 5 0),(2,.ptr 1 0),(1,.ptr 0 0)],nuH p [] [] [] [] [],8,[],0⟩:=by rw [XE,hC0,hT0]
 have hS1:XD p (C p.decls.length) (T p.decls.length) F 0=⟨[(45,.d (I (0:Nat))),(44,.d (I ((p.ag.map fuL).length:Nat))),(43,.d (.slice 3 (p.ag.map fuL) false)),(4,.hnd 6),(3,.ptr 5 0),(2,.ptr 1 0),(1,.ptr 0 0)],nuH p (C p.decls.length) (T p.decls.length) [] [] [],8,[],0⟩:=by rw [XD,hF0]
 have hS2:Kx p (C p.decls.length) (T p.decls.length) (F p.ag.length) H L 0=⟨[(59,.d (I (0:Nat))),(58,.d (I ((p.nodes.map ndL).length:Nat))),(57,.d (cv p.nodes)),(4,.hnd 6),(3,.ptr 5 0),(2,.ptr 1 0),(1,.ptr 0 0)],nuH p (C p.decls.length) (T p.decls.length) (F p.ag.length) [] [],8,[],0⟩:=by rw [Kx,hH0,hL0]
 have hLn:=hLl p.nodes.length;have hrow:(((L p.nodes.length).map fun i=>[I i]).drop 0).take ((L p.nodes.length).map fun i=>[I i]).length=(L p.nodes.length).map fun i=>[I i]:=by rw [aa9,aaK]
 refine ax wz rfl ?_
 repeat (first|refine aw ?_|refine f1 ?_|refine m1 ?_)
 refine dp p.decls.length (XE p C T) (fun _=>True) (fH hS0 ?_) (fun _=>?_) (fun j hj _=>?_)
 ·exact Uw.wM
 rotate_left 1
 ·have he:=hdel j hj
  obtain ⟨c,hcl,hcg,hcs,hcu⟩:=hst j hj;clear hdel hst hfs hns hLl;generalize p.decls[j]=d at *;obtain ⟨dk,ds,dn⟩:=d;have he:(p.decls.map cO)[(j:Int).toNat]? = some [I dk,.str ds,I dn]:=he;simp only at hcg hcs hcu
  repeat (first|refine aw ?_|refine f1 ?_)
  refine c8 (I 0) _ hcg ?_
  repeat (first|refine aw ?_|refine f1 ?_)
  refine c8 (I 0) _ hcg ?_
  repeat (first|refine aw ?_|refine f1 ?_)
  exact aX j trivial (by exact Uw.wM)
 clear hdel hst
 repeat (first|refine aw ?_|refine f1 ?_)
 refine aJ ?_
 repeat (first|refine aw ?_|refine f1 ?_)
 refine dp p.ag.length (XD p (C p.decls.length) (T p.decls.length) F) (fun _=>True) (fH hS1 ?_) (fun _=>?_) (fun j hj _=>?_)
 ·exact Uw.wM
 rotate_left 1
 ·have he:=NN j hj
  have hcu:=hfs j hj;clear NN hfs hns hLl;generalize p.ag[j]=d at *;obtain ⟨fn,fa,fb⟩:=d;have he:(p.ag.map fuL)[(j:Int).toNat]? = some [.str fn,.slice 1 (fa.map fun s=>[Dat.str s]) false,I fb]:=he;simp only at hcu
  repeat (first|refine aw ?_|refine f1 ?_)
  exact aX j trivial (by exact Uw.wM)
 clear NN hfs
 repeat (first|refine aw ?_|refine f1 ?_)
 refine aJ ?_
 repeat (first|refine aw ?_|refine f1 ?_)
 refine dp p.nodes.length (Kx p (C p.decls.length) (T p.decls.length) (F p.ag.length) H L) (fun _=>True) (fH hS2 ?_) (fun _=>?_) (fun j hj _=>?_)
 ·exact Uw.wM
 rotate_left 1
 ·have he:=Rt j hj
  have hcu:=hns j hj;have hLj:=hLl j;clear Rt hns hLl;generalize p.nodes[j]=d at *;obtain ⟨xk,xn,xs,xt,xo⟩:=d;have he:(p.nodes.map ndL)[(j:Int).toNat]? = some [I xk,I xn,.str xs,.str xt,bN xo]:=he;simp only at hcu;have hFg:=hFg xt;have hll:((L j).map fun i=>[I i]).length=(L j).length:=by simp
  rcases hcu with ⟨i,h1,h2,h3⟩|⟨h1,h2,h3⟩|⟨k11,h1,h2,h3⟩
  ·by_cases k11:xk=11
   ·subst k11
    repeat (first|refine aw ?_|refine f1 ?_|refine m1 ?_)
    refine aX j trivial (fH (by rw [Kx,<- h2,<- h3]) ?_);exact Uw.wM
   ·repeat (first|refine aw ?_|refine f1 ?_|refine m1 ?_)
    refine aX j trivial (fH (by rw [Kx,<- h2,<- h3]) ?_);exact Uw.wM
  ·repeat (first|refine aw ?_|refine f1 ?_|refine m1 ?_)
   refine aX j trivial (fH (by rw [Kx,<- h2,<- h3]) ?_);exact Uw.wM
  ·have h4:((L (j+1)).map fun i=>[I i])=((L j).map fun i=>[I i])++(List.replicate 1 [Dat.int .i64 0]).set 0 [I (((eY p xt).getD 0:Nat):Int)]:=by rw [<- h3,abn];rfl
   clear h3;subst k11
   repeat (first|refine aw ?_|refine f1 ?_|refine m1 ?_)
   refine c8 (I 0) _ hFg ?_
   repeat (first|refine aw ?_|refine f1 ?_|refine m1 ?_)
   refine aX j trivial (fH (by rw [Kx,nuH,h4,<- h2]) ?_);exact Uw.wM
 repeat (first|refine aw ?_|refine f1 ?_)
 refine aJ ?_
 repeat (first|refine aw ?_|refine f1 ?_)
 refine aF 0 rfl rfl (Weak.ofR [(0,2),(1,3),(2,4)] ?_ ?_ rfl rfl ?_ rfl rfl rfl)
 ·refine ⟨⟨_,rfl,?_⟩,trivial⟩
  exact Or.inr (Or.inr (Or.inr (Or.inr (Or.inl ⟨_,_,rfl,rfl,.inl ⟨rfl,rfl⟩,.inl ⟨rfl,rfl⟩,.inl ⟨rfl,rfl⟩,.inr (.inr (.inr ⟨_,_,_,_,_,_,_,rfl,rfl,hrow,rfl⟩)),trivial⟩))))
 ·exact ⟨⟨.inl ⟨_,rfl,⟨rfl,rfl⟩⟩,rfl⟩,⟨.inl ⟨_,rfl,⟨rfl,rfl⟩⟩,rfl⟩,⟨.inl ⟨_,rfl,⟨rfl,rfl⟩⟩,rfl⟩,trivial⟩
 ·trivial
end Uw.Tryz
namespace Uw.Tryz
open Go Uw
abbrev bdS (p:Pg) (E:Nat->MS) (j:Nat):St:=⟨[(20,.d (I j)),(19,.d (I ((p.decls.map cO).length:Nat))),(18,.d (.slice 3 (p.decls.map cO) false)),(3,.hnd 3),(1,.ptr 2 0)],(3,.map (some .i64) (E j))::sHp p,4,[],2⟩
theorem CX (p:Pg) (hp:Lim p):aE P0 lH [.agg (sCs p)] (sBs p) (.d (.bool (iK p))) (sBs p):=by
 have hF:=hp.ag;have hD:=hp.decls;have hN:=hp.nodes;have hfl:(p.ag.map fuL).length=p.ag.length:=by simp
 have hdl:(p.decls.map cO).length=p.decls.length:=by simp
 have hnl:(p.nodes.map ndL).length=p.nodes.length:=by simp
 have hll:=lU p;have hml:((ak p).map fun l=>[gV l]).length=(ak p).length:=by simp
 obtain ⟨c0,hc0⟩:∃c,ctN p.decls 0=c:=⟨_,rfl⟩
 obtain ⟨c1,hc1⟩:∃c,ctN p.decls 1=c:=⟨_,rfl⟩
 obtain ⟨c2,hc2⟩:∃c,ctN p.decls 2=c:=⟨_,rfl⟩
 obtain ⟨c3,hc3⟩:∃c,ctN p.decls 3=c:=⟨_,rfl⟩
 have hB:iK p=(decide (16<p.ag.length)||decide (16<c0)||decide (8<c1)||decide (8<c2)||decide (8<c3)||((ak p).any fun l=>decide (16<l.length))||(p.nodes.any fun x=>decide (x.kind=10)&&decide (16<x.of.length))):=by rw [<- hc0,<- hc1,<- hc2,<- hc3];rfl
 have b0:16<p.ag.length->iK p=true:=fun h=>by rw [hB];simp [h]
 have b1:16<c0->iK p=true:=fun h=>by rw [hB];simp [h]
 have b2:8<c1->iK p=true:=fun h=>by rw [hB];simp [h]
 have b3:8<c2->iK p=true:=fun h=>by rw [hB];simp [h]
 have b4:8<c3->iK p=true:=fun h=>by rw [hB];simp [h]
 have b5:∀(j:Nat) (h:j<(ak p).length),16<(ak p)[j].length->iK p=true:=fun j h e=>by
  have:((ak p).any fun l=>decide (16<l.length))=true:=abK.2 ⟨_,aaQ h,by simp [e]⟩;rw [hB,this];simp
 have b6:∀(j:Nat) (h:j<p.nodes.length),p.nodes[j].kind=10/\16<p.nodes[j].of.length->iK p=true:=fun j h e=>by
  have:(p.nodes.any fun x=>decide (x.kind=10)&&decide (16<x.of.length))=true:=abK.2 ⟨_,aaQ h,by simp [e]⟩;rw [hB,this];simp
 have G2:¬16<p.ag.length->¬16<c0->¬8<c1->¬8<c2->¬8<c3->(∀(j:Nat) (h:j<(ak p).length),¬16<(ak p)[j].length)->(∀(j:Nat) (h:j<p.nodes.length),¬(p.nodes[j].kind=10/\16<p.nodes[j].of.length))->iK p=false:=fun g0 g1 g2 g3 g4 g5 g6=>by
  have h5:((ak p).any fun l=>decide (16<l.length))=false:=abp.2 fun x hx=>by
   obtain ⟨j,hj,rfl⟩:=aa8.1 hx;simpa using g5 j hj
  have h6:(p.nodes.any fun x=>decide (x.kind=10)&&decide (16<x.of.length))=false:=abp.2 fun x hx=>by
   obtain ⟨j,hj,rfl⟩:=aa8.1 hx;simpa using g6 j hj
  rw [hB,h5,h6];simp [g0,g1,g2,g3,g4]
 clear hB;generalize iK p=R at *;obtain ⟨E,hE⟩:∃E:Nat->MS,∀j,E j=ctE (p.decls.take j):=⟨_,fun _=>rfl⟩
 have hE0:([]:MS)=E 0:=by rw [hE];rfl
 have hst:∀(j:Nat) (h:j<p.decls.length),∃c:Nat,c<=100000/\(bh (E j) (.i p.decls[j].kind)).getD (I 0)=I (c:Nat)/\dQ (E j) (.i p.decls[j].kind) (I ((c:Nat)+1))=E (j+1):=fun j h=>by
  refine ⟨ctN (p.decls.take j) p.decls[j].kind,?_,by rw [hE,vJ],?_⟩
  ·have h2:(p.decls.take j).length<=j:=by rw [aa5];omega
   have h3:ctN (p.decls.take j) p.decls[j].kind<=(p.decls.take j).length:=acY;omega
  ·rw [hE,hE,LU,<- aaz h]
 have hg0:(bh (E p.decls.length) (.i 0)).getD (I 0)=I (c0:Nat):=by rw [hE,aaK,vJ,hc0]
 have hg1:(bh (E p.decls.length) (.i 1)).getD (I 0)=I (c1:Nat):=by rw [hE,aaK,vJ,hc1]
 have hg2:(bh (E p.decls.length) (.i 2)).getD (I 0)=I (c2:Nat):=by rw [hE,aaK,vJ,hc2]
 have hg3:(bh (E p.decls.length) (.i 3)).getD (I 0)=I (c3:Nat):=by rw [hE,aaK,vJ,hc3]
 have hdel:∀(j:Nat) (h:j<p.decls.length),(p.decls.map cO)[(j:Int).toNat]? = some (cO p.decls[j]):=fun j h=>by simp [h]
 clear hc0 hc1 hc2 hc3 hE;have hS0:bdS p E 0=⟨[(20,.d (I (0:Nat))),(19,.d (I ((p.decls.map cO).length:Nat))),(18,.d (.slice 3 (p.decls.map cO) false)),(3,.hnd 3),(1,.ptr 2 0)],(3,.map (some .i64) [])::sHp p,4,[],2⟩:=by rw [bdS,<- hE0]
 refine ax rV rfl ?_;by_cases h16:16<p.ag.length
 ·rw [b0 h16]
  have h17:(16:Int)<((p.ag.map fuL).length:Nat):=by omega
  repeat (first|refine aw ?_|refine f1 ?_|refine m1 ?_)
  refine aF 2 rfl rfl ?_;exact Uw.wM
 have G2:=G2 h16;have h17:¬(16:Int)<((p.ag.map fuL).length:Nat):=by omega
 repeat (first|refine aw ?_|refine f1 ?_|refine m1 ?_)
 refine dp p.decls.length (bdS p E) (fun _=>True) (fH hS0 ?_) (fun _=>?_) (fun j hj _=>?_)
 ·exact Uw.wM
 rotate_left 1
 ·have he:=hdel j hj
  obtain ⟨c,hcl,hcg,hcs⟩:=hst j hj;clear hdel hst;generalize p.decls[j]=d at *;obtain ⟨dk,ds,dn⟩:=d;have he:(p.decls.map cO)[(j:Int).toNat]? = some [I dk,.str ds,I dn]:=he;simp only at hcg hcs
  repeat (first|refine aw ?_|refine f1 ?_)
  refine c8 (I 0) _ hcg ?_
  repeat (first|refine aw ?_|refine f1 ?_)
  exact aX j trivial (by exact Uw.wM)
 by_cases q1:16<c0
 ·rw [b1 q1]
  have q1' : (16:Int)<(c0:Nat):=by omega
  repeat (first|refine aw ?_|refine f1 ?_)
  refine aJ ?_
  repeat (first|refine aw ?_|refine f1 ?_)
  refine c8 (I 0) _ hg0 ?_
  repeat (first|refine aw ?_|refine f1 ?_)
  refine aF 2 rfl rfl ?_;exact Uw.wM
 have q1' : ¬(16:Int)<(c0:Nat):=by omega
 by_cases q2:8<c1
 ·rw [b2 q2]
  have q2' : (8:Int)<(c1:Nat):=by omega
  repeat (first|refine aw ?_|refine f1 ?_)
  refine aJ ?_
  repeat (first|refine aw ?_|refine f1 ?_)
  refine c8 (I 0) _ hg0 ?_
  repeat (first|refine aw ?_|refine f1 ?_)
  refine c8 (I 0) _ hg1 ?_
  repeat (first|refine aw ?_|refine f1 ?_)
  refine aF 2 rfl rfl ?_;exact Uw.wM
 have q2' : ¬(8:Int)<(c1:Nat):=by omega
 by_cases q3:8<c2
 ·rw [b3 q3]
  have q3' : (8:Int)<(c2:Nat):=by omega
  repeat (first|refine aw ?_|refine f1 ?_)
  refine aJ ?_
  repeat (first|refine aw ?_|refine f1 ?_)
  refine c8 (I 0) _ hg0 ?_
  repeat (first|refine aw ?_|refine f1 ?_)
  refine c8 (I 0) _ hg1 ?_
  repeat (first|refine aw ?_|refine f1 ?_)
  refine c8 (I 0) _ hg2 ?_
  repeat (first|refine aw ?_|refine f1 ?_)
  refine aF 2 rfl rfl ?_;exact Uw.wM
 have q3' : ¬(8:Int)<(c2:Nat):=by omega
 by_cases q4:8<c3
 ·rw [b4 q4]
  have q4' : (8:Int)<(c3:Nat):=by omega
  repeat (first|refine aw ?_|refine f1 ?_)
  refine aJ ?_
  repeat (first|refine aw ?_|refine f1 ?_)
  refine c8 (I 0) _ hg0 ?_
  repeat (first|refine aw ?_|refine f1 ?_)
  refine c8 (I 0) _ hg1 ?_
  repeat (first|refine aw ?_|refine f1 ?_)
  refine c8 (I 0) _ hg2 ?_
  repeat (first|refine aw ?_|refine f1 ?_)
  refine c8 (I 0) _ hg3 ?_
  repeat (first|refine aw ?_|refine f1 ?_)
  refine aF 2 rfl rfl ?_;exact Uw.wM
 have q4' : ¬(8:Int)<(c3:Nat):=by omega
 have G2:=G2 q1 q2 q3 q4;have XF:∀(j:Nat) (h:j<(ak p).length),((ak p).map fun l=>[gV l])[(j:Int).toNat]? = some [.slice 1 ((ak p)[j].map fun s=>[Dat.str s]) false]:=fun j h=>by simp [h];rfl
 have Rt:∀(j:Nat) (h:j<p.nodes.length),(p.nodes.map ndL)[(j:Int).toNat]? = some (ndL p.nodes[j]):=fun j h=>by simp [h]
 repeat (first|refine aw ?_|refine f1 ?_)
 refine aJ ?_
 repeat (first|refine aw ?_|refine f1 ?_)
 refine c8 (I 0) _ hg0 ?_
 repeat (first|refine aw ?_|refine f1 ?_)
 refine c8 (I 0) _ hg1 ?_
 repeat (first|refine aw ?_|refine f1 ?_)
 refine c8 (I 0) _ hg2 ?_
 repeat (first|refine aw ?_|refine f1 ?_)
 refine c8 (I 0) _ hg3 ?_
 repeat (first|refine aw ?_|refine f1 ?_)
 clear hst hdel hg0 hg1 hg2 hg3 hS0 b0 b1 b2 b3 b4;refine dp (ak p).length (fun j:Nat=>⟨[(51,.d (I j)),(50,.d (I (((ak p).map fun l=>[gV l]).length:Nat))),(49,.d (tA (ak p))),(1,.ptr 2 0)],sHp p,3,[],2⟩) (fun j=>∀h:j<(ak p).length,¬16<(ak p)[j].length) (by exact Uw.wM) (fun g5=>?_) (fun j hj _=>?_);rotate_left 1
 ·have he:=XF j hj
  have b5:=b5 j hj;have hgd:¬16<(ak p)[j].length->(fun j=>∀h:j<(ak p).length,¬16<(ak p)[j].length) j:=fun h _=>h;clear XF G2 b6;generalize (ak p)[j]=l at *;have hl:(l.map fun s=>[Dat.str s]).length=l.length:=by simp
  by_cases q:16<l.length
  ·rw [b5 q]
   have q' : (16:Int)<((l.map fun s=>[Dat.str s]).length:Nat):=by omega
   repeat (first|refine aw ?_|refine f1 ?_)
   refine bV (aF 2 rfl rfl ?_);exact Uw.wM
  ·have hgd:=hgd q
   have q' : ¬(16:Int)<((l.map fun s=>[Dat.str s]).length:Nat):=by omega
   repeat (first|refine aw ?_|refine f1 ?_)
   exact aX j hgd (by exact Uw.wM)
 have G2:=G2 fun j h=>g5 j h h;clear g5 b5 XF
 repeat (first|refine aw ?_|refine f1 ?_)
 refine aJ ?_
 repeat (first|refine aw ?_|refine f1 ?_)
 refine dp p.nodes.length (fun j:Nat=>⟨[(63,.d (I j)),(62,.d (I ((p.nodes.map ndL).length:Nat))),(61,.d (cv p.nodes))],sHp p,3,[],2⟩) (fun j=>∀h:j<p.nodes.length,¬(p.nodes[j].kind=10/\16<p.nodes[j].of.length)) (by exact Uw.wM) (fun g6=>?_) (fun j hj _=>?_)
 ·rw [G2 fun j h=>g6 j h h]
  repeat (first|refine aw ?_|refine f1 ?_)
  refine aJ ?_
  repeat (first|refine aw ?_|refine f1 ?_)
  refine aF 2 rfl rfl ?_;exact Uw.wM
 have he:=Rt j hj;have b6:=b6 j hj;have hgd:¬(p.nodes[j].kind=10/\16<p.nodes[j].of.length)->(fun j=>∀h:j<p.nodes.length,¬(p.nodes[j].kind=10/\16<p.nodes[j].of.length)) j:=fun h _=>h;clear Rt G2;generalize p.nodes[j]=x at *;obtain ⟨xk,xn,xs,xt,xo⟩:=x;have he:(p.nodes.map ndL)[(j:Int).toNat]? = some [I xk,I xn,.str xs,.str xt,.slice 1 (xo.map fun i=>[I i]) false]:=he;simp only at b6 hgd;have hol:(xo.map fun i=>[I i]).length=xo.length:=by simp
 by_cases k10:xk=10
 ·by_cases q:16<xo.length
  ·rw [b6 ⟨k10,q⟩]
   have q' : (16:Int)<((xo.map fun i=>[I i]).length:Nat):=by omega
   subst k10
   repeat (first|refine aw ?_|refine f1 ?_)
   refine bV (aF 2 rfl rfl ?_);exact Uw.wM
  ·have hgd1:=hgd (fun h=>q h.2)
   have q' : ¬(16:Int)<((xo.map fun i=>[I i]).length:Nat):=by omega
   subst k10
   repeat (first|refine aw ?_|refine f1 ?_)
   exact aX j hgd1 (by exact Uw.wM)
 ·have hgd1:=hgd (fun h=>k10 h.1)
  repeat (first|refine aw ?_|refine f1 ?_)
  exact aX j hgd1 (by exact Uw.wM)
end Uw.Tryz
namespace Uw.Tryz
open Go Uw
abbrev ZM (p:Pg):List V:=[.d (.slice 3 (p.decls.map cO) false),.d (.slice 3 (p.ag.map fuL) false),.d (cv p.nodes),.hnd 1,.hnd 2,.d (bN (bD p)),.d (tA (ak p))]
abbrev wyH (p:Pg) (es:MS):Heap:=[(2,.map none es),(3,.var (ZM p)),(1,.map none (thE p.decls)),(0,pgV p)]
theorem EO (f:Fu):∀(fs:List Fu) (i:Nat) (es:MS),sd i (fs++[f]) es=(if (bh (sd i fs es) (.s f.name)).isSome then sd i fs es else dQ (sd i fs es) (.s f.name) (I ((i+fs.length:Nat):Int)))
 | [],i,es=>rfl
 | g::fs,i,es=>by
  rw [aaE,sd,EO f fs,sd,aaA,show i+1+fs.length=i+(fs.length+1) by omega]
theorem UZ (p:Pg) (j:Nat) (h:j<p.ag.length):((∃v,bh (fnE (p.ag.take j)) (.s p.ag[j].name)=some (I v))/\fnE (p.ag.take j)=fnE (p.ag.take (j+1)))\/(bh (fnE (p.ag.take j)) (.s p.ag[j].name)=none/\dQ (fnE (p.ag.take j)) (.s p.ag[j].name) (I (j:Nat))=fnE (p.ag.take (j+1))):=by
 have hl:(p.ag.take j).length=j:=by rw [aa5];omega
 rw [aaz h];have e:=EO p.ag[j] (p.ag.take j) 0 [];rw [hl,aaF] at e;show ((∃v,_)/\_=sd 0 _ [])\/(_/\_=sd 0 _ [])
 rw [e];have hg:=CG p.ag[j].name (p.ag.take j) 0 []
 cases hq:bh (sd 0 (p.ag.take j) []) (.s p.ag[j].name) with
 | none=>exact .inr ⟨hq,by simp [fnE]⟩
 | some v=>
  refine .inl ⟨?_,by simp [fnE]⟩;rw [hq] at hg;simp only [bh,adl] at hg
  cases hi:(p.ag.take j).findIdx? fun f=>decide (f.name=p.ag[j].name) with
  | none=>rw [hi] at hg;cases hg
  | some i=>rw [hi] at hg;exact ⟨_,hq.trans hg⟩
abbrev wyS (p:Pg) (E:Nat->MS) (j:Nat):St:=⟨[(26,.d (I j)),(25,.d (I ((p.ag.map fuL).length:Nat))),(24,.d (.slice 3 (p.ag.map fuL) false)),(3,.ptr 3 0),(1,.ptr 0 0)],wyH p (E j),4,[],0⟩
theorem XG (p:Pg) (hp:Lim p) (hnm:bO p=true->aE P0 jf [.agg (sCs p)] (sBs p) (.d (.bool (nameP p))) (sBs p)):Ret P0 o6 [pgD p] (I (pT p)):=by
 have hfm:=tu p hp;have hF:=hp.ag;have hfl:(p.ag.map fuL).length=p.ag.length:=by simp
 refine aU FQ rfl ?_
 cases hf:bO p with
 | false=>
  rw [hf] at hfm;have hw:pT p=1:=by rw [pT,if_pos hf]
  rw [hw]
  repeat (first|refine aw ?_|refine f1 ?_)
  exact aC rfl rfl rfl rfl rfl
 | true=>
 rw [hf] at hfm;have how:=oy p hf hp;have hlo:=tB p hf hp;have hth:=ox p hp.decls;obtain ⟨E,hE⟩:∃E:Nat->MS,∀j,E j=fnE (p.ag.take j):=⟨_,fun _=>rfl⟩
 have hS0:wyS p E 0=⟨[(26,.d (I (0:Nat))),(25,.d (I ((p.ag.map fuL).length:Nat))),(24,.d (.slice 3 (p.ag.map fuL) false)),(3,.ptr 3 0),(1,.ptr 0 0)],wyH p [],4,[],0⟩:=by
  rw [wyS,hE];rfl
 have hSn:wyS p E p.ag.length=⟨[(26,.d (I (p.ag.length:Nat))),(25,.d (I ((p.ag.map fuL).length:Nat))),(24,.d (.slice 3 (p.ag.map fuL) false)),(3,.ptr 3 0),(1,.ptr 0 0)],wyH p (fnE p.ag),4,[],0⟩:=by
  rw [wyS,hE,aaK]
 have hst:∀(j:Nat) (h:j<p.ag.length),((∃v,bh (E j) (.s p.ag[j].name)=some (I v))/\E j=E (j+1))\/(bh (E j) (.s p.ag[j].name)=none/\dQ (E j) (.s p.ag[j].name) (I (j:Nat))=E (j+1)):=fun j h=>by
  rw [hE,hE];exact UZ p j h
 have hel:∀(j:Nat) (h:j<p.ag.length),(p.ag.map fuL)[(j:Int).toNat]? = some (fuL p.ag[j]):=fun j h=>by simp [h]
 clear hE
 repeat (first|refine aw ?_|refine f1 ?_)
 refine cm ⟨[(3,.ptr 3 0),(1,.ptr 0 0)],wyH p [],4,[],0⟩ ?_ ?_
 ·repeat' (first|refine aw ?_|refine f1 ?_|refine Fq ?_ ?_|refine ad 1 [] hth ?_|refine ad 2 [] hth ?_|refine ad 3 [] hth ?_)
  all_goals first|exact aS (.inl ⟨rfl,Weak.eqs [(1,1),(2,2),(3,3)] rfl rfl rfl rfl rfl rfl rfl rfl rfl rfl⟩)|exact aS (.inl ⟨rfl,Weak.eqs [(1,1),(2,3),(3,2)] rfl rfl rfl rfl rfl rfl rfl rfl rfl rfl⟩)|exact aS (.inl ⟨rfl,Weak.eqs [(1,2),(2,1),(3,3)] rfl rfl rfl rfl rfl rfl rfl rfl rfl rfl⟩)|exact aS (.inl ⟨rfl,Weak.eqs [(1,2),(2,3),(3,1)] rfl rfl rfl rfl rfl rfl rfl rfl rfl rfl⟩)|exact aS (.inl ⟨rfl,Weak.eqs [(1,3),(2,1),(3,2)] rfl rfl rfl rfl rfl rfl rfl rfl rfl rfl⟩)|exact aS (.inl ⟨rfl,Weak.eqs [(1,3),(2,2),(3,1)] rfl rfl rfl rfl rfl rfl rfl rfl rfl rfl⟩)
 repeat (first|refine aw ?_|refine f1 ?_)
 refine dp p.ag.length (wyS p E) (fun _=>True) (fH hS0 ?_) (fun _=>?_) (fun j hj _=>?_)
 ·exact Uw.wM
 rotate_left 1
 ·have he:=hel j hj
  have hs:=hst j hj;clear hel hst hSn hS0 hfm how hlo hth;generalize p.ag[j]=f at *;obtain ⟨fn,fa,fb⟩:=f;have he:(p.ag.map fuL)[(j:Int).toNat]? = some [.str fn,.slice 1 (fa.map fun s=>[Dat.str s]) false,I fb]:=he;simp only at hs
  rcases hs with ⟨⟨v,hv⟩,h2⟩|⟨hv,h2⟩
  ·repeat (first|refine aw ?_|refine f1 ?_|refine m1 ?_)
   exact aX j trivial (by exact Uw.wM)
  ·repeat (first|refine aw ?_|refine f1 ?_|refine m1 ?_)
   exact aX j trivial (by exact Uw.wM)
 rw [hSn];clear hel hst hSn hS0 hfm how hlo hth;have hb:=CX p hp;have ht:=CM p hp;have hnm:=hnm hf;have hs:=DN p hp;have hm:=fun h=>DO p hp h;have hmain:nameP p=false->p.ag≠[]:=fun h e=>by
  rw [nameP,abj,abj,eY,e] at h;simp at h
 have hw:pT p=(if iK p=true then 2 else if jm p=true then 5 else if nameP p=true then 4 else if tt p=true then 6 else if ov p=true then 7 else 0):=by rw [pT,hf];rfl
 cases h1:iK p with
 | true=>
  rw [h1] at hb;rw [show pT p=2 by rw [hw,h1];rfl];refine aw ?_;refine aJ ?_
  repeat (first|refine aw ?_|refine f1 ?_)
  refine fV 6 ?_
  repeat (first|refine aw ?_|refine f1 ?_)
  refine ad 6 [1,2] hb ?_
  repeat (first|refine aw ?_|refine f1 ?_)
  refine qi ?_;exact aC rfl rfl rfl rfl rfl
 | false=>
 rw [h1] at hb
 cases h2:jm p with
 | true=>
  rw [h2] at ht;rw [show pT p=5 by rw [hw,h1,h2];rfl];refine aw ?_;refine aJ ?_
  repeat (first|refine aw ?_|refine f1 ?_)
  refine fV 6 ?_
  repeat (first|refine aw ?_|refine f1 ?_)
  refine ad 6 [1,2] hb ?_
  repeat (first|refine aw ?_|refine f1 ?_)
  refine fc ?_
  repeat (first|refine aw ?_|refine f1 ?_)
  refine ad 7 [1,2] ht ?_
  repeat (first|refine aw ?_|refine f1 ?_)
  refine qi ?_;exact aC rfl rfl rfl rfl rfl
 | false=>
 rw [h2] at ht
 cases h3:nameP p with
 | true=>
  rw [h3] at hnm;rw [show pT p=4 by rw [hw,h1,h2,h3];rfl];refine aw ?_;refine aJ ?_
  repeat (first|refine aw ?_|refine f1 ?_)
  refine fV 6 ?_
  repeat (first|refine aw ?_|refine f1 ?_)
  refine ad 6 [1,2] hb ?_
  repeat (first|refine aw ?_|refine f1 ?_)
  refine fc ?_
  repeat (first|refine aw ?_|refine f1 ?_)
  refine ad 7 [1,2] ht ?_
  repeat (first|refine aw ?_|refine f1 ?_)
  refine fc ?_
  repeat (first|refine aw ?_|refine f1 ?_)
  refine ad 8 [1,2] hnm ?_
  repeat (first|refine aw ?_|refine f1 ?_)
  refine qi ?_;exact aC rfl rfl rfl rfl rfl
 | false=>
 rw [h3] at hnm
 cases h4:tt p with
 | true=>
  rw [h4] at hs;rw [show pT p=6 by rw [hw,h1,h2,h3,h4];rfl];refine aw ?_;refine aJ ?_
  repeat (first|refine aw ?_|refine f1 ?_)
  refine fV 6 ?_
  repeat (first|refine aw ?_|refine f1 ?_)
  refine ad 6 [1,2] hb ?_
  repeat (first|refine aw ?_|refine f1 ?_)
  refine fc ?_
  repeat (first|refine aw ?_|refine f1 ?_)
  refine ad 7 [1,2] ht ?_
  repeat (first|refine aw ?_|refine f1 ?_)
  refine fc ?_
  repeat (first|refine aw ?_|refine f1 ?_)
  refine ad 8 [1,2] hnm ?_
  repeat (first|refine aw ?_|refine f1 ?_)
  refine fc ?_
  repeat (first|refine aw ?_|refine f1 ?_)
  refine ad 9 [1,2] hs ?_
  repeat (first|refine aw ?_|refine f1 ?_)
  refine qi ?_;exact aC rfl rfl rfl rfl rfl
 | false=>
 rw [h4] at hs;have hm:=hm (hmain h3)
 cases h5:ov p with
 | true=>
  rw [h5] at hm;rw [show pT p=7 by rw [hw,h1,h2,h3,h4,h5];rfl];refine aw ?_;refine aJ ?_
  repeat (first|refine aw ?_|refine f1 ?_)
  refine fV 6 ?_
  repeat (first|refine aw ?_|refine f1 ?_)
  refine ad 6 [1,2] hb ?_
  repeat (first|refine aw ?_|refine f1 ?_)
  refine fc ?_
  repeat (first|refine aw ?_|refine f1 ?_)
  refine ad 7 [1,2] ht ?_
  repeat (first|refine aw ?_|refine f1 ?_)
  refine fc ?_
  repeat (first|refine aw ?_|refine f1 ?_)
  refine ad 8 [1,2] hnm ?_
  repeat (first|refine aw ?_|refine f1 ?_)
  refine fc ?_
  repeat (first|refine aw ?_|refine f1 ?_)
  refine ad 9 [1,2] hs ?_
  repeat (first|refine aw ?_|refine f1 ?_)
  refine fc ?_
  repeat (first|refine aw ?_|refine f1 ?_)
  refine ad 10 [1,2] hm ?_
  repeat (first|refine aw ?_|refine f1 ?_)
  refine qi ?_;exact aC rfl rfl rfl rfl rfl
 | false=>
 rw [h5] at hm;rw [show pT p=0 by rw [hw,h1,h2,h3,h4,h5];rfl];refine aw ?_;refine aJ ?_
 repeat (first|refine aw ?_|refine f1 ?_)
 refine fV 6 ?_
 repeat (first|refine aw ?_|refine f1 ?_)
 refine ad 6 [1,2] hb ?_
 repeat (first|refine aw ?_|refine f1 ?_)
 refine fc ?_
 repeat (first|refine aw ?_|refine f1 ?_)
 refine ad 7 [1,2] ht ?_
 repeat (first|refine aw ?_|refine f1 ?_)
 refine fc ?_
 repeat (first|refine aw ?_|refine f1 ?_)
 refine ad 8 [1,2] hnm ?_
 repeat (first|refine aw ?_|refine f1 ?_)
 refine fc ?_
 repeat (first|refine aw ?_|refine f1 ?_)
 refine ad 9 [1,2] hs ?_
 repeat (first|refine aw ?_|refine f1 ?_)
 refine fc ?_
 repeat (first|refine aw ?_|refine f1 ?_)
 refine ad 10 [1,2] hm ?_
 repeat (first|refine aw ?_|refine f1 ?_)
 refine fc ?_
 repeat (first|refine aw ?_|refine f1 ?_)
 refine qh ?_
 repeat (first|refine aw ?_|refine f1 ?_)
 exact aC rfl rfl rfl rfl rfl
end Uw.Tryz
namespace Uw.Tryz
open Go Uw
abbrev naH (p:Pg) (mv:List V) (fam:Heap):Heap:=(2,.var (sCs p))::(3,.var mv)::(0,.map none (thE p.decls))::(1,.map none (fnE p.ag))::fam
theorem zJ {p:Pg} {mv:List V} {fam:Heap} {id:Nat} {b:Blk} (h:look (naH p mv fam) id=some b):(id=2/\b = .var (sCs p))\/(id=3/\b = .var mv)\/(id=0/\b = .map none (thE p.decls))\/(id=1/\b = .map none (fnE p.ag))\/look fam id=some b:=by
 rw [ai] at h;by_cases h2:2=id
 ·rw [if_pos h2] at h;injection h with h;exact .inl ⟨h2.symm,h.symm⟩
 rw [if_neg h2,ai] at h;by_cases h3:3=id
 ·rw [if_pos h3] at h;injection h with h;exact .inr (.inl ⟨h3.symm,h.symm⟩)
 rw [if_neg h3,ai] at h;by_cases h1:0=id
 ·rw [if_pos h1] at h;injection h with h;exact .inr (.inr (.inl ⟨h1.symm,h.symm⟩))
 rw [if_neg h1,ai] at h;by_cases h0:1=id
 ·rw [if_pos h0] at h;injection h with h;exact .inr (.inr (.inr (.inl ⟨h0.symm,h.symm⟩)))
 rw [if_neg h0] at h;exact .inr (.inr (.inr (.inr h)))
theorem U0 {p:Pg} {mv:List V} {fam:Heap} {id:Nat} (h:4<=id):look (naH p mv fam) id=look fam id:=by
 rw [ai,if_neg (by omega),ai,if_neg (by omega),ai,if_neg (by omega),ai,if_neg (by omega)]
theorem yx {p:Pg} {ls:List (List Str)} {ms:List MS} {mv:List V} {r n:Nat} (hms:ms.length=ls.length) (hn:n=ls.length):cQ (naH p mv (cY ls ms)) (cg mid 0 n++List.replicate r (.d .bg))=true:=by
 subst hn;rw [d6];intro v hv
 rcases aaZ.1 hv with hv|hv
 ·obtain ⟨k,hk⟩:=abW.1 hv
  have hkl:k<ls.length:=by
   rcases aa2 k ls.length with h|h
   ·exact h
   ·rw [aaJ (by rw [dz];exact h)] at hk;cases hk
  rw [li mid ls.length 0 k hkl] at hk;injection hk with hk
  subst hk;have:=rz (rid:=rid) (mid:=mid) (yt ls.length) (ls:=ls) (ms:=ms) (i:=0) (k:=k) (m:=ms[k]) (by omega) (by omega) (by simp [show k<ms.length by omega]);show (look _ _).isSome=true;rw [U0 (by simp [mid];omega)];show (look (kp rid mid 0 ls ms) _).isSome=true;rw [this];rfl
 ·rw [abN] at hv
  rw [hv.2];rfl
theorem G3 {p:Pg} {ls:List (List Str)} {ms:List MS} {R R' : gw} {H:Heap} {r n:Nat} (hms:ms.length=ls.length) (hl:ls.length<100000) (h1:pI (dx []) R H (naH p (cg mid 0 ls.length++List.replicate r (.d .bg)) (cY ls ms)) R')
  (e2:look H 2=some (.var (sCs p))) (e3:look H 3=some (.var (cg mid 0 ls.length++List.replicate r (.d .bg)))) (e0:look H 0=some (.map none (thE p.decls))) (e1:look H 1=some (.map none (fnE p.ag)))
  (ho:Over (cY ls ms) H):Weak ⟨R,H,n,[],2⟩ ⟨R',naH p (cg mid 0 ls.length++List.replicate r (.d .bg)) (cY ls ms),1000000,[],2⟩:=by
 refine Weak.looks h1 ?_ (by omega) (fun id h _=>?_)
 ·intro id x hx
  rcases zJ hx with ⟨rfl,rfl⟩|⟨rfl,rfl⟩|⟨rfl,rfl⟩|⟨rfl,rfl⟩|hx
  ·exact ⟨e2,rfl,by omega⟩
  ·exact ⟨e3,yx hms rfl,by omega⟩
  ·exact ⟨e0,rfl,by omega⟩
  ·exact ⟨e1,rfl,by omega⟩
  ·obtain ⟨g1,g2,g3,_⟩:=gj hx
   exact ⟨by rw [ho id g1 (by omega)];exact hx,g3 _,by omega⟩
 ·rcases (show id=0\/id=1 by omega) with rfl|rfl<;>rfl
end Uw.Tryz
namespace Uw.Tryz
open Go Uw
def ZN:ck:=qL (qL (qR (qL (qR (qR (qR (qR cJ.code)))))))
abbrev noL (n:Nat):List (List Str):=List.replicate n []
abbrev nmV (n:Nat):List V:=cg mid 0 (noL n).length++List.replicate 0 (.d .bg)
abbrev NP (p:Pg) (ms:List MS) (k:Nat):St:=⟨[(59,.d (I k)),(58,.d (I ((p.nodes.map ndL).length:Nat))),(57,.d (cv p.nodes)),(5,.row 3 (ak p).length),(1,.ptr 2 0)],naH p (nmV (ak p).length) (cY (noL (ak p).length) ms),1000000,[],2⟩
abbrev nmG (p:Pg) (k:Nat):Prop:=∀h:k<p.nodes.length,uV p p.nodes[k] ((bD p).getD k 0)=false
theorem Ky (p:Pg) (hf:bO p=true) (hp:Lim p) (R:Bool) (j:Nat) (hj:j<p.nodes.length) (hone:uV p p.nodes[j] ((bD p).getD j 0)=true->R=true) (hpre:∀i,i<j->nmG p i) (ms:List MS) (hms:ms=(ak p).map cG) {kk:aG->St->Tree} (hkk:∀s,kk .ret s=Tree.done .ret s) :
  WT P0 (nH (NP p ms) (Dt p.nodes.length (nmG p)) (forM p.nodes.length) j fun e s=>WT P0 (EQ 2 cJ.res (.d (.bool R)) (sBs p)) (kk e s)) (exec ZN (NP p ms j) Tree.done):=by
 have hN:=hp.nodes;have hF:=hp.ag;have hnl:(p.nodes.map ndL).length=p.nodes.length:=by simp
 have hll:=lU p;have ZO:(noL (ak p).length).length=(ak p).length:=by simp
 have Ru:(noL (ak p).length).length<100000:=by omega
 have YP:ms.length=(noL (ak p).length).length:=by rw [hms];simp
 have hvl:(nmV (ak p).length).length=(ak p).length:=by rw [aaw,dz];simp
 have hown:=Gz hf _ j hj (aax _);have hol:((bD p).map fun i=>[I i]).length=p.nodes.length:=by rw [aaT,fG]
 have hoe:((bD p).map fun i=>[I i])[(j:Int).toNat]? = some [I ((bD p).getD j 0)]:=by
  have h2:j<(bD p).length:=by rw [fG];exact hj
  simp [List.getD,h2]
 have he:(p.nodes.map ndL)[(j:Int).toNat]? = some (ndL p.nodes[j]):=by simp [hj]
 have hth:=yr p p.nodes[j].name;have hfn:=GR p p.nodes[j].name2;have hG:uV p p.nodes[j] ((bD p).getD j 0)=false->nmG p j:=fun h _=>h;have hd:∀x o,uV p x o=(if x.kind=10\/x.kind=11 then (eY p x.name2).isNone else if x.kind=8 then (bY p x.name).isNone else if x.kind=2 then (bY p x.name).isNone&&!decide (x.name∈(ak p).getD o.toNat []) else false):=fun x o=>rfl;rw [hd] at hone hG;clear hd;generalize (bD p).getD j 0=o at *;generalize p.nodes[j]=x at *;obtain ⟨xk,xn,xs,xt,xo⟩:=x;have he:(p.nodes.map ndL)[(j:Int).toNat]? = some [I xk,I xn,.str xs,.str xt,bN xo]:=he;simp only at hone hG hth hfn;obtain ⟨l,hl⟩:∃l,(ak p)[o.toNat]? = some l:=⟨(ak p)[o.toNat]'(by omega),by simp⟩
 have hld:(ak p).getD o.toNat []=l:=by rw [List.getD,hl];rfl
 rw [hld] at hone hG;have hmg:(nmV (ak p).length)[o.toNat * 1]? = some (.hnd (mid o.toNat)):=by
  rw [acZ,aaY (by rw [dz];omega),li mid _ 0 _ (by omega),aaF]
 have hlk:∀H,Over (cY (noL (ak p).length) ms) H->look H (mid o.toNat)=some (.map none (cG l)):=fun H ho=>by
  rw [ho _ (by simp only [mid];omega) (by simp only [mid];omega)];have:=rz (yt (noL (ak p).length).length) (ls:=noL (ak p).length) (ms:=ms) (i:=0) (k:=o.toNat) (m:=cG l) (by omega) (by omega) (by rw [hms];simp [hl])
  rwa [aaF] at this
 have hsg:=t6 l xs;have uX:∀(Rg:gw) (H:Heap) (nx:Nat),look H 2=some (.var (sCs p))->look H 3=some (.var (nmV (ak p).length))->look H 0=some (.map none (thE p.decls))->look H 1=some (.map none (fnE p.ag))->Over (cY (noL (ak p).length) ms) H->
   (∀mv fam,pI (dx []) Rg H (naH p mv fam) [(59,.d (I ((j+1:Nat):Int))),(58,.d (I ((p.nodes.map ndL).length:Nat))),(57,.d (cv p.nodes)),(5,.row 3 (ak p).length),(1,.ptr 2 0)])->Weak ⟨Rg,H,nx,[],2⟩ (NP p ms (j+1)):=by
  intro Rg H nx e2 e3 e0 e1 ho hR;exact G3 YP Ru (hR _ _) e2 e3 e0 e1 ho
 have hend:∀st:St,st.defers=[]->st.base=2->resV st cJ.res=some [.d (.bool true)]->look st.heap 0=some (.map none (thE p.decls))->look st.heap 1=some (.map none (fnE p.ag))->EQ 2 cJ.res (.d (.bool true)) (sBs p) .ret st:=by
  intro st h1 _ h3 h4 h5;refine ⟨.inr rfl,h1,_,h3,?_⟩;refine Weak.looks ⟨⟨_,rfl,.inl ⟨rfl,rfl⟩⟩,trivial⟩ ?_ (by show 2<=2;omega) (fun id h _=>?_)
  ·intro id y hy
   have:(id=0/\y = .map none (thE p.decls))\/(id=1/\y = .map none (fnE p.ag)):=by
    have hy:look [(0,Blk.map none (thE p.decls)),(1,Blk.map none (fnE p.ag))] id=some y:=hy;rw [ai] at hy;by_cases h0:0=id
    ·rw [if_pos h0] at hy;injection hy with hy;exact .inl ⟨h0.symm,hy.symm⟩
    rw [if_neg h0,ai] at hy;by_cases h0:1=id
    ·rw [if_pos h0] at hy;injection hy with hy;exact .inr ⟨h0.symm,hy.symm⟩
    rw [if_neg h0] at hy;cases hy
   rcases this with ⟨rfl,rfl⟩|⟨rfl,rfl⟩
   ·exact ⟨h4,rfl,by show 0<2;omega⟩
   ·exact ⟨h5,rfl,by show 1<2;omega⟩
  ·rcases (show id=0\/id=1 by omega) with rfl|rfl<;>rfl
 have hT:(bY p xs=none/\bh (thE p.decls) (.s xs)=none)\/∃kd,bY p xs=some kd/\bh (thE p.decls) (.s xs)=some (I kd):=by
  rw [hth]
  cases bY p xs with
  | none=>exact .inl ⟨rfl,rfl⟩
  | some kd=>exact .inr ⟨kd,rfl,rfl⟩
 have hU:(eY p xt=none/\bh (fnE p.ag) (.s xt)=none)\/∃i:Nat,eY p xt=some i/\bh (fnE p.ag) (.s xt)=some (I i):=by
  rw [hfn]
  cases eY p xt with
  | none=>exact .inl ⟨rfl,rfl⟩
  | some i=>exact .inr ⟨i,rfl,rfl⟩
 clear hth hfn;by_cases k1:xk=10\/xk=11
 ·rcases hU with ⟨u1,u2⟩|⟨i,u1,u2⟩
  ·rw [hone (by rw [if_pos k1,u1];rfl)]
   rcases k1 with rfl|rfl<;>rcases hT with ⟨_,t2⟩|⟨kd,_,t2⟩
   all_goals repeat (first|refine aw ?_|refine f1 ?_|refine m1 ?_)
   all_goals exact iY hkk (hend _ rfl rfl rfl rfl rfl)
  ·have hG1:=hG (by rw [if_pos k1,u1];rfl)
   rcases k1 with rfl|rfl<;>rcases hT with ⟨_,t2⟩|⟨kd,_,t2⟩
   all_goals repeat (first|refine aw ?_|refine f1 ?_|refine m1 ?_)
   all_goals refine aX j hG1 (uX _ _ _ rfl rfl rfl rfl (by (repeat refine bJ ?_ rfl);exact bI) (fun mv fam=>?_))
   all_goals (repeat' first|exact trivial|refine ⟨⟨_,rfl,?_⟩,?_⟩|exact dc (by first|with_reducible rfl|omega)|exact Or.inl ⟨rfl,rfl⟩)
 obtain ⟨k10,k11⟩:xk≠10/\xk≠11:=by omega
 by_cases k8:xk=8
 ·rcases hT with ⟨t1,t2⟩|⟨kd,t1,t2⟩
  ·rw [hone (by rw [if_neg k1,if_pos k8,t1];rfl)]
   subst k8
   rcases hU with ⟨_,u2⟩|⟨i,_,u2⟩
   all_goals repeat (first|refine aw ?_|refine f1 ?_|refine m1 ?_)
   all_goals exact iY hkk (hend _ rfl rfl rfl rfl rfl)
  ·have hG1:=hG (by rw [if_neg k1,if_pos k8,t1];rfl)
   subst k8
   rcases hU with ⟨_,u2⟩|⟨i,_,u2⟩
   all_goals repeat (first|refine aw ?_|refine f1 ?_|refine m1 ?_)
   all_goals refine aX j hG1 (uX _ _ _ rfl rfl rfl rfl (by (repeat refine bJ ?_ rfl);exact bI) (fun mv fam=>?_))
   all_goals (repeat' first|exact trivial|refine ⟨⟨_,rfl,?_⟩,?_⟩|exact dc (by first|with_reducible rfl|omega)|exact Or.inl ⟨rfl,rfl⟩)
 by_cases k2:xk=2
 ·rcases hT with ⟨t1,t2⟩|⟨kd,t1,t2⟩
  ·by_cases hin:xs∈l
   ·rw [if_pos hin] at hsg
    have hG1:=hG (by rw [if_neg k1,if_neg k8,if_pos k2,t1];simp [hin]);subst k2
    rcases hU with ⟨_,u2⟩|⟨i,_,u2⟩
    all_goals repeat (first|refine aw ?_|refine f1 ?_|refine m1 ?_)
    all_goals refine lY _ (hlk _ (by (repeat refine bJ ?_ rfl);exact bI)) ?_
    all_goals repeat (first|refine aw ?_|refine f1 ?_|refine m1 ?_)
    all_goals refine aX j hG1 (uX _ _ _ rfl rfl rfl rfl (by (repeat refine bJ ?_ rfl);exact bI) (fun mv fam=>?_))
    all_goals (repeat' first|exact trivial|refine ⟨⟨_,rfl,?_⟩,?_⟩|exact dc (by first|with_reducible rfl|omega)|exact Or.inl ⟨rfl,rfl⟩)
   ·rw [if_neg hin] at hsg
    rw [hone (by rw [if_neg k1,if_neg k8,if_pos k2,t1];simp [hin])];subst k2
    rcases hU with ⟨_,u2⟩|⟨i,_,u2⟩
    all_goals repeat (first|refine aw ?_|refine f1 ?_|refine m1 ?_)
    all_goals refine lY _ (hlk _ (by (repeat refine bJ ?_ rfl);exact bI)) ?_
    all_goals repeat (first|refine aw ?_|refine f1 ?_|refine m1 ?_)
    all_goals exact iY hkk (hend _ rfl rfl rfl rfl rfl)
  ·have hG1:=hG (by rw [if_neg k1,if_neg k8,if_pos k2,t1];rfl)
   subst k2
   rcases hU with ⟨_,u2⟩|⟨i,_,u2⟩
   all_goals repeat (first|refine aw ?_|refine f1 ?_|refine m1 ?_)
   all_goals refine aX j hG1 (uX _ _ _ rfl rfl rfl rfl (by (repeat refine bJ ?_ rfl);exact bI) (fun mv fam=>?_))
   all_goals (repeat' first|exact trivial|refine ⟨⟨_,rfl,?_⟩,?_⟩|exact dc (by first|with_reducible rfl|omega)|exact Or.inl ⟨rfl,rfl⟩)
 have hG1:=hG (by rw [if_neg k1,if_neg k8,if_neg k2])
 rcases hU with ⟨_,u2⟩|⟨i,_,u2⟩<;>rcases hT with ⟨_,t2⟩|⟨kd,_,t2⟩
 all_goals repeat (first|refine aw ?_|refine f1 ?_|refine m1 ?_)
 all_goals refine aX j hG1 (uX _ _ _ rfl rfl rfl rfl (by (repeat refine bJ ?_ rfl);exact bI) (fun mv fam=>?_))
 all_goals (repeat' first|exact trivial|refine ⟨⟨_,rfl,?_⟩,?_⟩|exact dc (by first|with_reducible rfl|omega)|exact Or.inl ⟨rfl,rfl⟩)
end Uw.Tryz
namespace Uw
open Go
theorem Weak.XH [Glob] (ρ:Nat->Nat) {R R' : gw} {H H' : Heap} {n n' b:Nat} (h1:pI ρ R H H' R') (h2:∀id x,look H' id=some x->(∃y,look H (ρ id)=some y/\oH ρ H H' y x)/\id<n')
  (h3:∀id id',(look H' id).isSome=true->(look H' id').isSome=true->ρ id=ρ id'->id=id') (hb:∀id,id<b->ρ id=id/\((look H id).isSome=true->(look H' id).isSome=true)) (hn:b<=n'):Weak ⟨R,H,n,[],b⟩ ⟨R',H',n',[],b⟩:=
 ⟨ρ,fun i v h=>kN h1 i v h,fun i x h=>.inl (h2 i x h).1,fun i x h=>(h2 i x h).2,rfl,hn,hb,h3,rfl,rfl⟩
end Uw
namespace Uw.Tryz
open Go Uw
def vL (j b:Nat) (id:Nat):Nat:=if id=mid j then b else id
theorem U1 {p:Pg} {k:Nat} {ms:List MS} {m:MS} {R R' : gw} {H:Heap} {r n b:Nat} {mv' : List V} (hms:ms.length=k) (hl:k<100000) (hb:1000000<=b)
  (h1:pI (vL k b) R H (naH p (cg mid 0 (k+1)++List.replicate r (.d .bg)) (cY (noL (k+1)) (ms++[m]))) R')
  (e2:look H 2=some (.var (sCs p))) (e3:look H 3=some (.var mv')) (hmv:mv' = cg mid 0 k++[.hnd b]++List.replicate r (.d .bg))
  (e0:look H 0=some (.map none (thE p.decls))) (e1:look H 1=some (.map none (fnE p.ag))) (eb:look H b=some (.map none m)) (ho:Over (cY (noL k) ms) H) :
  Weak ⟨R,H,n,[],2⟩ ⟨R',naH p (cg mid 0 (k+1)++List.replicate r (.d .bg)) (cY (noL (k+1)) (ms++[m])),1000000,[],2⟩:=by
 subst hmv;have hlow:∀i,i<4->vL k b i=i:=fun i h=>by unfold vL;rw [if_neg (by simp only [mid];omega)]
 have hm:∀i,i<k->vL k b (mid i)=mid i:=fun i h=>by unfold vL;rw [if_neg (by simp only [mid];omega)]
 have hmk:vL k b (mid k)=b:=by unfold vL;rw [if_pos rfl]
 have hnk:(noL k).length=k:=by simp
 have hlen:(noL (k+1)).length=k+1:=by simp
 have bd:∀i x,look (naH p (cg mid 0 (k+1)++List.replicate r (.d .bg)) (cY (noL (k+1)) (ms++[m]))) i=some x->i<1000000:=by
  intro i x hx
  rcases zJ hx with ⟨rfl,rfl⟩|⟨rfl,rfl⟩|⟨rfl,rfl⟩|⟨rfl,rfl⟩|hx
  ·omega
  ·omega
  ·omega
  ·omega
  ·have:=(gj hx).2.1
   rw [hlen] at this;omega
 refine Weak.XH (vL k b) h1 ?_ ?_ (fun id h=>⟨hlow id (by omega),fun _=>?_⟩) (by omega)
 ·intro id x hx
  refine ⟨?_,bd id x hx⟩
  rcases zJ hx with ⟨rfl,rfl⟩|⟨rfl,rfl⟩|⟨rfl,rfl⟩|⟨rfl,rfl⟩|hx
  ·exact ⟨_,by rw [hlow 2 (by omega)];exact e2,eh (by show Blk.var _=Blk.var (gk _ _);simp [gk,V.ren,hlow 0,hlow 1]) rfl⟩
  ·refine ⟨_,by rw [hlow 3 (by omega)];exact e3,eh ?_ (yx (by simp [hms]) hlen.symm)⟩
   show _=Blk.var (gk _ _);have hc:cg (fun i=>vL k b (mid i)) 0 k=cg mid 0 k:=pv k 0 fun i hi=>by simp only [aaF];exact hm i hi
   rw [qH,oz,ua,vI,hc];simp only [aaF];rw [hmk]
  ·exact ⟨_,by rw [hlow 0 (by omega)];exact e0,eh rfl rfl⟩
  ·exact ⟨_,by rw [hlow 1 (by omega)];exact e1,eh rfl rfl⟩
  ·obtain ⟨g1,g2,g3,g4⟩:=gj hx
   refine ⟨x,?_,eh (g4 _).symm (g3 _)⟩
   rcases xr hx with ⟨i,m',k1,k2,k3,rfl,rfl⟩|⟨i,l',k1,k2,k3,k4,rfl,rfl⟩
   ·rw [aaF]
    rw [hlen] at k1;by_cases hi:i<k
    ·rw [hm i hi,ho _ (by simp only [mid];omega) (by simp only [mid];omega)]
     have:=rz (yt (noL k).length) (ls:=noL k) (ms:=ms) (i:=0) (k:=i) (m:=m') (by omega) (by omega) (by rwa [aaY (by omega)] at k3)
     rwa [aaF] at this
    ·obtain rfl:i=k:=by omega
     rw [aa4 (by omega),hms,acu] at k3;injection k3 with k3
     rw [hmk,<- k3];exact eb
   ·exfalso
    have:=aaR k3;rw [abN] at this;exact k4 this.2
 ·intro id id' h h' he
  obtain ⟨x,hx⟩:=acp.1 h;obtain ⟨x',hx'⟩:=acp.1 h';have b1:=bd id x hx;have b2:=bd id' x' hx';unfold vL at he
  split at he<;>split at he<;>omega
 ·rcases (show id=0\/id=1 by omega) with rfl|rfl<;>rfl
end Uw.Tryz
namespace Uw.Tryz
open Go Uw
theorem NR {p:Pg} (h:eY p iJ=none):nameP p=true:=by rw [nameP,h];rfl
theorem NT {p:Pg} (j:Nat) (h:j<p.nodes.length) (hn:uV p p.nodes[j] ((bD p).getD j 0)=true):nameP p=true:=by
 have h2:j<(bD p).length:=by rw [fG];exact h
 have hz:j<(p.nodes.zip (bD p)).length:=by rw [acX];omega
 have:((p.nodes.zip (bD p)).any fun y=>uV p y.1 y.2)=true:=abK.2 ⟨_,aaQ hz,by
  rw [ada];simpa [List.getD,h2] using hn⟩
 rw [nameP,this];simp
theorem NU {p:Pg} (j:Nat) (h:j<p.decls.length) (hk:p.decls[j].kind<0\/3<p.decls[j].kind):nameP p=true:=by
 have:(p.decls.any fun d=>decide (d.kind<0)||decide (3<d.kind))=true:=abK.2 ⟨_,aaQ h,by simpa using hk⟩;rw [nameP,this];simp
theorem Rw {p:Pg} (h0:eY p iJ≠none) (h1:∀(j:Nat) (h:j<p.nodes.length),uV p p.nodes[j] ((bD p).getD j 0)=false) (h2:∀(j:Nat) (h:j<p.decls.length),¬(p.decls[j].kind<0\/3<p.decls[j].kind)):nameP p=false:=by
 have e1:((p.nodes.zip (bD p)).any fun y=>uV p y.1 y.2)=false:=abp.2 fun y hy=>by
  obtain ⟨j,hj,rfl⟩:=aa8.1 hy;rw [acX] at hj;have hj1:j<p.nodes.length:=by omega
  have hj2:j<(bD p).length:=by omega
  have:=h1 j hj1;rw [ada];simpa [List.getD,hj2] using this
 have e2:(p.decls.any fun d=>decide (d.kind<0)||decide (3<d.kind))=false:=abp.2 fun d hd=>by
  obtain ⟨j,hj,rfl⟩:=aa8.1 hd;have:=h2 j hj;simpa using this
 rw [nameP,e1,e2]
 cases h:eY p iJ with
 | none=>exact absurd h h0
 | some i=>rfl
end Uw.Tryz
namespace Uw.Tryz
open Go Uw
theorem VC {p:Pg} {k b nx:Nat} {ms:List MS} {m m' : MS} {R R' : gw} {H:Heap} {r n:Nat} {mv' : List V} (hms:ms.length=k) (hl:k<100000) (hb:1000000<=b) (hnx:b<nx) (hmv:mv' = cg mid 0 k++[.hnd b]++List.replicate r (.d .bg))
  (h1:pI (dx []) R H ((b,.map none m')::naH p mv' (cY (noL k) ms)) R') (e2:look H 2=some (.var (sCs p))) (e3:look H 3=some (.var mv')) (e0:look H 0=some (.map none (thE p.decls))) (e1:look H 1=some (.map none (fnE p.ag))) (eb:look H b=some (.map none m)) (hm:m=m')
  (ho:Over (cY (noL k) ms) H):Weak ⟨R,H,n,[],2⟩ ⟨R',(b,.map none m')::naH p mv' (cY (noL k) ms),nx,[],2⟩:=by
 subst hm;have hkl:(noL k).length=k:=by simp
 have hlk:∀i,(look (naH p mv' (cY (noL k) ms)) i).isSome=true->(look ((b,.map none m)::naH p mv' (cY (noL k) ms)) i).isSome=true:=by
  intro i h;rw [ai]
  split
  ·rfl
  ·exact h
 refine Weak.looks h1 ?_ (by omega) (fun id h _=>?_)
 ·intro id x hx
  rw [ai] at hx;by_cases h2:b=id
  ·rw [if_pos h2] at hx;injection hx with hx;subst h2 hx;exact ⟨eb,rfl,by omega⟩
  rw [if_neg h2] at hx
  rcases zJ hx with ⟨rfl,rfl⟩|⟨rfl,rfl⟩|⟨rfl,rfl⟩|⟨rfl,rfl⟩|hx
  ·refine ⟨e2,?_,by omega⟩
   show cQ _ _=true;rw [d6];intro v hv;simp only [sCs,aaN,List.mem_nil_iff,or_false] at hv
   rcases hv with rfl|rfl|rfl|rfl|rfl|rfl|rfl
   ·rfl
   ·rfl
   ·rfl
   ·exact hlk 0 rfl
   ·exact hlk 1 rfl
   ·rfl
   ·rfl
  ·refine ⟨e3,?_,by omega⟩
   show cQ _ _=true;have hc:=yx (p:=p) (ls:=noL k) (ms:=ms) (mv:=mv') (r:=r) (n:=k) (by rw [hkl,hms]) hkl.symm;rw [d6] at hc ⊢;intro v hv;rw [hmv] at hv
   rcases aaZ.1 hv with hv|hv
   ·rcases aaZ.1 hv with hv|hv
    ·obtain ⟨q,hq⟩:=abW.1 hv
     have hql:q<k:=by
      rcases aa2 q k with h|h
      ·exact h
      ·rw [aaJ (by rw [dz];exact h)] at hq;cases hq
     have hg:=li mid k 0 q hql;rw [hq] at hg;injection hg with hg
     have:=hc v (ac1 _ hv);rw [hg] at this ⊢;exact hlk _ this
    ·simp only [aaN,List.mem_nil_iff,or_false] at hv
     subst hv;show (look _ _).isSome=true;rw [ai,if_pos rfl];rfl
   ·rw [(abN.1 hv).2];rfl
  ·exact ⟨e0,rfl,by omega⟩
  ·exact ⟨e1,rfl,by omega⟩
  ·obtain ⟨g1,g2,g3,_⟩:=gj hx
   rw [hkl] at g2;exact ⟨by rw [ho id g1 (by omega)];exact hx,g3 _,by omega⟩
 ·rcases (show id=0\/id=1 by omega) with rfl|rfl
  ·exact hlk 0 rfl
  ·exact hlk 1 rfl
end Uw.Tryz
namespace Uw.Tryz
open Go Uw
abbrev nL (p:Pg):Nat:=((ak p).map fun l=>[gV l]).length
abbrev nmR (p:Pg):gw:=[(5,.row 3 (nL p)),(1,.ptr 2 0)]
abbrev Rx (n r:Nat):List V:=cg mid 0 n++List.replicate r (.d .bg)
abbrev Kz (p:Pg) (j:Nat):St:=⟨(33,.d (I j))::(32,.d (I (nL p:Nat)))::(31,.d (tA (ak p)))::nmR p,naH p (Rx j (nL p - j)) (cY (noL j) (((ak p).take j).map cG)),1000000,[],2⟩
theorem Jd {k b i:Nat} (h:i<4):vL k b i=i:=by unfold vL;rw [if_neg (by simp only [mid];omega)]
theorem U2 {j b k n:Nat} {h h' : Heap} (hk:k<4) (hc:(look h' k).isSome=true):VW (vL j b) h h' (.row k n) (.row k n):=.inl ⟨by rw [V.ren,Jd hk],hc⟩
theorem U3 {j b k o:Nat} {h h' : Heap} (hk:k<4) (hc:(look h' k).isSome=true):VW (vL j b) h h' (.ptr k o) (.ptr k o):=.inl ⟨by rw [V.ren,Jd hk],hc⟩
theorem U4 {p:Pg} {k b:Nat} {R:gw} {H:Heap} {mv:List V} {fam:Heap} (h5:look R 5=some (.row 3 (nL p))) (h1:look R 1=some (.ptr 2 0)):pI (vL k b) R H (naH p mv fam) (nmR p):=
 ⟨⟨_,h5,U2 (by omega) rfl⟩,⟨_,h1,U3 (by omega) rfl⟩,trivial⟩
def ZP:ck:=qL (qL (qR (qL (qR (qR (qR cJ.code))))))
theorem Je (p:Pg) (hp:Lim p) (hls:∀l∈ak p,l.length<1000000000) (j:Nat) (hj:j<nL p) (hpre:∀i,i<j->True) {QQ:aG->St->Prop}:WT P0 (nH (Kz p) (Dt (nL p) fun _=>True) (forM (nL p)) j QQ) (exec ZP (Kz p j) Tree.done):=by
 have hnl:nL p=(ak p).length:=by simp
 have hll:=lU p;have hF:=hp.ag;have hj2:j<(ak p).length:=by rw [<- hnl];exact hj
 have he:((ak p).map fun l=>[gV l])[(j:Int).toNat]? = some [gV (ak p)[j]]:=by simp [hj2]
 have hml:(Rx j (nL p - j)).length=nL p:=by rw [aaw,dz,abA];omega
 have hlL:=hls _ (aaQ hj2);have htk:(ak p).take (j+1)=(ak p).take j++[(ak p)[j]]:=aaz hj2;have hms:(((ak p).take j).map cG).length=j:=by rw [aaT,aa5];omega
 generalize (ak p)[j]=l at *;have he:((ak p).map fun l=>[gV l])[(j:Int).toNat]? = some [.slice 1 (l.map fun s=>[Dat.str s]) false]:=he;have hrl:(l.map fun s=>[Dat.str s]).length=l.length:=by simp
 have hsm:∀v,(Rx j (nL p - j)).set ((j:Int).toNat * 1) v=cg mid 0 j++[v]++List.replicate (nL p - (j+1)) (.d .bg):=fun v=>by
  have:=GL (cg mid 0 j) (V.d .bg) v (nL p - (j+1));rw [dz,show nL p - (j+1)+1=nL p - j by omega] at this;rw [show (j:Int).toNat * 1=j by omega];exact this
 have hS:Kz p (j+1)=⟨(33,.d (I ((j+1:Nat):Int)))::(32,.d (I (nL p:Nat)))::(31,.d (tA (ak p)))::nmR p,naH p (cg mid 0 (j+1)++List.replicate (nL p - (j+1)) (.d .bg)) (cY (noL (j+1)) (((ak p).take j).map cG++[cG l])),1000000,[],2⟩:=by
  rw [Kz,htk,abn];rfl
 have hl5:j<100000:=by omega
 obtain ⟨E,hE⟩:∃E:Nat->MS,∀i,E i=cG (l.take i):=⟨_,fun _=>rfl⟩
 have hE0:([]:MS)=E 0:=by rw [hE];rfl
 have hEn:E l.length=cG l:=by rw [hE,aaK]
 have hEs:∀(i:Nat) (h:i<l.length),dQ (E i) (.s l[i]) (.bool true)=E (i+1):=fun i h=>by rw [hE,hE,aaz h,rA]
 have hge:∀(i:Nat) (h:i<l.length),(l.map fun s=>[Dat.str s])[(i:Int).toNat]? = some [.str l[i]]:=fun i h=>by simp [h]
 obtain ⟨mv',hmv⟩:∃mv',mv' = cg mid 0 j++[V.hnd 1000000]++List.replicate (nL p - (j+1)) (.d .bg):=⟨_,rfl⟩
 have Ri:(Rx j (nL p - j)).set ((j:Int).toNat * 1) (V.hnd 1000000)=mv':=by rw [hsm,hmv]
 have hmg:mv'[(j:Int).toNat * 1]? = some (.hnd 1000000):=by
  rw [hmv,aaD,aa4 (by rw [dz];omega),dz];simp
 have ZI:mv'.length=nL p:=by rw [<- Ri,acr];exact hml
 repeat (first|refine aw ?_|refine f1 ?_)
 refine dp l.length (fun i:Nat=>⟨(44,.d (I i))::(43,.d (I ((l.map fun s=>[Dat.str s]).length:Nat)))::(42,.d (gV l))::(6,.d (I j))::(33,.d (I j))::(32,.d (I (nL p:Nat)))::(31,.d (tA (ak p)))::nmR p,(1000000,.map none (E i))::naH p mv' (cY (noL j) (((ak p).take j).map cG)),1000001,[],2⟩) (fun _=>True) ?_ (fun _=>?_) (fun i hi _=>?_)
 ·refine VC hms hl5 (aax _) (by omega) hmv ?_ rfl (by rw [<- Ri];rfl) rfl rfl rfl hE0 (by (repeat refine bJ ?_ rfl);exact bI)
  repeat' first|exact trivial|refine ⟨⟨_,rfl,?_⟩,?_⟩|exact dc (by first|with_reducible rfl|omega)|exact Or.inl ⟨rfl,rfl⟩
 ·refine aw ?_
  refine aJ ?_;refine aw ?_;refine aX j trivial (fH hS ?_);exact U1 (b:=1000000) hms hl5 (by omega) ⟨⟨_,rfl,dc rfl⟩,⟨_,rfl,.inl ⟨rfl,rfl⟩⟩,⟨_,rfl,.inl ⟨rfl,rfl⟩⟩,U4 rfl rfl⟩ rfl rfl hmv rfl rfl (by rw [<- hEn];rfl) (by (repeat refine bJ ?_ rfl);exact bI)
 have hg:=hge i hi;have hs:=hEs i hi;generalize l[i]=nm at *
 repeat (first|refine aw ?_|refine f1 ?_)
 refine Ak ((1000000,.map none (dQ (E i) (.s nm) (.bool true)))::naH p mv' (cY (noL j) (((ak p).take j).map cG))) (LO _ _ _ _) ?_
 repeat (first|refine aw ?_|refine f1 ?_)
 refine aX i trivial ?_;refine VC hms hl5 (aax _) (by omega) hmv ?_ rfl rfl rfl rfl rfl hs (by (repeat refine bJ ?_ rfl);exact bI)
 repeat' first|exact trivial|refine ⟨⟨_,rfl,?_⟩,?_⟩|exact dc (by first|with_reducible rfl|omega)|exact Or.inl ⟨rfl,rfl⟩
end Uw.Tryz
namespace Uw.Tryz
open Go Uw
theorem G4 (p:Pg) (hp:Lim p):∀l∈ak p,l.length<1000000000:=fun l hl=>by
 obtain ⟨i,hi,rfl⟩:=aa8.1 hl;have hN:=hp.nodes;have:=Cc p hp p.nodes.length i (ak p)[i] (by rw [xy];simp [hi]);omega
abbrev XI (p:Pg) (j:Nat):St:=⟨[(114,.d (I j)),(113,.d (I ((p.decls.map cO).length:Nat))),(112,.d (.slice 3 (p.decls.map cO) false))],[(0,.map none (thE p.decls)),(1,.map none (fnE p.ag))],2,[],2⟩
abbrev U5 (p:Pg) (k:Nat):Prop:=∀h:k<p.decls.length,¬(p.decls[k].kind<0\/3<p.decls[k].kind)
def ZQ:ck:=qL (qL (qR (qL (qR (qR (qR (qR (qR cJ.code))))))))
theorem Jf (p:Pg) (hp:Lim p) (R:Bool) (j:Nat) (hj:j<p.decls.length) (hone:p.decls[j].kind<0\/3<p.decls[j].kind->R=true) (hpre:∀i,i<j->U5 p i) {kk:aG->St->Tree} (hkk:∀s,kk .ret s=Tree.done .ret s) :
  WT P0 (nH (XI p) (Dt p.decls.length (U5 p)) (forM p.decls.length) j fun e s=>WT P0 (EQ 2 cJ.res (.d (.bool R)) (sBs p)) (kk e s)) (exec ZQ (XI p j) Tree.done):=by
 have hD:=hp.decls;have hdl:(p.decls.map cO).length=p.decls.length:=by simp
 have he:(p.decls.map cO)[(j:Int).toNat]? = some (cO p.decls[j]):=by simp [hj]
 have hG:¬(p.decls[j].kind<0\/3<p.decls[j].kind)->U5 p j:=fun h _=>h;generalize p.decls[j]=x at *;obtain ⟨xk,xn,xv⟩:=x;simp only at hone hG
 first
  | (have he:(p.decls.map cO)[(j:Int).toNat]? = some [I xk,.str xn,I xv]:=he)
  | skip
 by_cases k0:xk<0
 ·rw [hone (.inl k0)]
  repeat (first|refine aw ?_|refine f1 ?_)
  refine iY hkk (aF 2 rfl rfl ?_);exact Uw.wM
 by_cases k3:3<xk
 ·rw [hone (.inr k3)]
  repeat (first|refine aw ?_|refine f1 ?_)
  refine iY hkk (aF 2 rfl rfl ?_);exact Uw.wM
 have hG1:=hG (by omega)
 repeat (first|refine aw ?_|refine f1 ?_)
 exact aX j hG1 (by exact Uw.wM)
theorem DT (p:Pg) (hf:bO p=true) (hp:Lim p):aE P0 jf [.agg (sCs p)] (sBs p) (.d (.bool (nameP p))) (sBs p):=by
 have hmn:=GR p iJ
 cases hm:eY p iJ with
 | none=>
  rw [NR hm];rw [hm] at hmn;have hmn:bh (fnE p.ag) (.s [109,97,105,110])=none:=hmn;refine ax lJ rfl ?_
  repeat (first|refine aw ?_|refine f1 ?_|refine m1 ?_)
  refine aF 2 rfl rfl ?_;exact Uw.wM
 | some i0=>
 rw [hm] at hmn;have hmn:bh (fnE p.ag) (.s [109,97,105,110])=some (I (i0:Nat)):=hmn;have hll:=lU p;have hF:=hp.ag;have hN:=hp.nodes;have hD:=hp.decls;have hi0:i0<p.ag.length:=by
  rw [eY] at hm;exact (aby.1 hm).1
 have hnl:nL p=(ak p).length:=by simp
 have hmk:(decide (((nL p:Nat):Int)=(nL p:Nat))&&decide ((0:Int)<=(nL p:Nat))&&decide ((((nL p:Nat):Nat):Int) * ((8:Nat):Int)<=70368744177664))=true:=by rw [hnl];simp;omega
 have hpi:(0:Int)<(nL p:Nat):=by omega
 have Z5:(p.nodes.map ndL).length=p.nodes.length:=by simp
 have hdl:(p.decls.map cO).length=p.decls.length:=by simp
 have h0:eY p iJ≠none:=by rw [hm];exact fun h=>by cases h
 have YV:=fun j (h:j<p.nodes.length)=>NT (p:=p) j h;have zY:=fun j (h:j<p.decls.length)=>NU (p:=p) j h;have hall:=fun h1 h2=>Rw (p:=p) h0 h1 h2;clear hm h0;have hls:=G4 p hp;have hSn:Kz p (nL p)=⟨(33,.d (I (nL p:Nat)))::(32,.d (I (nL p:Nat)))::(31,.d (tA (ak p)))::nmR p,naH p (nmV (ak p).length) (cY (noL (ak p).length) ((ak p).map cG)),1000000,[],2⟩:=by
  have e:(ak p).take (nL p)=ak p:=aaG (by omega);have e2:Rx (nL p) (nL p - nL p)=nmV (ak p).length:=by
   show _=cg mid 0 (noL (ak p).length).length++_;rw [acu,hnl,abA]
  rw [Kz,e,e2];rw [show noL (nL p)=noL (ak p).length by rw [hnl]]
 have hS0:NP p ((ak p).map cG) 0=⟨(59,.d (I ((0:Nat):Int)))::(58,.d (I ((p.nodes.map ndL).length:Nat)))::(57,.d (cv p.nodes))::nmR p,naH p (nmV (ak p).length) (cY (noL (ak p).length) ((ak p).map cG)),1000000,[],2⟩:=by
  rw [NP,nmR,hnl]
 have ZO:(noL (ak p).length).length=(ak p).length:=by simp
 have hms:((ak p).map cG).length=(noL (ak p).length).length:=by simp
 have Ru:(noL (ak p).length).length<100000:=by omega
 generalize nameP p=R at *;refine ax lJ rfl ?_
 repeat (first|refine aw ?_|refine f1 ?_|refine m1 ?_)
 refine dp (nL p) (Kz p) (fun _=>True) ?_ (fun _=>?_) (fun j hj hpre=>?_);rotate_left 2
 ·exact Je p hp hls j hj hpre
 ·refine G3 (ls:=noL 0) (ms:=[]) (r:=nL p - 0) rfl (by simp) ?_ rfl rfl rfl rfl (by (repeat refine bJ ?_ rfl);exact bI)
  repeat' first|exact trivial|refine ⟨⟨_,rfl,?_⟩,?_⟩|exact dc (by first|with_reducible rfl|omega)|exact Or.inl ⟨rfl,rfl⟩
 rw [hSn];refine aw ?_;refine aJ ?_
 repeat (first|refine aw ?_|refine f1 ?_)
 refine dp p.nodes.length (NP p ((ak p).map cG)) (nmG p) (fH hS0 ?_) (fun g2=>?_) (fun j hj hpre=>?_);rotate_left 2
 ·exact Ky p hf hp R j hj (YV j hj) hpre _ rfl (fun s=>rfl)
 ·refine G3 (r:=0) hms Ru ?_ rfl rfl rfl rfl (by (repeat refine bJ ?_ rfl);exact bI)
  repeat' first|exact trivial|refine ⟨⟨_,rfl,?_⟩,?_⟩|exact dc (by first|with_reducible rfl|omega)|exact Or.inl ⟨rfl,rfl⟩
 have hall:=hall fun j h=>g2 j h h;refine aw ?_;refine aJ ?_
 repeat (first|refine aw ?_|refine f1 ?_)
 refine dp p.decls.length (XI p) (U5 p) ?_ (fun g3=>?_) (fun j hj hpre=>?_);rotate_left 2
 ·exact Jf p hp R j hj (zY j hj) hpre (fun s=>rfl)
 ·exact Uw.wM
 rw [hall fun j h=>g3 j h h];refine aw ?_;refine aJ ?_
 repeat (first|refine aw ?_|refine f1 ?_)
 refine aF 2 rfl rfl ?_;exact Uw.wM
theorem Jg (p:Pg) (hp:Lim p):Ret P0 o6 [pgD p] (I (pT p)):=XG p hp fun hf=>DT p hf hp
end Uw.Tryz
namespace Uw.Tryz
open Go Uw
theorem y9 {g:Int->Nat->List In4} (hg:∀k a b,(g k a).length=(g k b).length):∀(l:List Int) (a b:Nat),(layAll g l a).length=(layAll g l b).length
 | [],_,_=>rfl
 | k::r,a,b=>by rw [layAll,layAll,aaw,aaw,hg k a b,y9 hg r _ (b+(g k b).length)]
theorem Jh {ns:List Nd} {N:Nms}:∀(f:Nat) (k:Int) (a b:Nat),(lT ns N f k a).length=(lT ns N f k b).length
 | 0,_,_,_=>rfl
 | f+1,k,a,b=>by
  have ih:=Jh (ns:=ns) (N:=N) f;rw [lT,lT];simp only
  split
  ·split
   ·simp only [aaw,aaA]
    rw [ih _ a b,ih _ (a+_+1) (b+(lT ns N f (((ns.getD k.toNat default).of).getD 0 0) b).length+1)]
   ·simp only [aaw,aaA]
    rw [ih _ a b,ih (((ns.getD k.toNat default).of).getD 1 0) (a+_+1) (b+(lT ns N f (((ns.getD k.toNat default).of).getD 0 0) b).length+1),ih (((ns.getD k.toNat default).of).getD 2 0) _ (b+(lT ns N f (((ns.getD k.toNat default).of).getD 0 0) b).length+1+(lT ns N f (((ns.getD k.toNat default).of).getD 1 0) (b+(lT ns N f (((ns.getD k.toNat default).of).getD 0 0) b).length+1)).length+1)]
  ·split
   ·simp only [aaw,aaA]
    rw [ih _ a b,ih _ (a+_+1) (b+(lT ns N f (((ns.getD k.toNat default).of).getD 0 0) b).length+1)]
   ·rw [aaw,aaw,y9 ih _ a b]
def zt (ns:List Nd) (N:Nms) (k:Int):Nat:=(lay ns N k 0).length
theorem xE {ns:List Nd} {N:Nms} (k:Int) (a:Nat):(lay ns N k a).length=zt ns N k:=Jh _ _ _ _
theorem Ry (N:Nms) (x:Nd):(ku N x).length<=1:=by
 unfold ku
 repeat' split
 all_goals simp
theorem Ji {ns:List Nd} {N:Nms}:∀(l:List Int) (a:Nat),(layAll (lay ns N) l a).length=(l.map (zt ns N)).sum
 | [],_=>rfl
 | k::r,a=>by rw [layAll,aaw,xE,Ji r,abG,adt]
theorem CY {l:List Int} {W:Int->Nat}:(l.length=2->(l.map W).sum=W (l.getD 0 0)+W (l.getD 1 0))/\(l.length=3->(l.map W).sum=W (l.getD 0 0)+W (l.getD 1 0)+W (l.getD 2 0)):=by
 constructor
 ·intro h
  match l,h with
  | [a,b],_=>simp
 ·intro h
  match l,h with
  | [a,b,c],_=>simp;omega
theorem U6 {ns:List Nd} {N:Nms} (hL:Lays ns) (k:Nat) (hk:k<ns.length):zt ns N (k:Int)<=2+(ns[k].of.map (zt ns N)).sum:=by
 rw [zt,Rh N hL k hk 0];have h13:=hL.ifs k hk;have h14:=hL.GK k hk
 split
 ·rename_i k13
  split
  ·rename_i h3
   have h2:ns[k].of.length=2:=by have:=h13 k13;omega
   rw [CY.1 h2];simp only [aaw,aaA,xE];omega
  ·rename_i h3
   have h2:ns[k].of.length=3:=by have:=h13 k13;omega
   rw [CY.2 h2];simp only [aaw,aaA,xE];omega
 ·split
  ·rename_i k14
   rw [CY.1 (h14 k14)];simp only [aaw,aaA,aa3,xE];omega
  ·rw [aaw,Ji]
   have:=Ry N ns[k];omega
theorem EP {W:Int->Nat} {c:Nat}:∀(l:List Nd) (w:List Nat),w.length=l.length->(∀(i:Nat) (h:i<l.length),w.getD i 0<=c+(l[i].of.map W).sum)->w.sum<=c * l.length+((l.flatMap (·.of)).map W).sum
 | [],w,hw,_=>by
  have:w=[]:=aaM hw;subst this;simp
 | x::l,[],hw,_=>by simp at hw
 | x::l,v::w,hw,h=>by
  have h0:=h 0 (by simp);have ih:=EP l w (by simpa using hw) fun i hi=>h (i+1) (Nat.succ_lt_succ hi);simp only [List.getD_cons_zero,ab8] at h0;rw [adt,abk,abn,List.sum_append,aaA,Nat.mul_add];omega
theorem NV {p:Pg} (h:bO p=true):(jr p).Perm ((List.range p.nodes.length).map fun (k:Nat)=>(k:Int)):=by
 refine (List.perm_ext_iff_of_nodup (BN h) ?_).2 fun a=>⟨fun ha=>?_,fun ha=>?_⟩
 ·rw [acJ,List.pairwise_map]
  exact (acJ.1 List.nodup_range).imp fun hab e=>hab (Int.ofNat.inj e)
 ·obtain ⟨h1,h2⟩:=zI h a ha
  exact abu.2 ⟨a.toNat,abV.2 (by omega),by omega⟩
 ·obtain ⟨k,hk,rfl⟩:=abu.1 ha
  refine List.count_pos_iff.1 ?_;rw [ry h k (abV.1 hk)];decide
theorem U7 {l:List Nat} {a:Nat} (h:a∈l):a<=l.sum:=by
 induction l with
 | nil=>simp at h
 | cons b l ih=>
  rw [adt]
  rcases aaN.1 h with rfl|h
  ·omega
  ·have:=ih h;omega
theorem U8 {p:Pg} (h:bO p=true) (N:Nms) (f:Nat) (hf:f<p.ag.length) (a:Nat):(lay p.nodes N p.ag[f].body a).length<=2 * p.nodes.length:=by
 have hL:=y5 h;have h1:=EP (c:=2) (W:=zt p.nodes N) p.nodes ((List.range p.nodes.length).map fun (k:Nat)=>zt p.nodes N (k:Int)) (by simp) fun i hi=>by
  have:=U6 (N:=N) hL i hi;simpa [List.getD,hi] using this
 have h2:=((NV h).map (zt p.nodes N)).sum_nat;rw [jr,abn,List.sum_append,acU,acU] at h2;have h3:(zt p.nodes N ∘ fun (k:Nat)=>(k:Int))=fun (k:Nat)=>zt p.nodes N (k:Int):=rfl;rw [h3] at h2;have h4:zt p.nodes N p.ag[f].body<=(p.ag.map (zt p.nodes N ∘ fun x=>x.body)).sum:=U7 (abu.2 ⟨p.ag[f],aaQ hf,rfl⟩);rw [xE];omega
abbrev cnB (p:Pg):List Blk:=[.map none (tgE p.decls),.map none (fuE p.ag),.map none (hpE p.ag.length (dA p))]
abbrev cnV (p:Pg):V:=.agg [.hnd 0,.hnd 1,.hnd 2,.d (bN (mJ p (dA p)))]
def lcE (l:List Str):MS:=l.zipIdx.foldl (fun es y=>dQ es (.s y.1) (I ((y.2:Nat):Int))) []
theorem KA (l:List Str):lcE l=hpE 0 l:=by simp [lcE,hpE]
theorem XJ (s:Str) (l:List Str) (h:l.Nodup):bh (lcE l) (.s s)=(uF l s).map I:=by
 rw [KA,Kw 0 s l h]
 cases uF l s<;>simp
theorem Rz (l:List Str) (s:Str):lcE (l++[s])=dQ (lcE l) (.s s) (I (l.length:Nat)):=by rw [KA,KA,CP,aaF]
abbrev iP0:In4:=⟨1,0,0,0⟩
abbrev iRt:In4:=⟨17,0,0,0⟩
def mkF (p:Pg) (l:List Str):Mk:=⟨p.nodes,tgE p.decls,fuE p.ag,hpE p.ag.length (dA p),lcE l,bN (mJ p (dA p))⟩
theorem YW {p:Pg} (h:May p) (f:Nat) (hf:f<p.ag.length):XA (mkF p ((ak p).getD f [])) (Kq p f):=by
 refine ⟨fun s=>?_,fun s=>?_,fun s=>?_,fun s=>?_⟩
 ·show bh (tgE p.decls) (.s s)=_
  rw [Xy p h.names.1];show _=((bY p s).map fun k=>(k,((Rf p s:Nat):Int))).map _
  cases bY p s<;>rfl
 ·show (bh (fuE p.ag) (.s s)).getD (I 0)=I (((eY p s).getD 0:Nat):Int)
  rw [Kv p h.names.2.1]
  cases eY p s<;>rfl
 ·show (bh (hpE p.ag.length (dA p)) (.s s)).getD (I 0)=I (match uF (dA p) s with|some i=>(p.ag.length:Nat)+i|none=>0)
  have e:=Kw p.ag.length s (dA p) (tC _ _ ac0);rw [e]
  cases uF (dA p) s<;>rfl
 ·show bh (lcE ((ak p).getD f [])) (.s s)=(uF ((ak p).getD f []) s).map I
  rw [XJ];have:=(h.locals f hf).1.2.1;rw [h.lof f hf] at this;exact this
theorem NW (p:Pg) (te fe he:MS) (pi:List Int) (l:List Str) (c0:List In4) (f kb:Nat) (ga:List Str) (gn:Str) (hp:Lim p) (hloc:Ret P0 nS [pgD p,I f] (gV l)) (NN:(p.ag.map fuL)[(f:Int).toNat]? = some [.str gn,.slice 1 (ga.map fun s=>[Dat.str s]) false,I kb]) (hfi:(f:Int)<((p.ag.map fuL).length:Nat)) (hl:l.length<=16) (hc0:c0.length<900000)
  (ER:aE P0 aY [.ptr 0 0,.d (I kb)] (mkB ⟨p.nodes,te,fe,he,lcE l,bN pi⟩ []) (.tuple []) (mkB ⟨p.nodes,te,fe,he,lcE l,bN pi⟩ c0)) :
  aE P0 iy [pgA p,.agg [.hnd 0,.hnd 1,.hnd 2,.d (bN pi)],.d (I f)] [.map none te,.map none fe,.map none he] (.agg [.d (I (ga.length:Nat)),.d (I (l.length:Nat)),.ref 3 (c0++[iP0]++[iRt]).length 0 (c0++[iP0]++[iRt]).length]) [.map none te,.map none fe,.map none he,.mt 4 (c0++[iP0]++[iRt]).length ((c0++[iP0]++[iRt]).map in4)]:=by
 have y8:=bW ⟨p.nodes,te,fe,he,lcE l,bN pi⟩ c0 (by omega) 1 0 0 0;have CU:=bW ⟨p.nodes,te,fe,he,lcE l,bN pi⟩ (c0++[iP0]) (by simp;omega) 17 0 0 0;generalize (c0++[iP0]++[iRt])=c2 at *;generalize (c0++[iP0])=c1 at *;have hF:=hp.ag;have hsl:(l.map fun s=>[Dat.str s]).length=l.length:=by simp
 have hgl:(ga.map fun s=>[Dat.str s]).length=ga.length:=by simp
 obtain ⟨E,hE⟩:∃E:Nat->MS,∀j,E j=lcE (l.take j):=⟨_,fun _=>rfl⟩
 have hE0:E 0=[]:=by rw [hE];rfl
 have hEn:lcE l=E l.length:=by rw [hE,aaK]
 have hst:∀(j:Nat) (h:j<l.length),dQ (E j) (.s l[j]) (I (j:Nat))=E (j+1):=fun j h=>by
  rw [hE,hE,aaz h,Rz,aa5,acE (by omega)]
 have hel:∀(j:Nat) (h:j<l.length),(l.map fun s=>[Dat.str s])[(j:Int).toNat]? = some [.str l[j]]:=fun j h=>by simp [h]
 rw [hEn] at ER y8 CU;clear hEn hE;rw [<- hgl,<- hsl];refine ax zg rfl ?_
 repeat (first|refine aw ?_|refine f1 ?_|refine m1 ?_)
 refine dp l.length (fun j=>⟨[(27,.d (I j)),(26,.d (I ((l.map fun s=>[Dat.str s]).length:Nat))),(25,.d (gV l)),(9,.d (gV l)),(8,.ptr 8 0),(7,.ptr 6 0),(6,.ptr 5 0)],[(7,.map none (E j)),(8,.var [.d (cv p.nodes),.hnd 0,.hnd 1,.hnd 2,.d (bN pi),.hnd 7,.d .nil]),(6,.var [.d (.str gn),.d (.slice 1 (ga.map fun s=>[Dat.str s]) false),.d (I kb)]),(5,.var [.d (I 0),.d (I 0),.d .nil]),(2,.map none he),(1,.map none fe),(0,.map none te)],9,[],3⟩) (fun _=>True) (fH (by rw [hE0]) ?_) (fun _=>?_) (fun j hj _=>?_)
 ·exact Uw.wM
 rotate_left 1
 ·have he2:=hel j hj
  have hs:=hst j hj;generalize l[j]=s at *
  repeat (first|refine aw ?_|refine f1 ?_|refine m1 ?_)
  exact aX j trivial (by exact Uw.wM)
 clear hel hst
 repeat (first|refine aw ?_|refine f1 ?_)
 refine aJ ?_
 repeat (first|refine aw ?_|refine f1 ?_)
 refine ad 9 [8,0,1,2,7] ER ?_
 repeat (first|refine aw ?_|refine f1 ?_)
 refine ad 10 [8,0,1,2,7,9] y8 ?_
 repeat (first|refine aw ?_|refine f1 ?_)
 refine ad 10 [8,0,1,2,7,9] CU ?_
 repeat (first|refine aw ?_|refine f1 ?_)
 refine aF 3 rfl rfl (Weak.ofR [(3,9)] ?_ ?_ rfl rfl ?_ rfl rfl rfl)
 ·refine ⟨⟨_,rfl,?_⟩,trivial⟩
  exact Or.inr (Or.inr (Or.inr (Or.inr (Or.inl ⟨_,_,rfl,rfl,.inl ⟨rfl,rfl⟩,.inl ⟨rfl,rfl⟩,.inl ⟨rfl,rfl⟩,trivial⟩))))
 ·exact ⟨⟨.inl ⟨_,rfl,⟨rfl,rfl⟩⟩,rfl⟩,⟨.inl ⟨_,rfl,⟨rfl,rfl⟩⟩,rfl⟩,⟨.inl ⟨_,rfl,⟨rfl,rfl⟩⟩,rfl⟩,⟨.inl ⟨_,rfl,⟨rfl,rfl,rfl⟩⟩,rfl⟩,trivial⟩
 ·exact ⟨⟨rfl,fun _=>rfl⟩,⟨rfl,fun _=>rfl⟩,⟨rfl,fun _=>rfl⟩,trivial⟩
theorem U9 (p:Pg) (hp:Lim p) (hm:May p) (f:Nat) (hf:f<p.ag.length):aE P0 iy [pgA p,cnV p,.d (I f)] (cnB p) (.agg [.d (I (p.ag[f].args.length:Nat)),.d (I (((ak p).getD f []).length:Nat)),.ref 3 (jc p f p.ag[f]).ins.length 0 (jc p f p.ag[f]).ins.length]) (cnB p++[.mt 4 (jc p f p.ag[f]).ins.length ((jc p f p.ag[f]).ins.map in4)]):=by
 have hF:=hp.ag;have hN:=hp.nodes;have hloc:=CB p hp f;have hll:=(hm.locals f hf)
 rw [hm.lof f hf] at hloc hll;have hlen:=hll.2;have hfb:=tz hm.formed f hf;have hfew:=U8 hm.formed (Kq p f) f hf 0;have hbody:(jc p f p.ag[f]).ins=lay p.nodes (Kq p f) p.ag[f].body 0++[iP0]++[iRt]:=by simp [jc,lay]
 obtain ⟨kb,hkb⟩:∃k:Nat,p.ag[f].body=(k:Int):=⟨p.ag[f].body.toNat,by omega⟩
 have ER:=CW (mkF p ((ak p).getD f [])) (Kq p f) (YW hm f hf) (y5 hm.formed) (fun i h=>Nat.lt_trans (hp.of _ (aaQ h)) (by decide)) kb (by show kb<p.nodes.length;omega) [];rw [hkb] at hfew hbody;have ER:aE P0 aY [.ptr 0 0,.d (I kb)] (mkB (mkF p ((ak p).getD f [])) []) (.tuple []) (mkB (mkF p ((ak p).getD f [])) (lay p.nodes (Kq p f) kb 0)):=ER (by show 0+(lay p.nodes (Kq p f) kb 0).length<1000000;omega);have NN:(p.ag.map fuL)[(f:Int).toNat]? = some (fuL p.ag[f]):=by simp [hf]
 have hfl:(p.ag.map fuL).length=p.ag.length:=by simp
 have hfi:(f:Int)<((p.ag.map fuL).length:Nat):=by omega
 have ZR:(p.ag.map fuL)[(f:Int).toNat]? = some [.str p.ag[f].name,.slice 1 (p.ag[f].args.map fun s=>[Dat.str s]) false,I kb]:=by rw [NN,fuL,hkb];rfl
 rw [hbody];exact NW p _ _ _ (mJ p (dA p)) _ _ f kb _ _ hp hloc ZR hfi hlen (by omega) ER
theorem CZ (p:Pg) (hp:Lim p) (hm:May p) (f:Nat) (hf:f<p.ag.length):aE P0 iy [pgA p,cnV p,.d (I f)] (cnB p) (.agg ((bdC (jc p f p.ag[f])).map V.d)) (cnB p):=by
 refine kM.freeze (U9 p hp hm f hf) ?_;rintro r h0 n0 ⟨rfl,rfl,rfl⟩;refine ⟨_,bdC (jc p f p.ag[f]),bz 0 (cnB p),3,rfl,?_,?_,aax _,?_,rfl,rfl,rfl⟩
 ·have e:((jc p f p.ag[f]).ins.map in4).drop 0=(jc p f p.ag[f]).ins.map in4:=rfl
  have e2:((jc p f p.ag[f]).ins.map in4).take (jc p f p.ag[f]).ins.length=(jc p f p.ag[f]).ins.map in4:=aaG (by simp);have e3:Nat.beq (jc p f p.ag[f]).ins.length (jc p f p.ag[f]).ins.length=true:=acT _;simp only [frz,cnB,bz,look,e,e2,e3,List.append,HAppend.hAppend,Append.append];rfl
 ·intro id x hx
  rw [lx] at hx ⊢;simp only [abr,if_true,acS] at hx ⊢;obtain ⟨h1,h2⟩:=aa0.1 hx;refine ⟨by rw [aaY h1];exact hx,?_,h1⟩
  rcases id with _|_|_|id
  ·subst h2;rfl
  ·subst h2;rfl
  ·subst h2;rfl
  ·have:id+1+1+1<3:=h1
   omega
 ·intro id hid _
  rw [lx]
  rcases id with _|_|_|id
  ·rfl
  ·rfl
  ·rfl
  ·have:id+1+1+1<3:=hid
   omega
end Uw.Tryz
namespace Uw.Tryz
open Go Uw
def Vb (res:List gY):Tree->Option Dat
 | .done .ret st=>match st.defers,resV st res with
  | [],some vs=>match dY st.heap vs,xZ st.heap vs with
   | some ds,true=>some (kB ds)
   | _,_=>none
  | _,_=>none
 | _=>none
theorem Vd {P:Program} {res:List gY} {t:Tree} {r:Dat} (h:Vb res t=some r):WT P (Fp res r) t:=by
 unfold Vb at h
 split at h
 ·split at h
  ·rename_i hd hv
   split at h
   ·rename_i h1 h2
    injection h with h
    exact aC hd hv h1 h2 h
   ·cases h
  ·cases h
 ·cases h
theorem Ve {P:Program} {f:FuncId} {m:bE} (hf:aM P f m) {args:List Dat} {r:Dat} (hn:Nat.ble args.length m.n=true) (h:Vb m.res (exec m.code (lX args) Tree.done)=some r):Ret P f args r:=aU hf hn (Vd h)
theorem KB (f k:Int):Vb kS.res (exec kS.code (lX [I f,I k]) Tree.done)=some (.agg [I 2,I 5,.slice 4 ((yZ f k).ins.map in4) true]):=by kernel_rfl
theorem KC (f k:Int):Ret P0 iU [I f,I k] (.agg [I 2,I 5,.slice 4 ((yZ f k).ins.map in4) true]):=Ve wA rfl (KB f k)
theorem yy (f k:Int):Ret P0 iU [I f,I k] (.agg (bdC (yZ f k))):=(KC f k).res (.agg (.cons (.refl _) (.cons (.refl _) (.cons (.slice (.refl _)) (.refl _)))))
theorem pA (p:Pg):∀(l:List Fu) (i j:Nat) (h:j<l.length),(ii p i l)[j]? = some (jc p (i+j) l[j])
 | [],i,j,h=>by simp at h
 | g::r,i,0,h=>by rw [ii];rfl
 | g::r,i,j+1,h=>by
  have:=pA p r (i+1) j (by simpa using h);rw [ii,abJ,this,show i+1+j=i+(j+1) by omega];rfl
theorem jR (p:Pg):∀(l:List Fu) (i:Nat),(ii p i l).length=l.length
 | [],_=>rfl
 | g::r,i=>by rw [ii,aaA,jR p r,aaA]
theorem rE (p:Pg):∀(l:List Str) (i:Nat),(lj p i l).length=l.length
 | [],_=>rfl
 | g::r,i=>by rw [lj,aaA,rE p r,aaA]
theorem C0 (p:Pg):∀(l:List Str) (i j:Nat) (h:j<l.length),(lj p i l)[j]? = some (yZ (((eY p l[j]).getD 0:Nat):Int) ((i+j:Nat):Int))
 | [],i,j,h=>by simp at h
 | g::r,i,0,h=>by rw [lj];rfl
 | g::r,i,j+1,h=>by
  have:=C0 p r (i+1) j (by simpa using h);rw [lj,abJ,this,show i+1+j=i+(j+1) by omega];rfl
abbrev ZS (p:Pg):Heap:=[(5,.var [.hnd 2,.hnd 3,.hnd 4,.d (bN (mJ p (dA p)))]),(4,.map none (hpE p.ag.length (dA p))),(3,.map none (fuE p.ag)),(2,.map none (tgE p.decls)),(1,.var [.d .nil,.d .nil,.d (I 0),.d (I 0),.d (I 0),.d (I 0)]),(0,.var [.d (.slice 3 (p.decls.map cO) false),.d (.slice 3 (p.ag.map fuL) false),.d (cv p.nodes)])]
abbrev ocR:gw:=[(6,.ptr 6 0),(5,.ptr 5 0),(2,.ptr 1 0),(1,.ptr 0 0)]
abbrev ocH (p:Pg) (cl fs:List (List Dat)) (a b c m:Int):Heap:=(8,.arr 1 cl)::(7,.arr 3 fs)::(6,.var [.ref 7 0 0 fs.length,.ref 8 0 0 cl.length,.d (I a),.d (I b),.d (I c),.d (I m)])::ZS p
abbrev Jj (p:Pg) (CL:Nat->List (List Dat)) (A B C:Nat->Nat) (m:Int) (j:Nat):St:=⟨(28,.d (I j))::(27,.d (I ((p.decls.map cO).length:Nat)))::(26,.d (.slice 3 (p.decls.map cO) false))::ocR,ocH p (CL j) [] (A j:Nat) (B j:Nat) (C j:Nat) m,9,[],0⟩
abbrev Vf (p:Pg) (CL:List (List Dat)) (FS:Nat->List (List Dat)) (a b c m:Int) (j:Nat):St:=⟨(65,.d (I j))::(64,.d (I ((p.ag.map fuL).length:Nat)))::(63,.d (.slice 3 (p.ag.map fuL) false))::ocR,ocH p CL (FS j) a b c m,9,[],0⟩
abbrev XK (p:Pg) (CL:List (List Dat)) (FS:Nat->List (List Dat)) (a b c m:Int) (j:Nat):St:=⟨(87,.d (I j))::(86,.d (I (((mJ p (dA p)).map fun i=>[I i]).length:Nat)))::(85,.d (bN (mJ p (dA p))))::ocR,ocH p CL (FS j) a b c m,9,[],0⟩
theorem qI (ds:List Dec) (k:Int) (j:Nat) (h:j<ds.length):kq (ds.take (j+1)) k=kq (ds.take j) k+if ds[j].kind=k then 1 else 0:=by
 rw [aaz h,kq,kq,List.countP_append,adA];simp
theorem C2 (ds:List Dec) (k:Int) (j:Nat):kq (ds.take j) k<=j:=by
 have:kq (ds.take j) k<=(ds.take j).length:=acY;rw [aa5] at this;omega
abbrev NY:Dat:=.agg [.nil,.nil,I 0,I 0,I 0,I 0]
abbrev ocG (p:Pg) (j:Nat):Prop:=∀h:j<p.ag.length,¬400<(jc p j p.ag[j]).ins.length
theorem LW (p:Pg) (hp:Lim p) (hm:May p) (hy:Ret P0 o6 [pgD p] (I 0)) (c:Dat) (e:Int) (hone:∀(j:Nat) (h:j<p.ag.length),400<(jc p j p.ag[j]).ins.length->c=NY/\e=2) (hall:(∀j,j<p.ag.length->ocG p j)->c=cdD (LN p)/\e=0):Ret P0 j9 [pgD p] (.tuple [c,I e]):=by
 have hnu:=yw p hp hm;have hbo:=CZ p hp hm;have hF:=hp.ag;have hD:=hp.decls;have hN:=hp.nodes;have hfl:(p.ag.map fuL).length=p.ag.length:=by simp
 have hdl:(p.decls.map cO).length=p.decls.length:=by simp
 have hpl:((mJ p (dA p)).map fun i=>[I i]).length=(dA p).length:=by simp [mJ]
 have hmain:(bh (fuE p.ag) (.s [109,97,105,110])).getD (I 0)=I (((eY p iJ).getD 0:Nat):Int):=by
  have:=Kv p hm.names.2.1 iJ;rw [show iJ=[109,97,105,110] from rfl] at this;rw [this];show _=I (((eY p [109,97,105,110]).getD 0:Nat):Int)
  cases eY p [109,97,105,110]<;>rfl
 obtain ⟨CL,hCL⟩:∃E:Nat->List (List Dat),∀j,E j=(((p.decls.take j).filter fun d=>decide (d.kind=0)).map (·.n)).map fun i=>[I i]:=⟨_,fun _=>rfl⟩
 obtain ⟨A,hA⟩:∃E:Nat->Nat,∀j,E j=kq (p.decls.take j) 1:=⟨_,fun _=>rfl⟩
 obtain ⟨B,hB⟩:∃E:Nat->Nat,∀j,E j=kq (p.decls.take j) 2:=⟨_,fun _=>rfl⟩
 obtain ⟨C,hC⟩:∃E:Nat->Nat,∀j,E j=kq (p.decls.take j) 3:=⟨_,fun _=>rfl⟩
 obtain ⟨FS,hFS⟩:∃E:Nat->List (List Dat),∀j,E j=((ii p 0 p.ag).take j).map bdC:=⟨_,fun _=>rfl⟩
 obtain ⟨GS,hGS⟩:∃E:Nat->List (List Dat),∀j,E j=(ii p 0 p.ag).map bdC++((lj p p.ag.length (dA p)).take j).map bdC:=⟨_,fun _=>rfl⟩
 have hdel:∀(j:Nat) (h:j<p.decls.length),(p.decls.map cO)[(j:Int).toNat]? = some (cO p.decls[j]):=fun j h=>by simp [h]
 have hcs:∀(j:Nat) (h:j<p.decls.length),(CL j).length<=j/\A j<=j/\B j<=j/\C j<=j/\
   ((p.decls[j].kind=0->CL (j+1)=CL j++(List.replicate 1 [Dat.int .i64 0]).set 0 [I p.decls[j].n])/\(p.decls[j].kind≠0->CL (j+1)=CL j))/\
   ((p.decls[j].kind=1->A (j+1)=A j+1)/\(p.decls[j].kind≠1->A (j+1)=A j))/\((p.decls[j].kind=2->B (j+1)=B j+1)/\(p.decls[j].kind≠2->B (j+1)=B j))/\((p.decls[j].kind=3->C (j+1)=C j+1)/\(p.decls[j].kind≠3->C (j+1)=C j)):=fun j h=>by
  refine ⟨?_,by rw [hA];exact C2 _ _ _,by rw [hB];exact C2 _ _ _,by rw [hC];exact C2 _ _ _,⟨fun e=>?_,fun e=>?_⟩,⟨fun e=>?_,fun e=>?_⟩,⟨fun e=>?_,fun e=>?_⟩,⟨fun e=>?_,fun e=>?_⟩⟩
  ·rw [hCL,aaT,aaT]
   have:=adz (fun d:Dec=>decide (d.kind=0)) (p.decls.take j);rw [aa5] at this;omega
  ·rw [hCL,hCL,aaz h,List.filter_append];simp [e]
  ·rw [hCL,hCL,aaz h,List.filter_append];simp [e]
  ·rw [hA,hA,qI _ _ _ h,if_pos e]
  ·rw [hA,hA,qI _ _ _ h,if_neg e];rfl
  ·rw [hB,hB,qI _ _ _ h,if_pos e]
  ·rw [hB,hB,qI _ _ _ h,if_neg e];rfl
  ·rw [hC,hC,qI _ _ _ h,if_pos e]
  ·rw [hC,hC,qI _ _ _ h,if_neg e];rfl
 have hfs:∀(j:Nat) (h:j<p.ag.length),(FS j).length<=j/\FS (j+1)=FS j++(List.replicate 1 [Dat.int .i64 0,Dat.int .i64 0,Dat.nil]).set 0 (bdC (jc p j p.ag[j])):=fun j h=>by
  have hb:=pA p p.ag 0 j h;rw [aaF] at hb;refine ⟨by rw [hFS,aaT,aa5];omega,?_⟩;rw [hFS,hFS,ac6,hb,abn];rfl
 have hgs:∀(j:Nat) (h:j<(dA p).length),(GS j).length=p.ag.length+j/\GS (j+1)=GS j++(List.replicate 1 [Dat.int .i64 0,Dat.int .i64 0,Dat.nil]).set 0 (bdC (yZ (((eY p (dA p)[j]).getD 0:Nat):Int) ((GS j).length:Nat))):=fun j h=>by
  have hb:=C0 p (dA p) p.ag.length j h;have hl:(GS j).length=p.ag.length+j:=by
   rw [hGS,aaw,aaT,aaT,aa5,jR,rE];omega
  refine ⟨hl,?_⟩;rw [hl,hGS,hGS,ac6,hb,abn,<- aaD];rfl
 have Vg:∀(j:Nat) (h:j<(dA p).length),((mJ p (dA p)).map fun i=>[I i])[(j:Int).toNat]? = some [I (((eY p (dA p)[j]).getD 0:Nat):Int)]:=fun j h=>by simp [mJ,h]
 have hFG:FS p.ag.length=GS 0:=by
  rw [hFS,hGS,aaG (by rw [jR];exact aax _)];simp
 have hpn:(dA p).length<=p.nodes.length:=by
  have:∀(r:List Nd) (l:List Str),(gX r l).length<=l.length+r.length:=by
   intro r
   induction r with
   | nil=>intro l;simp [gX]
   | cons x r ih=>
    intro l;rw [gX];refine aa7 (ih _) ?_
    split
    ·simp<;>omega
    ·simp<;>omega
  have:=this p.nodes [];simpa [dA] using this
 have hR:cdD (LN p) = .agg [.slice 3 (((GS (dA p).length).drop 0).take (GS (dA p).length).length) false,.slice 1 (((CL p.decls.length).drop 0).take (CL p.decls.length).length) false,I (A p.decls.length:Nat),I (B p.decls.length:Nat),I (C p.decls.length:Nat),I (((eY p iJ).getD 0:Nat):Int)]:=by
  rw [aa9,aaK,aa9,aaK,hGS,hCL,hA,hB,hC,aaK,aaG (l:=lj p p.ag.length (dA p)) (by rw [rE];exact aax _),<- abn];rfl
 have hS1:Jj p CL A B C (((eY p iJ).getD 0:Nat):Int) 0=⟨(28,.d (I (0:Nat)))::(27,.d (I ((p.decls.map cO).length:Nat)))::(26,.d (.slice 3 (p.decls.map cO) false))::ocR,ocH p [] [] (0:Nat) (0:Nat) (0:Nat) (((eY p iJ).getD 0:Nat):Int),9,[],0⟩:=by
  rw [Jj,hCL,hA,hB,hC];rfl
 have hS2:∀a b c m:Int,∀cl,Vf p cl FS a b c m 0=⟨(65,.d (I (0:Nat)))::(64,.d (I ((p.ag.map fuL).length:Nat)))::(63,.d (.slice 3 (p.ag.map fuL) false))::ocR,ocH p cl [] a b c m,9,[],0⟩:=fun a b c m cl=>by
  rw [Vf,hFS];rfl
 have hFl:∀(j:Nat),(FS j).length<=100000:=fun j=>by
  rw [hFS,aaT,aa5,jR];omega
 rw [hR] at hall;clear hR hCL hA hB hC hFS hGS;generalize (((eY p iJ).getD 0:Nat):Int)=mn at *;refine aU uM rfl ?_
 repeat (first|refine aw ?_|refine f1 ?_|refine m1 ?_)
 refine ad 2 [] hnu ?_
 repeat (first|refine aw ?_|refine f1 ?_|refine m1 ?_)
 refine c8 (I 0) _ hmain ?_
 repeat (first|refine aw ?_|refine f1 ?_|refine m1 ?_)
 refine dp p.decls.length (Jj p CL A B C mn) (fun _=>True) (fH hS1 ?_) (fun _=>?_) (fun j hj _=>?_)
 ·exact Uw.wM
 rotate_left 1
 ·have he:=hdel j hj
  obtain ⟨g1,g2,g3,g4,g5,g6,g7,g8⟩:=hcs j hj;clear hdel hcs hfs hgs Vg hFl hbo hnu;generalize p.decls[j]=d at *;obtain ⟨dk,ds,dn⟩:=d;have he:(p.decls.map cO)[(j:Int).toNat]? = some [I dk,.str ds,I dn]:=he;simp only at g5 g6 g7 g8;obtain ⟨a5,b5⟩:=g5;obtain ⟨a6,b6⟩:=g6;obtain ⟨a7,b7⟩:=g7;obtain ⟨a8,b8⟩:=g8;by_cases k0:dk=0
  ·subst k0
   have e5:=a5 rfl;have e6:=b6 (by decide);have e7:=b7 (by decide);have e8:=b8 (by decide);clear a5 b5 a6 b6 a7 b7 a8 b8
   repeat (first|refine aw ?_|refine f1 ?_|refine m1 ?_)
   refine aX j trivial (fH (by rw [Jj,e5,e6,e7,e8]) ?_);exact Uw.wM
  by_cases k1:dk=1
  ·subst k1
   have e5:=b5 (by decide);have e6:=a6 rfl;have e7:=b7 (by decide);have e8:=b8 (by decide);clear a5 b5 a6 b6 a7 b7 a8 b8
   repeat (first|refine aw ?_|refine f1 ?_|refine m1 ?_)
   refine aX j trivial (fH (by rw [Jj,e5,e6,e7,e8]) ?_);exact Uw.wM
  by_cases k2:dk=2
  ·subst k2
   have e5:=b5 (by decide);have e6:=b6 (by decide);have e7:=a7 rfl;have e8:=b8 (by decide);clear a5 b5 a6 b6 a7 b7 a8 b8
   repeat (first|refine aw ?_|refine f1 ?_|refine m1 ?_)
   refine aX j trivial (fH (by rw [Jj,e5,e6,e7,e8]) ?_);exact Uw.wM
  by_cases k3:dk=3
  ·subst k3
   have e5:=b5 (by decide);have e6:=b6 (by decide);have e7:=b7 (by decide);have e8:=a8 rfl;clear a5 b5 a6 b6 a7 b7 a8 b8
   repeat (first|refine aw ?_|refine f1 ?_|refine m1 ?_)
   refine aX j trivial (fH (by rw [Jj,e5,e6,e7,e8]) ?_);exact Uw.wM
  have e5:=b5 k0;have e6:=b6 k1;have e7:=b7 k2;have e8:=b8 k3
  repeat (first|refine aw ?_|refine f1 ?_|refine m1 ?_)
  refine aX j trivial (fH (by rw [Jj,e5,e6,e7,e8]) ?_);exact Uw.wM
 clear hdel hcs
 repeat (first|refine aw ?_|refine f1 ?_)
 refine aJ ?_
 repeat (first|refine aw ?_|refine f1 ?_)
 refine dp p.ag.length (Vf p (CL p.decls.length) FS (A p.decls.length:Nat) (B p.decls.length:Nat) (C p.decls.length:Nat) mn) (ocG p) (fH (hS2 _ _ _ _ _) ?_) (fun hgood=>?_) (fun j hj hpre=>?_)
 ·exact Uw.wM
 rotate_left 1
 ·have hb:=hbo j hj
  obtain ⟨g1,g2⟩:=hfs j hj;have hone:=hone j hj;have hG:¬400<(jc p j p.ag[j]).ins.length->ocG p j:=fun h _=>h;clear hfs hgs Vg hFl hbo hnu hall;generalize jc p j p.ag[j]=b at *;obtain ⟨ba,bl,bi⟩:=b;have hb:aE P0 iy [pgA p,cnV p,.d (I j)] (cnB p) (.agg [.d (I ba),.d (I bl),.d (.slice 4 (bi.map in4) false)]) (cnB p):=hb;simp only at hone hG;by_cases hw:400<bi.length
  ·obtain ⟨rfl,rfl⟩:=hone hw
   have hfw:(400:Int)<((bi.map in4).length:Nat):=by rw [aaT];omega
   repeat (first|refine aw ?_|refine f1 ?_|refine m1 ?_)
   refine ad 9 [2,3,4] hb ?_
   repeat (first|refine aw ?_|refine f1 ?_|refine m1 ?_)
   exact bV (aC rfl rfl rfl rfl rfl)
  have hG1:=hG hw;have hfw:¬(400:Int)<((bi.map in4).length:Nat):=by rw [aaT];omega
  have g2:FS (j+1)=FS j++(List.replicate 1 [Dat.int .i64 0,Dat.int .i64 0,Dat.nil]).set 0 [I ba,I bl,.slice 4 (bi.map in4) false]:=g2
  repeat (first|refine aw ?_|refine f1 ?_|refine m1 ?_)
  refine ad 9 [2,3,4] hb ?_
  repeat (first|refine aw ?_|refine f1 ?_|refine m1 ?_)
  refine aX j hG1 (fH (by rw [Vf,g2]) ?_);exact Uw.wM
 clear hfs hbo hone;obtain ⟨rfl,rfl⟩:=hall hgood;clear hall hgood
 repeat (first|refine aw ?_|refine f1 ?_)
 refine aJ ?_
 repeat (first|refine aw ?_|refine f1 ?_)
 refine dp (dA p).length (XK p (CL p.decls.length) GS (A p.decls.length:Nat) (B p.decls.length:Nat) (C p.decls.length:Nat) mn) (fun _=>True) (fH (by rw [XK,<- hFG]) ?_) (fun _=>?_) (fun j hj _=>?_)
 ·exact Uw.wM
 rotate_left 1
 ·have he:=Vg j hj
  obtain ⟨g1,g2⟩:=hgs j hj;have hh:=yy (((eY p (dA p)[j]).getD 0:Nat):Int) ((GS j).length:Nat);clear hgs Vg hFl hnu;generalize yZ (((eY p (dA p)[j]).getD 0:Nat):Int) ((GS j).length:Nat)=b at *;generalize (((eY p (dA p)[j]).getD 0:Nat):Int)=fi at *;obtain ⟨ba,bl,bi⟩:=b;have hh:Ret P0 iU [I fi,I ((GS j).length:Nat)] (.agg [I ba,I bl,.slice 4 (bi.map in4) false]):=hh;have g2:GS (j+1)=GS j++(List.replicate 1 [Dat.int .i64 0,Dat.int .i64 0,Dat.nil]).set 0 [I ba,I bl,.slice 4 (bi.map in4) false]:=g2
  repeat (first|refine aw ?_|refine f1 ?_|refine m1 ?_)
  refine aX j trivial (fH (by rw [XK,g2]) ?_);exact Uw.wM
 repeat (first|refine aw ?_|refine f1 ?_)
 refine aJ ?_
 repeat (first|refine aw ?_|refine f1 ?_)
 exact aC rfl rfl rfl rfl rfl
theorem rF (p:Pg) (hp:Lim p):Ret P0 j9 [pgD p] (.tuple [cdD (ofP p).1,I (ofP p).2]):=by
 have hy:=Jg p hp;have hno:DLe NY (cdD DL):=.agg (.cons (.nil 3) (.cons (.nil 1) (.refl _)));by_cases hw:pT p=0
 ·rw [hw] at hy
  have hm:=Xq hw
  cases ha:(ii p 0 p.ag).any fun b=>decide (400<b.ins.length) with
  | true=>
   have e:ofP p=(DL,2):=by rw [ofP,if_neg (by simp [hw]),ha];rfl
   rw [e];refine Ret.res (LW p hp hm hy NY 2 (fun _ _ _=>⟨rfl,rfl⟩) fun hall=>?_) (.tuple (.cons hno (.refl _)));obtain ⟨b,hb,hl⟩:=abK.1 ha;obtain ⟨j,hj,rfl⟩:=aa8.1 hb;rw [jR] at hj;have:=pA p p.ag 0 j hj;rw [aaF] at this;have h2:=(aa0.1 this).2;rw [h2] at hl;exact absurd (by simpa using hl) (hall j hj hj)
  | false=>
   have e:ofP p=(LN p,0):=by rw [ofP,if_neg (by simp [hw]),ha];rfl
   rw [e];refine LW p hp hm hy _ 0 (fun j hj hl=>?_) fun _=>⟨rfl,rfl⟩
   have:=pA p p.ag 0 j hj;rw [aaF] at this;have h2:=abp.1 ha _ (aaR this);simp at h2;omega
 ·have e:ofP p=(DL,pT p):=by rw [ofP,if_pos hw]
  rw [e];refine Ret.res (r:=.tuple [NY,I (pT p)]) ?_ (.tuple (.cons hno (.refl _)));generalize pT p=w at *;refine aU uM rfl ?_
  repeat (first|refine aw ?_|refine f1 ?_|refine m1 ?_)
  exact aC rfl rfl rfl rfl rfl
end Uw.Tryz
namespace Uw.Tryz
open Go Uw
theorem C3 {α:Type} {a b:List α} (hl:a.length=b.length) (h:∀(j:Nat) (h1:j<a.length) (h2:j<b.length),a[j]=b[j]):a=b:=acz hl h
theorem xF (a b:List Int) (ha:a.length<1000000):Ret P0 q8 [bN a,bN b] (.bool (decide (a=b))):=by
 have hal:(a.map fun i=>[I i]).length=a.length:=by simp
 have hbl:(b.map fun i=>[I i]).length=b.length:=by simp
 by_cases q:a.length=b.length
 rotate_left 1
 ·rw [decide_eq_false fun e=>q (congrArg List.length e)]
  have q' : ¬(((a.map fun i=>[I i]).length:Nat):Int)=((b.map fun i=>[I i]).length:Nat):=by omega
  refine aU uN rfl ?_
  repeat refine aw ?_
  exact aC rfl rfl rfl rfl rfl
 have q' : (((a.map fun i=>[I i]).length:Nat):Int)=((b.map fun i=>[I i]).length:Nat):=by omega
 have hae:∀(j:Nat) (h:j<a.length),(a.map fun i=>[I i])[(j:Int).toNat]? = some [I a[j]]:=fun j h=>by simp [h]
 have hbe:∀(j:Nat) (h:j<b.length),(b.map fun i=>[I i])[(j:Int).toNat]? = some [I b[j]]:=fun j h=>by simp [h]
 have hone:∀(j:Nat) (h1:j<a.length) (h2:j<b.length),a[j]≠b[j]->decide (a=b)=false:=fun j h1 h2 h=>decide_eq_false fun e=>h (by subst e;rfl);have hall:(∀(j:Nat) (h1:j<a.length) (h2:j<b.length),a[j]=b[j])->decide (a=b)=true:=fun h=>decide_eq_true (C3 q h);generalize decide (a=b)=R at *;refine aU uN rfl ?_
 repeat refine aw ?_
 refine dp a.length (fun j=>⟨[(5,.d (I j)),(4,.d (.bool false)),(1,.d (bN b)),(0,.d (bN a))],[],0,[],0⟩) (fun j=>∀(h1:j<a.length) (h2:j<b.length),a[j]=b[j]) ?_ (fun hg=>?_) (fun j hj _=>?_)
 ·exact Uw.wM
 ·obtain rfl:=hall fun j h1 h2=>hg j h1 h1 h2
  repeat refine aw ?_
  refine aJ ?_
  repeat refine aw ?_
  exact aC rfl rfl rfl rfl rfl
 have he:=hae j hj;have hf:=hbe j (by omega);have ho:=hone j hj (by omega);have hg1:a[j]=b[j]'(by omega)->∀(h1:j<a.length) (h2:j<b.length),a[j]=b[j]:=fun h _ _=>h;clear hae hbe hone hall;generalize a[j]=x at *;generalize b[j]'_=y at *;by_cases e:x=y
 ·have hg1:=hg1 e
  repeat refine aw ?_
  exact aX j hg1 (by exact Uw.wM)
 ·obtain rfl:=ho e
  repeat refine aw ?_
  exact bV (aC rfl rfl rfl rfl rfl)
abbrev bcS (a b:Bd) (j:Nat):St:=⟨[(5,.d (I j)),(4,.d (.bool false)),(3,.ptr 1 0),(2,.ptr 0 0)],[(1,.var [.d (I b.args),.d (I b.locals),.d (.slice 4 (b.ins.map in4) false)]),(0,.var [.d (I a.args),.d (I a.locals),.d (.slice 4 (a.ins.map in4) false)])],2,[],0⟩
theorem rG (a b:Bd) (ha:a.ins.length<1000000):Ret P0 iT [.agg (bdC a),.agg (bdC b)] (.bool (decide (a=b))):=by
 have hal:(a.ins.map in4).length=a.ins.length:=by simp
 have hbl:(b.ins.map in4).length=b.ins.length:=by simp
 have heq:decide (a=b)=(decide (a.args=b.args)&&decide (a.locals=b.locals)&&decide (a.ins=b.ins)):=by
  rw [<- ace,<- ace,decide_eq_decide];obtain ⟨a1,a2,a3⟩:=a;obtain ⟨b1,b2,b3⟩:=b;simp [and_assoc]
 rw [heq];clear heq;show Ret P0 iT [.agg [I a.args,I a.locals,.slice 4 (a.ins.map in4) false],.agg [I b.args,I b.locals,.slice 4 (b.ins.map in4) false]] _;by_cases q1:a.args=b.args
 rotate_left 1
 ·rw [decide_eq_false q1]
  refine aU ln rfl ?_
  repeat refine aw ?_
  exact aC rfl rfl rfl rfl rfl
 by_cases q2:a.locals=b.locals
 rotate_left 1
 ·rw [decide_eq_false q2,acK,acw]
  refine aU ln rfl ?_
  repeat refine aw ?_
  exact aC rfl rfl rfl rfl rfl
 rw [decide_eq_true q1,decide_eq_true q2,acB,acB];by_cases q:a.ins.length=b.ins.length
 rotate_left 1
 ·rw [decide_eq_false fun e=>q (congrArg List.length e)]
  have q' : ¬(((a.ins.map in4).length:Nat):Int)=((b.ins.map in4).length:Nat):=by omega
  refine aU ln rfl ?_
  repeat refine aw ?_
  exact aC rfl rfl rfl rfl rfl
 have q' : (((a.ins.map in4).length:Nat):Int)=((b.ins.map in4).length:Nat):=by omega
 have hae:∀(j:Nat) (h:j<a.ins.length),(a.ins.map in4)[(j:Int).toNat]? = some (in4 a.ins[j]):=fun j h=>by simp [h]
 have hbe:∀(j:Nat) (h:j<b.ins.length),(b.ins.map in4)[(j:Int).toNat]? = some (in4 b.ins[j]):=fun j h=>by simp [h]
 have hone:∀(j:Nat) (h1:j<a.ins.length) (h2:j<b.ins.length),a.ins[j]≠b.ins[j]->decide (a.ins=b.ins)=false:=fun j h1 h2 h=>decide_eq_false fun e=>h (by simp only [e]);have hall:(∀(j:Nat) (h1:j<a.ins.length) (h2:j<b.ins.length),a.ins[j]=b.ins[j])->decide (a.ins=b.ins)=true:=fun h=>decide_eq_true (C3 q h);generalize decide (a.ins=b.ins)=R at *;refine aU ln rfl ?_
 repeat refine aw ?_
 refine dp a.ins.length (bcS a b) (fun j=>∀(h1:j<a.ins.length) (h2:j<b.ins.length),a.ins[j]=b.ins[j]) ?_ (fun hg=>?_) (fun j hj _=>?_)
 ·exact Uw.wM
 ·obtain rfl:=hall fun j h1 h2=>hg j h1 h1 h2
  repeat refine aw ?_
  refine aJ ?_
  repeat refine aw ?_
  exact aC rfl rfl rfl rfl rfl
 have he:=hae j hj;have hf:=hbe j (by omega);have ho:=hone j hj (by omega);have hg1:a.ins[j]=b.ins[j]'(by omega)->∀(h1:j<a.ins.length) (h2:j<b.ins.length),a.ins[j]=b.ins[j]:=fun h _ _=>h;clear hae hbe hone hall;generalize a.ins[j]=x at *;generalize b.ins[j]'_=y at *;obtain ⟨x1,x2,x3,x4⟩:=x;obtain ⟨y1,y2,y3,y4⟩:=y;have he:(a.ins.map in4)[(j:Int).toNat]? = some [I x1,I x2,I x3,I x4]:=he;have hf:(b.ins.map in4)[(j:Int).toNat]? = some [I y1,I y2,I y3,I y4]:=hf;have hjj:(j:Int)<((a.ins.map in4).length:Nat):=by omega
 have hjk:(j:Int)<((b.ins.map in4).length:Nat):=by omega
 by_cases e:(⟨x1,x2,x3,x4⟩:In4)=⟨y1,y2,y3,y4⟩
 ·have hg1:=hg1 e
  have e2:(decide (x1=y1)&&(decide (x2=y2)&&(decide (x3=y3)&&(decide (x4=y4)&&true))))=true:=by
   injection e with e1 e2 e3 e4;simp [e1,e2,e3,e4]
  repeat refine aw ?_
  exact aX j hg1 (by exact Uw.wM)
 ·obtain rfl:=ho e
  have e2:(decide (x1=y1)&&(decide (x2=y2)&&(decide (x3=y3)&&(decide (x4=y4)&&true))))=false:=by
   rw [acy];intro h;simp at h;exact e (by rw [h.1,h.2.1,h.2.2.1,h.2.2.2])
  repeat refine aw ?_
  exact bV (aC rfl rfl rfl rfl rfl)
abbrev cdB (c:Cd):Blk:=.var [.d (.slice 3 (c.ag.map bdC) false),.d (bN c.cells),.d (I c.maps),.d (I c.stacks),.d (I c.chans),.d (I c.main)]
abbrev smS (a b:Cd) (j:Nat):St:=⟨[(5,.d (I j)),(4,.d (.bool false)),(3,.ptr 1 0),(2,.ptr 0 0)],[(1,cdB b),(0,cdB a)],2,[],0⟩
theorem G5 (a b:Cd) (ha:a.ag.length<1000000) (hac:a.cells.length<1000000) (hai:∀f∈a.ag,f.ins.length<1000000):Ret P0 wv [cdD a,cdD b] (.bool (decide (a=b))):=by
 have hal:(a.ag.map bdC).length=a.ag.length:=by simp
 have hbl:(b.ag.map bdC).length=b.ag.length:=by simp
 have heq:decide (a=b)=(decide (a.main=b.main)&&decide (a.maps=b.maps)&&decide (a.stacks=b.stacks)&&decide (a.chans=b.chans)&&decide (a.cells=b.cells)&&decide (a.ag=b.ag)):=by
  rw [<- ace,<- ace,<- ace,<- ace,<- ace,decide_eq_decide];obtain ⟨a1,a2,a3,a4,a5,a6⟩:=a;obtain ⟨b1,b2,b3,b4,b5,b6⟩:=b;simp only [Cd.mk.injEq];constructor
  ·rintro ⟨h1,h2,h3,h4,h5,h6⟩;exact ⟨⟨⟨⟨⟨h6,h3⟩,h4⟩,h5⟩,h2⟩,h1⟩
  ·rintro ⟨⟨⟨⟨⟨h6,h3⟩,h4⟩,h5⟩,h2⟩,h1⟩;exact ⟨h1,h2,h3,h4,h5,h6⟩
 have hin:=xF a.cells b.cells hac;rw [heq];clear heq;by_cases q1:a.main=b.main
 rotate_left 1
 ·simp only [decide_eq_false q1,acw]
  refine aU fK rfl ?_
  repeat refine aw ?_
  exact aC rfl rfl rfl rfl rfl
 by_cases q2:a.maps=b.maps
 rotate_left 1
 ·simp only [decide_eq_false q2,acw,acK]
  refine aU fK rfl ?_
  repeat refine aw ?_
  exact aC rfl rfl rfl rfl rfl
 by_cases q3:a.stacks=b.stacks
 rotate_left 1
 ·simp only [decide_eq_false q3,acw,acK]
  refine aU fK rfl ?_
  repeat refine aw ?_
  exact aC rfl rfl rfl rfl rfl
 by_cases q4:a.chans=b.chans
 rotate_left 1
 ·simp only [decide_eq_false q4,acw,acK]
  refine aU fK rfl ?_
  repeat refine aw ?_
  exact aC rfl rfl rfl rfl rfl
 simp only [decide_eq_true q1,decide_eq_true q2,decide_eq_true q3,decide_eq_true q4,acB];by_cases q5:a.cells=b.cells
 rotate_left 1
 ·rw [decide_eq_false q5] at hin ⊢
  rw [acw];refine aU fK rfl ?_
  repeat refine aw ?_
  exact aC rfl rfl rfl rfl rfl
 rw [decide_eq_true q5] at hin ⊢;rw [acB];by_cases q:a.ag.length=b.ag.length
 rotate_left 1
 ·rw [decide_eq_false fun e=>q (congrArg List.length e)]
  have q' : ¬(((a.ag.map bdC).length:Nat):Int)=((b.ag.map bdC).length:Nat):=by omega
  refine aU fK rfl ?_
  repeat refine aw ?_
  exact aC rfl rfl rfl rfl rfl
 have q' : (((a.ag.map bdC).length:Nat):Int)=((b.ag.map bdC).length:Nat):=by omega
 have hae:∀(j:Nat) (h:j<a.ag.length),(a.ag.map bdC)[(j:Int).toNat]? = some (bdC a.ag[j]):=fun j h=>by simp [h]
 have hbe:∀(j:Nat) (h:j<b.ag.length),(b.ag.map bdC)[(j:Int).toNat]? = some (bdC b.ag[j]):=fun j h=>by simp [h]
 have hone:∀(j:Nat) (h1:j<a.ag.length) (h2:j<b.ag.length),a.ag[j]≠b.ag[j]->decide (a.ag=b.ag)=false:=fun j h1 h2 h=>decide_eq_false fun e=>h (by simp only [e]);have hall:(∀(j:Nat) (h1:j<a.ag.length) (h2:j<b.ag.length),a.ag[j]=b.ag[j])->decide (a.ag=b.ag)=true:=fun h=>decide_eq_true (C3 q h);generalize decide (a.ag=b.ag)=R at *;refine aU fK rfl ?_
 repeat refine aw ?_
 refine dp a.ag.length (smS a b) (fun j=>∀(h1:j<a.ag.length) (h2:j<b.ag.length),a.ag[j]=b.ag[j]) ?_ (fun hg=>?_) (fun j hj _=>?_)
 ·exact Uw.wM
 ·obtain rfl:=hall fun j h1 h2=>hg j h1 h1 h2
  repeat refine aw ?_
  refine aJ ?_
  repeat refine aw ?_
  exact aC rfl rfl rfl rfl rfl
 have he:=hae j hj;have hf:=hbe j (by omega);have ho:=hone j hj (by omega);have hg1:a.ag[j]=b.ag[j]'(by omega)->∀(h1:j<a.ag.length) (h2:j<b.ag.length),a.ag[j]=b.ag[j]:=fun h _ _=>h;have hbo:=fun y=>rG a.ag[j] y (hai _ (aaQ hj));have hjj:(j:Int)<((a.ag.map bdC).length:Nat):=by omega
 have hjk:(j:Int)<((b.ag.map bdC).length:Nat):=by omega
 clear hae hbe hone hall hai;generalize a.ag[j]=x at *;generalize b.ag[j]'_=y at *;have hbo:=hbo y;obtain ⟨x1,x2,x3⟩:=x;obtain ⟨y1,y2,y3⟩:=y;have he:(a.ag.map bdC)[(j:Int).toNat]? = some [I x1,I x2,.slice 4 (x3.map in4) false]:=he;have hf:(b.ag.map bdC)[(j:Int).toNat]? = some [I y1,I y2,.slice 4 (y3.map in4) false]:=hf;have hbo:Ret P0 iT [.agg [I x1,I x2,.slice 4 (x3.map in4) false],.agg [I y1,I y2,.slice 4 (y3.map in4) false]] _:=hbo;by_cases e:(⟨x1,x2,x3⟩:Bd)=⟨y1,y2,y3⟩
 ·have hg1:=hg1 e
  rw [decide_eq_true e] at hbo
  repeat refine aw ?_
  exact aX j hg1 (by exact Uw.wM)
 ·obtain rfl:=ho e
  rw [decide_eq_false e] at hbo
  repeat refine aw ?_
  exact bV (aC rfl rfl rfl rfl rfl)
end Uw.Tryz
namespace Uw.Tryz
open Go Uw
def pX (i:In4):Int×Int:=
 if i.op=1\/i.op=2\/i.op=4 then (0,1)
 else if i.op=3\/i.op=5\/i.op=12\/i.op=16\/i.op=17\/i.op=18 then (1,0)
 else if (6<=i.op/\i.op<=10)\/i.op=19 then (2,1)
 else if i.op=11 then (i.c,1)
 else if i.op=13 then (i.b,0)
 else (0,0)
def onI (i:In4) (k:Int):List Int:=if i.op=15 then [i.a] else if i.op=16 then [k+1,i.a] else if i.op=17 then [] else [k+1]
structure Z6 (ins:List In4) (H:Nat->Int):Prop where
 ops:∀i∈ins,1<=i.op/\i.op<=19
 zero:H 0=0
 pos:∀k,0<=H k
 step:∀(k:Nat) (h:k<ins.length),0<=(pX ins[k]).1/\(pX ins[k]).1<=H k/\∀t∈onI ins[k] (k:Int),0<=t/\t<ins.length/\H t.toNat=H k - (pX ins[k]).1+(pX ins[k]).2
structure Z7 (n:Nat) (H:Nat->Int) (hi td:List Int):Prop where
 len:hi.length=n
 val:∀(k:Nat),k<n->hi.getD k 0 = -1\/hi.getD k 0=H k
 todo:∀t∈td,0<=t/\t<n/\hi.getD t.toNat 0=H t.toNat
end Uw.Tryz
namespace Uw.Tryz
open Go Uw
structure ZT (E:Int->Int->Prop) (l:List In4) (a:Nat) (h h2:Int) (H:Nat->Int):Prop where
 pos:∀k,0<=H k
 bgn:H a=h
 fin:H (a+l.length)=h2
 ops:∀(j:Nat) (hj:j<l.length),1<=l[j].op/\l[j].op<=19/\(l[j].op=17->H (a+j)=1)
 step:∀(j:Nat) (hj:j<l.length),0<=(pX l[j]).1/\(pX l[j]).1<=H (a+j)/\∀t∈onI l[j] ((a+j:Nat):Int),((a:Int)<=t/\t<=((a+l.length:Nat):Int)/\H t.toNat=H (a+j) - (pX l[j]).1+(pX l[j]).2)\/E t (H (a+j) - (pX l[j]).1+(pX l[j]).2)
def xG (E:Int->Int->Prop) (l:List In4) (a:Nat) (h h2:Int):Prop:=∃H,ZT E l a h h2 H
theorem xG.nil {E:Int->Int->Prop} {a:Nat} {h:Int} (hh:0<=h):xG E [] a h h:=
 ⟨fun _=>h,fun _=>hh,rfl,rfl,fun j hj=>absurd hj (ab9 j),fun j hj=>absurd hj (ab9 j)⟩
theorem xG.mono {E E2:Int->Int->Prop} (hE:∀t v,E t v->E2 t v) {l:List In4} {a:Nat} {h h2:Int}:xG E l a h h2->xG E2 l a h h2
 | ⟨H,s⟩=>⟨H,s.pos,s.bgn,s.fin,s.ops,fun j hj=>⟨(s.step j hj).1,(s.step j hj).2.1,fun t ht=>((s.step j hj).2.2 t ht).imp id (hE t _)⟩⟩
theorem xG.app {E:Int->Int->Prop} {l1 l2:List In4} {a:Nat} {h h1 h2:Int}:xG E l1 a h h1->xG E l2 (a+l1.length) h1 h2->xG E (l1++l2) a h h2
 | ⟨H1,s1⟩,⟨H2,s2⟩=>by
  have hl:∀k,k<=a+l1.length->(if k<a+l1.length then H1 k else H2 k)=H1 k:=fun k hk=>by
   by_cases e:k<a+l1.length
   ·rw [if_pos e]
   ·rw [if_neg e,show k=a+l1.length by omega,s1.fin,s2.bgn]
  have hr:∀k,a+l1.length<=k->(if k<a+l1.length then H1 k else H2 k)=H2 k:=fun k hk=>by rw [if_neg (by omega)]
  refine ⟨fun k=>if k<a+l1.length then H1 k else H2 k,fun k=>?_,?_,?_,fun j hj=>?_,fun j hj=>?_⟩
  ·show 0<=(if k<a+l1.length then H1 k else H2 k)
   split
   ·exact s1.pos k
   ·exact s2.pos k
  ·show (if a<a+l1.length then H1 a else H2 a)=h
   rw [hl a (by omega),s1.bgn]
  ·show (if a+(l1++l2).length<a+l1.length then H1 _ else H2 _)=h2
   rw [hr _ (by simp),aaw,<- abw,s2.fin]
  ·by_cases e:j<l1.length
   ·rw [acO e,hl _ (by omega)]
    exact s1.ops j e
   ·have hj2:j - l1.length<l2.length:=by rw [aaw] at hj;omega
    have:=s2.ops (j - l1.length) hj2;rw [show a+l1.length+(j - l1.length)=a+j by omega] at this;rw [adr (by omega),hr _ (by omega)];exact this
  ·by_cases e:j<l1.length
   ·have h3:=s1.step j e
    rw [acO e,hl _ (by omega)];refine ⟨h3.1,h3.2.1,fun t ht=>?_⟩
    rcases h3.2.2 t ht with ⟨h4,h5,h6⟩|h4
    ·refine .inl ⟨h4,by rw [aaw];omega,?_⟩
     rw [hl _ (by omega)];exact h6
    ·exact .inr h4
   ·have hj2:j - l1.length<l2.length:=by rw [aaw] at hj;omega
    have h3:=s2.step (j - l1.length) hj2;rw [show a+l1.length+(j - l1.length)=a+j by omega] at h3;rw [adr (by omega),hr _ (by omega)];refine ⟨h3.1,h3.2.1,fun t ht=>?_⟩
    rcases h3.2.2 t ht with ⟨h4,h5,h6⟩|h4
    ·refine .inl ⟨by omega,by rw [aaw];omega,?_⟩
     rw [hr _ (by omega)];exact h6
    ·exact .inr h4
theorem xG.one {E:Int->Int->Prop} (i:In4) (a:Nat) (h h2:Int) (ho:1<=i.op/\i.op<=19) (hr:i.op=17->h=1) (h0:0<=(pX i).1) (h1:(pX i).1<=h) (hh:0<=h2) (ht:∀t∈onI i (a:Int),(t=((a+1:Nat):Int)/\h2=h - (pX i).1+(pX i).2)\/E t (h - (pX i).1+(pX i).2)):xG E [i] a h h2:=by
 refine ⟨fun k=>if k=a then h else h2,fun k=>?_,if_pos rfl,if_neg (by simp),fun j hj=>?_,fun j hj=>?_⟩
 ·show 0<=(if k=a then h else h2)
  split<;>omega
 ·obtain rfl:j=0:=by simpa using hj
  simp only [ab8,abT,if_true];exact ⟨ho.1,ho.2,hr⟩
 ·obtain rfl:j=0:=by simpa using hj
  simp only [ab8,abT,if_true];refine ⟨h0,h1,fun t hm=>?_⟩
  rcases ht t hm with ⟨rfl,h3⟩|h3
  ·refine .inl ⟨by omega,by simp,?_⟩
   rw [acM,if_neg (by omega),h3]
  ·exact .inr h3
theorem xG.plain {E:Int->Int->Prop} (i:In4) (a:Nat) (h:Int) (ho:1<=i.op/\i.op<=19) (hj:i.op≠15/\i.op≠16/\i.op≠17) (h0:0<=(pX i).1) (h1:(pX i).1<=h) (h2:0<=(pX i).2):xG E [i] a h (h - (pX i).1+(pX i).2):=
 xG.one i a h _ ho (fun e=>absurd e hj.2.2) h0 h1 (by omega) fun t ht=>by
  rw [onI,if_neg hj.1,if_neg hj.2.1,if_neg hj.2.2] at ht;simp at ht;exact .inl ⟨by omega,rfl⟩
end Uw.Tryz
namespace Uw.Tryz
open Go Uw
end Uw.Tryz
namespace Uw.Tryz
open Go Uw
structure XL (p:Pg):Prop where
 decl:∀d∈p.decls,0<=d.n/\d.n<4294967296
 set:∀x∈p.nodes,x.kind=9->x.name≠[]
theorem tH (p:Pg):(Kr p).length=kq p.decls 0:=by
 rw [Kr,aaT,kq,List.countP_eq_length_filter]
structure Named (p:Pg) (c:Cd):Prop where
 cells:c.cells.length=kq p.decls 0
 maps:c.maps=(kq p.decls 1:Nat)
 stacks:c.stacks=(kq p.decls 2:Nat)
 chans:c.chans=(kq p.decls 3:Nat)
 ag:∀(k:Nat) (h:k<p.ag.length),k<c.ag.length/\(c.ag.getD k default).args=(p.ag[k].args.length:Nat)
 helps:∀(k:Nat),k<(dA p).length->p.ag.length+k<c.ag.length/\(c.ag.getD (p.ag.length+k) default).args=2
end Uw.Tryz
namespace Uw.Tryz
open Go Uw
mutual
theorem Ex.oO:∀(e:Ex) (b:Nat),e.good->tj (e.flat b)
 | .num _,b,_=>.one (fun _=>rfl)
 | .name _,b,_=>.one (fun _=>rfl)
 | .bin k x y,b,⟨hk,hx,hy⟩=>((x.oO b hx).app (y.oO _ hy)).app (.one (by simp only;omega))
 | .call o v ar,b,⟨_,_,h⟩=>(ar.oO b h).app (.one (by simp))
theorem Exs.oO:∀(e:Exs) (b:Nat),e.good->tj (e.flat b)
 | .nil,b,_=>by simp [tj,Exs.flat]
 | .cons e r,b,⟨h1,h2⟩=>(e.oO b h1).app (r.oO _ h2)
end
theorem Bl.tD {x:Bl} {b:Nat} (h:tj (x.flat b)):tj (x.all b):=h.app (.one (by simp))
mutual
theorem Stm.oO:∀(e:Stm) (b:Nat),e.good->tj (e.flat b)
 | .set s e,b,⟨_,h⟩=>(e.oO b h).app (.one (by simp))
 | .task par to f ar,b,⟨_,_,h,_⟩=>(ar.oO b h).app (.one (by simp only;split<;>omega))
 | .sync,b,_=>.one (fun _=>rfl)
 | .if1 e x,b,⟨h1,h2⟩=>((e.oO b h1).app (Bl.tD (x.oO _ h2))).app (.one (by simp))
 | .if2 e x y,b,⟨h1,h2,h3⟩=>(((e.oO b h1).app (Bl.tD (x.oO _ h2))).app (Bl.tD (y.oO _ h3))).app (.one (by simp))
 | .loop e x,b,⟨h1,h2⟩=>((e.oO b h1).app (Bl.tD (x.oO _ h2))).app (.one (by simp))
 | .one k e,b,⟨hk,h⟩=>(e.oO b h).app (.one (by simp only;omega))
 | .act o v ar,b,⟨_,_,h⟩=>((ar.oO b h).app (.one (by simp))).app (.one (by simp))
theorem Bl.oO:∀(e:Bl) (b:Nat),e.good->tj (e.flat b)
 | .nil,b,_=>by simp [tj,Bl.flat]
 | .cons e r,b,⟨h1,h2⟩=>(e.oO b h1).app (r.oO _ h2)
end
theorem za:∀(fs:List Fn) (b:Nat),(∀f∈fs,f.good)->tj (bX fs b)
 | [],b,_=>by simp [tj,bX]
 | f::fs,b,h=>(Bl.tD (f.body.oO b (h f (aaV ..)).body)).app (za fs _ fun x hx=>h x (aaL _ hx))
theorem Jk:∀(l:List Nod),tj l->Dq (l.map cj) ((l.map Nod.nd).map ndL)
 | [],_=>.refl _
 | x::l,h=>.cons (.cons (.refl _) (.cons (.refl _) (.cons (.refl _) (.cons (.refl _) (.cons (Xn (h x (aaV ..))) (.refl _)))))) (Jk l fun y hy=>h y (aaL _ hy))
theorem XM {x:List Dec×List Fn} (h:∀f∈x.2,f.good):DLe (Zs x) (pgD (mW x)):=
 .agg (.cons (.refl _) (.cons (.slice (IK x.2 0)) (.cons (.slice (Jk _ (za x.2 0 h))) (.refl _))))
theorem VD:DLe noD (pgD yc):=.agg (.cons (.nil 3) (.cons (.nil 3) (.cons (.nil 5) (.refl _))))
theorem C4:∀(f:Nat) (r:List UInt8) (a:Int) (l:List Tok),iu f r a=some l->l.length<=r.length
 | 0,[],a,l,h=>by rw [iu] at h;injection h with h;subst h;simp
 | _+1,[],a,l,h=>by rw [iu] at h;injection h with h;subst h;simp
 | 0,c::t,a,l,h=>by unfold iu at h;cases h
 | f+1,c::t,a,l,h=>by
  rw [iu] at h
  split at h
  ·have:=C4 f _ _ _ h
   simp;omega
  ·split at h
   ·cases h
   ·rename_i k n v ht
    rw [aaC] at h;obtain ⟨l',h1,rfl⟩:=h;have:=C4 f _ _ _ h1;have:=ft ht;simp at *;omega
theorem C5 (s:List UInt8):(fh s).1.length<=s.length:=by
 unfold fh
 split
 ·simp
 ·split
  ·simp
  ·rename_i l h
   exact C4 _ _ _ _ h
theorem vM (s:List UInt8) (hs:s.length<1000000):Ret P0 ez [.str s] (Vx (ofR s)):=by
 have hno:∀e:Int,DLe (.tuple [noD,I e]) (.tuple [pgD yc,I e]):=fun e=>.tuple (.cons VD (.refl _));generalize hw:fh s=w;obtain ⟨l,e⟩:=w;have hl:l.length<1000000:=by
  have:=C5 s;rw [hw] at this;simp only at this;omega
 unfold ofR;rw [hw];simp only;by_cases he:e≠0
 ·rw [if_pos he]
  exact (BF s hs l e hw he).res (hno e)
 ·rw [if_neg he]
  have he:e=0:=Classical.byContradiction he;subst he;by_cases hd:40<iw l 0 0
  ·rw [if_pos hd]
   exact (zp s hs l hl hw hd).res (hno 2)
  ·rw [if_neg hd]
   have hc:=Xl l hl (oY l);have ZU:=SZ l;unfold oZ
   cases hp:oS (oY l) l with
   | out=>exact absurd hp ZU
   | bad=>
    rw [hp] at hc;exact (BG s hs l hl hw (by omega) hc).res (hno 3)
   | ok x r=>
    obtain ⟨ds,fs⟩:=x;rw [hp] at hc;refine (DJ s hs l hl hw (by omega) _ _ _ (bX fs 0) hc).res ?_;refine .tuple (.cons (XM (x:=(ds,fs)) ?_) (.refl _));have:=HV s;rw [hw] at this;exact ((K7 hp).good this).2
end Uw.Tryz
namespace Uw.Tryz
open Go Uw
def N9 (l:List Nod):Prop:=∀x∈l,x.kind=9->x.name≠[]
theorem N9.app {a b:List Nod} (h1:N9 a) (h2:N9 b):N9 (a++b):=fun x h=>(aaZ.1 h).elim (h1 x) (h2 x)
theorem N9.one {x:Nod} (h:x.kind=9->x.name≠[]):N9 [x]:=by intro a ha;simp at ha;subst ha;exact h
theorem RA {s:Str} (h:dq s):s≠[]:=fun e=>by
 subst e;have:=h.1;simp [HU,bu] at this
mutual
theorem Ex.n9:∀(e:Ex) (b:Nat),e.good->N9 (e.flat b)
 | .num _,b,_=>.one (fun h=>by simp at h)
 | .name _,b,_=>.one (fun h=>by simp at h)
 | .bin k x y,b,⟨hk,hx,hy⟩=>((x.n9 b hx).app (y.n9 _ hy)).app (.one (by simp only;omega))
 | .call o v ar,b,⟨_,_,h⟩=>(ar.n9 b h).app (.one (fun h=>by simp at h))
theorem Exs.n9:∀(e:Exs) (b:Nat),e.good->N9 (e.flat b)
 | .nil,b,_=>by simp [N9,Exs.flat]
 | .cons e r,b,⟨h1,h2⟩=>(e.n9 b h1).app (r.n9 _ h2)
end
theorem Bl.C6 {x:Bl} {b:Nat} (h:N9 (x.flat b)):N9 (x.all b):=h.app (.one (fun h=>by simp at h))
mutual
theorem Stm.n9:∀(e:Stm) (b:Nat),e.good->N9 (e.flat b)
 | .set s e,b,⟨hs,h⟩=>(e.n9 b h).app (.one (fun _=>RA hs))
 | .task par to f ar,b,⟨_,_,h,_⟩=>(ar.n9 b h).app (.one (by simp only;split<;>omega))
 | .sync,b,_=>.one (fun h=>by simp at h)
 | .if1 e x,b,⟨h1,h2⟩=>((e.n9 b h1).app (Bl.C6 (x.n9 _ h2))).app (.one (fun h=>by simp at h))
 | .if2 e x y,b,⟨h1,h2,h3⟩=>(((e.n9 b h1).app (Bl.C6 (x.n9 _ h2))).app (Bl.C6 (y.n9 _ h3))).app (.one (fun h=>by simp at h))
 | .loop e x,b,⟨h1,h2⟩=>((e.n9 b h1).app (Bl.C6 (x.n9 _ h2))).app (.one (fun h=>by simp at h))
 | .one k e,b,⟨hk,h⟩=>(e.n9 b h).app (.one (by simp only;omega))
 | .act o v ar,b,⟨_,_,h⟩=>((ar.n9 b h).app (.one (fun h=>by simp at h))).app (.one (fun h=>by simp at h))
theorem Bl.n9:∀(e:Bl) (b:Nat),e.good->N9 (e.flat b)
 | .nil,b,_=>by simp [N9,Bl.flat]
 | .cons e r,b,⟨h1,h2⟩=>(e.n9 b h1).app (r.n9 _ h2)
end
theorem ES:∀(fs:List Fn) (b:Nat),(∀f∈fs,f.good)->N9 (bX fs b)
 | [],b,_=>by simp [N9,bX]
 | f::fs,b,h=>(Bl.C6 (f.body.n9 b (h f (aaV ..)).body)).app (ES fs _ fun x hx=>h x (aaL _ hx))
theorem C7:∀(n:Nat) {r r' : List Tok} {l:List Str},cq n r = .ok l r'->Suf r r' l.length
 | 0,_,_,_,h=>by rw [cq] at h;cases h
 | n+1,r,r',l,h=>by
  rw [cq] at h
  split at h
  ·rename_i hh
   obtain ⟨s,r1,h1,h⟩:=bind_ok.1 h;obtain ⟨l2,r2,h2,h⟩:=bind_ok.1 h;injection h with e1 e2
   subst e1 e2;exact ((Suf.hd hh (by decide)).trans ((Suf.name h1).trans (C7 n h2))).le (by simp;omega)
  ·obtain ⟨u,r1,h1,h⟩:=bind_ok.1 h
   injection h with e1 e2
   subst e1 e2;exact (Suf.want (by decide) h1).le (by simp)
theorem Vh {n:Nat} {r r' : List Tok} {f:Fn} (h:lZ n r = .ok f r'):r'.length+f.sz<=r.length/\f.args.length<=r.length/\r'.length<r.length:=by
 rw [lZ] at h;obtain ⟨u,r1,h1,h⟩:=bind_ok.1 h;obtain ⟨s,r2,h2,h⟩:=bind_ok.1 h;obtain ⟨l,r3,h3,h⟩:=bind_ok.1 h;obtain ⟨b,r4,h4,h⟩:=bind_ok.1 h;injection h with e1 e2
 subst e1 e2;have a1:=(Suf.want (by decide) h1).len;have a2:=(Suf.name h2).len;have a4:=((oV n).block _ _ _ h4).len;have a3:Suf r2 r3 l.length:=by
  rw [je] at h3;obtain ⟨u,q1,g1,h3⟩:=bind_ok.1 h3
  split at h3
  ·rename_i hh
   injection h3 with e1 e2
   subst e1 e2;exact ((Suf.want (by decide) g1).trans (Suf.hd hh (by decide))).le (by simp)
  ·obtain ⟨s,q2,g2,h3⟩:=bind_ok.1 h3
   obtain ⟨l2,q3,g3,h3⟩:=bind_ok.1 h3;injection h3 with e1 e2
   subst e1 e2;exact ((Suf.want (by decide) g1).trans ((Suf.name g2).trans (C7 n g3))).le (by simp;omega)
 have a3:=a3.len;simp only [Fn.sz];omega
theorem RB {r:List Tok} {fs:List Fn} (h:mV r fs):bR fs<=r.length/\fs.length<=r.length/\∀f∈fs,f.args.length<=r.length:=by
 induction h with
 | nil=>simp [bR]
 | cons h1 h2 ih=>
  obtain ⟨n,h1⟩:=h1;have:=Vh h1;refine ⟨by rw [bR];omega,by rw [aaA];omega,fun f hf=>?_⟩
  rcases aaN.1 hf with rfl|hf
  ·exact this.2.1
  ·have:=ih.2.2 f hf;omega
theorem XO (s:List UInt8) (h:(ofR s).2≠0):(ofR s).1=yc:=by
 unfold ofR at h ⊢
 split at h
 ·rename_i h1
  rw [if_pos h1]
 ·split at h
  ·rename_i h1 h2
   rw [if_neg h1,if_pos h2]
  ·rename_i h1 h2
   rw [if_neg h1,if_neg h2]
   cases hp:oZ (fh s).1 with
   | none=>rfl
   | some x=>rw [hp] at h;exact absurd rfl h
theorem XP (s:List UInt8) (h:(ofR s).2=0):∃ds fs,Prg (fh s).1 ds fs/\(ofR s).1=mW (ds,fs):=by
 unfold ofR at h ⊢
 split at h
 ·rename_i h1
  exact absurd h h1
 ·split at h
  ·cases h
  ·rename_i h1 h2
   rw [if_neg h1,if_neg h2]
   cases hp:oZ (fh s).1 with
   | none=>rw [hp] at h;cases h
   | some x=>exact ⟨x.1,x.2,yb.1 hp,rfl⟩
theorem ET:∀(fs:List Fn) (b:Nat),∀g∈kD fs b,∃f∈fs,g.args=f.args/\g.name=f.name
 | [],_,g,h=>by simp [kD] at h
 | f::fs,b,g,h=>by
  rw [kD] at h
  rcases aaN.1 h with rfl|h
  ·exact ⟨f,by simp,rfl,rfl⟩
  ·obtain ⟨f2,h1,h2⟩:=ET fs _ g h
   exact ⟨f2,by simp [h1],h2⟩
theorem XQ {ns:List Nod} {x:Nod} (h:x∈ns):x.of.length<=(ofs ns).length:=by
 induction ns with
 | nil=>simp at h
 | cons y ns ih=>
  rw [ofs,abk,aaw]
  rcases aaN.1 h with rfl|h
  ·omega
  ·have:=ih h
   rw [ofs] at this;omega
theorem RD (s:List UInt8) (hs:s.length<100000):Lim (ofR s).1/\XL (ofR s).1/\(ofR s).1.nodes.length<=s.length/\(ofR s).1.ag.length<=s.length:=by
 by_cases he:(ofR s).2=0
 rotate_left 1
 ·rw [XO s he]
  exact ⟨⟨by decide,by decide,by decide,by decide,by decide⟩,⟨fun d h=>by simp [yc] at h,fun x h=>by simp [yc] at h⟩,abr _,abr _⟩
 ·obtain ⟨ds,fs,hp,e⟩:=XP s he
  have hg:=hp.good (HV s);obtain ⟨r,h1,h2⟩:=hp;have hl:=C5 s;have a1:=h1.len;obtain ⟨b1,b2,b3⟩:=RB h2;have hn:((bX fs 0).map Nod.nd).length<=s.length:=by rw [aaT,jE];omega
  have hof:(ofs (bX fs 0)).length<=bR fs:=by
   have:=(yM fs 0).length_eq;rw [aaw,List.length_range'] at this;omega
  rw [e];refine ⟨⟨?_,?_,?_,?_,?_⟩,⟨fun d hd=>(hg.1 d hd).n,fun x hx=>?_⟩,hn,?_⟩
  ·exact ac3 hn hs
  ·show (kD fs 0).length<_;rw [nr];omega
  ·show ds.length<_;omega
  ·intro x hx
   obtain ⟨y,hy,rfl⟩:=abu.1 hx;have:y.of.length<=(ofs (bX fs 0)).length:=XQ hy;show (y.of.map _).length<_;rw [aaT];omega
  ·intro g hgm
   obtain ⟨f,hf,e,_⟩:=ET fs 0 g hgm;rw [e];have:=b3 f hf;omega
  ·obtain ⟨y,hy,rfl⟩:=abu.1 hx
   exact ES fs 0 hg.2 y hy
  ·show (kD fs 0).length<=_;rw [nr];omega
end Uw.Tryz
namespace Uw.Tryz
open Go Uw
def alT:List UInt8:=[99,101,108,108,32,120,59,32,109,97,112,32,109,59,32,102,117,110,99,32,102,40,97,41,32,123,32,109,46,112,117,116,40,97,44,32,49,41,59,32,125,32,102,117,110,99,32,109,97,105,110,40,41,32,123,32,105,102,32,120,32,60,32,49,32,123,32,120,32,61,32,50,59,32,125,32,121,32,61,32,112,97,114,32,102,40,48,44,32,51,41,59,32,125]
def NZ:Bd:=⟨1,1,[⟨2,0,0,0⟩,⟨1,1,0,0⟩,⟨11,2,0,2⟩,⟨12,0,0,0⟩,⟨1,0,0,0⟩,⟨17,0,0,0⟩]⟩
def N1:Bd:=⟨0,1,[⟨4,0,0,0⟩,⟨1,1,0,0⟩,⟨9,0,0,0⟩,⟨16,6,0,0⟩,⟨1,2,0,0⟩,⟨5,0,0,0⟩,⟨1,0,0,0⟩,⟨1,3,0,0⟩,⟨13,2,2,0⟩,⟨1,0,0,0⟩,⟨17,0,0,0⟩]⟩
def alC:Cd:=⟨[NZ,N1,yZ 0 2],[0],1,0,0,1⟩
abbrev XR (b:Bd):Dat:=.agg [I b.args,I b.locals,.slice 4 (b.ins.map in4) true]
theorem RE (b:Bd):DLe (XR b) (.agg (bdC b)):=.agg (.cons (.refl _) (.cons (.refl _) (.cons (.slice (.refl _)) (.refl _))))
theorem XS (p:Pg):runT pL.res (exec pL.code (lX []) Tree.done) [.tuple [pgD p,I 0],.tuple [cdD alC,I 0],.tuple [cdD DL,I 4],.bool true,.bool true,.bool true,.bool false,bN [0,1,2,1,0,1],.bool true,.nil] =
  some ([(ez,[.str alT]),(j9,[pgD p]),(j9,[.agg [.nil,.nil,.nil]]),(iT,[.agg (bdC NZ),XR NZ]),(iT,[.agg (bdC N1),XR N1]),(fu,[cdD alC]),(fu,[NY]),(ek,[cdD alC,I 0]),(q8,[bN [0,1,2,1,0,1],.slice 1 ([0,1,2,1,0,1].map fun i=>[I i]) true]),(ek,[cdD alC,I 3])],.bool true):=by kernel_rfl
def RF:List (Nat×bE):=[(ek,o5),(qu,qw),(qx,qy),(rK,rL),(qA,qB),(rQ,rR),(rM,rN),(fu,rJ)]
theorem G6:∀f m,look RF f=some m->aM P0 f m:=K4 ⟨vp,wB,wC,yf,wQ,yh,yg,yd,trivial⟩
theorem YX:ofP (ofR alT).1=(alC,0):=by kernel_rfl
theorem YY:(ofR alT).2=0:=by kernel_rfl
theorem RG:(evN RF 100).F fu [cdD alC]=some (.bool true):=by kernel_rfl
theorem Vi:(evN RF 100).F fu [NY]=some (.bool false):=by kernel_rfl
theorem Vj:(evN RF 100).F ek [cdD alC,I 0]=some (.slice 1 ([0,1,2,1,0,1].map fun i=>[I i]) false):=by kernel_rfl
theorem XT:(evN RF 100).F ek [cdD alC,I 3]=some .nil:=by kernel_rfl
theorem DU:Ret P0 uL [] (.bool true):=by
 have h1:=vM alT (by decide);have h2:=rF (ofR alT).1 (RD alT (by decide)).1;have h3:=rF yc ⟨by decide,by decide,by decide,by decide,by decide⟩;have e3:ofP yc=(DL,4):=by kernel_rfl
 have h4:=rG NZ NZ (by decide);have h5:=rG N1 N1 (by decide);have h9:=xF [0,1,2,1,0,1] [0,1,2,1,0,1] (by decide);rw [YX] at h2;rw [e3] at h3;rw [decide_eq_true rfl] at h4 h5 h9;have h1:Ret P0 ez [.str alT] (.tuple [pgD (ofR alT).1,I 0]):=by
  have e:Vx (ofR alT) = .tuple [pgD (ofR alT).1,I (ofR alT).2]:=rfl;rw [e,YY] at h1;exact h1
 exact PL AO _ _ rfl (XS (ofR alT).1) ⟨h1,h2,h3.args (.cons VD (.refl _)),h4.args (.cons (.refl _) (.cons (RE NZ) (.refl _))),h5.args (.cons (.refl _) (.cons (RE N1) (.refl _))),FG 100 G6 RG,FG 100 G6 Vi,FG 100 G6 Vj,h9.args (.cons (.refl _) (.cons (.slice (.refl _)) (.refl _))),FG 100 G6 XT,trivial⟩
end Uw.Tryz
