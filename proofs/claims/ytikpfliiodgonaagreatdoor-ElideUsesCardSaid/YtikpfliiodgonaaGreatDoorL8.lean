/- L8: Ac Ad Ae Af Ah Oy Oz Ai Aj Ak Al Am An Ao Ap Aq Ar As At Au Av Aw Bz By Bx Bw Bv Bt Fd Gi Cn Gj (merged by merge2.py from the working texts). -/
import Derived.Test.YtikpfliiodgonaaGreatDoorL7
import Derived.Test.YtikpfliiodgonaaGreatDoorL6
import Derived.Shelf.Slices.Equal
import Derived.Shelf.SlSortCmp.Whole1
import Derived.Shelf.SlSortCmp.NoneTotal
set_option maxRecDepth 100000
set_option maxHeartbeats 4000000
set_option linter.unusedSimpArgs false
set_option linter.unnecessarySimpa false
set_option linter.unusedVariables false
set_option linter.unusedSectionVars false
namespace Uw.Tryz.El
open Go Uw Uw.Tryz
variable {C1 C2 C3 C4 C5 C6 : Dat} {xc : Nat} {rc : List (List Dat)} {gm xm : Nat} {rm : List (List Dat)} {gs xs : Nat} {rs : List (List Dat)} {gc xh : Nat} {rh : List (List Dat)} {xu : Nat} {ru : List (List Dat)} {xp : Nat} {rp : List (List Dat)} {st : Int} {gv xv : Nat} {rv : List (List Dat)} {sp : Int} {gf xf : Nat} {rf : List (List Dat)}
 {f1 f3 f4 f8 f9:Int} {f5 f6 f7:Dat} {f10:Bool} {p:List Int}
abbrev fA (f1:Int) (p:List Int) (f3 f4:Int) (f5 f6 f7:Dat) (f8 f9:Int) (f10:Bool):V:=.agg [.d (I f1),.d (ae p),.d (I f3),.d (I f4),.d f5,.d f6,.d f7,.d (I f8),.d (I f9),.d (.bool f10)]
theorem RD (aJ cell v u:Int) (h0:0<=cell) (h1:cell<xc) (hrc:rc.length=xc) (e1:rc[0+cell.toNat]? = some [I u]) (hu:xu<1000000) (hru:ru.length=xu) (hp:p.length<1000000) :
  eM P0 gZ [.ptr 0 0,fA f1 p f3 f4 f5 f6 f7 f8 f9 f10,.d (I aJ),.d (I cell),.d (I v)] (wG [.d C1,.d C2,.d C3,.d C4,.d C5,.d C6] xc rc gm xm rm gs xs rs gc xh rh xu ru xp rp st gv xv rv sp gf xf rf)
   (.tuple []) (wG [.d C1,.d C2,.d C3,.d C4,.d C5,.d C6] xc (rc.set (0+cell.toNat) [I v]) gm xm rm gs xs rs gc xh rh (xu+1) (ru++[bA ⟨aJ,p,0,cell,⟨1,0,v,0⟩,0,false⟩]) xp rp st gv xv rv sp gf xf rf):=by
 have hc:=dj p hp;refine dB tz.h rfl ?_
 repeat refine aw ?_
 refine aX ⟨[],aM 0 (wG [.d C1,.d C2,.d C3,.d C4,.d C5,.d C6] xc (rc.set (0+cell.toNat) [I v]) gm xm rm gs xs rs gc xh rh (xu+1) (ru++[bA ⟨aJ,p,0,cell,⟨1,0,v,0⟩,0,false⟩]) xp rp st gv xv rv sp gf xf rf),9,[],9⟩ ?_ ?_
 ·repeat refine aw ?_
  exact ai (.inl ⟨rfl,by exact Uw.wM⟩)
 refine vm 9 rfl rfl ?_;exact Uw.wM
theorem RE (aJ block:Int) (kids:List (List Dat)) (hk:kids≠[]) (hx:xp<1000000) (hrp:rp.length=xp) :
  eM P0 iO [.ptr 0 0,fA f1 p f3 f4 f5 f6 (.slice 2 kids false) f8 f9 f10,.d (I aJ),.d (I block)] (wG [.d C1,.d C2,.d C3,.d C4,.d C5,.d C6] xc rc gm xm rm gs xs rs gc xh rh xu ru xp rp st gv xv rv sp gf xf rf)
   (.d (I block)) (wG [.d C1,.d C2,.d C3,.d C4,.d C5,.d C6] xc rc gm xm rm gs xs rs gc xh rh xu ru (xp+1) (rp++[iz ⟨3,aJ,0,0,block⟩]) st gv xv rv sp gf xf rf):=by
 have hl:¬((kids.length:Nat):Int)=0:=by cases kids<;>simp_all;omega
 refine dB uA.h rfl ?_
 repeat refine aw ?_
 refine dc 9 rfl rfl ?_;exact Uw.wM
theorem VA (aJ join:Int) (named:Bool) (hx:xp<1000000) (hrp:rp.length=xp) (h0:0<=st) (h1:st<1000000) :
  eM P0 iN [.ptr 0 0,.d (I aJ),.d (I join),.d (.bool named)] (wG [.d C1,.d C2,.d C3,.d C4,.d C5,.d C6] xc rc gm xm rm gs xs rs gc xh rh xu ru xp rp st gv xv rv sp gf xf rf)
   (.agg ((iz ⟨1,aJ,st,st+1,if named then join else st+2⟩).map V.d)) (wG [.d C1,.d C2,.d C3,.d C4,.d C5,.d C6] xc rc gm xm rm gs xs rs gc xh rh xu ru (xp+1) (rp++[iz ⟨1,aJ,st,st+1,if named then join else st+2⟩]) (if named then st+2 else st+3) gv xv rv sp gf xf rf):=by
 cases named with
 | true=>
  refine dB nO.h rfl ?_
  repeat refine aw ?_
  refine aX ⟨[(0,.ptr 0 0),(1,.d (I aJ)),(2,.d (I join)),(3,.d (.bool true)),(8,.ptr 9 0),(9,.ptr 10 0)],aM 0 (wG [.d C1,.d C2,.d C3,.d C4,.d C5,.d C6] xc rc gm xm rm gs xs rs gc xh rh xu ru xp rp st gv xv rv sp gf xf rf++[.var [.d (I 0),.d (I 0),.d (I 0),.d (I 0),.d (I 0)],.var [.d (I 1),.d (I aJ),.d (I st),.d (I (st+1)),.d (I join)]]),11,[],9⟩ ?_ ?_
  ·repeat refine aw ?_
   exact ai (.inl ⟨rfl,by exact Uw.wM⟩)
  repeat refine aw ?_
  refine aX ⟨[(8,.ptr 9 0),(9,.ptr 10 0)],aM 0 (wG [.d C1,.d C2,.d C3,.d C4,.d C5,.d C6] xc rc gm xm rm gs xs rs gc xh rh xu ru (xp+1) (rp++[iz ⟨1,aJ,st,st+1,join⟩]) (st+2) gv xv rv sp gf xf rf++[.var [.d (I 0),.d (I 0),.d (I 0),.d (I 0),.d (I 0)],.var [.d (I 1),.d (I aJ),.d (I st),.d (I (st+1)),.d (I join)]]),11,[],9⟩ ?_ ?_
  ·repeat refine aw ?_
   exact ai (.inl ⟨rfl,by exact Uw.wM⟩)
  repeat refine aw ?_
  refine dc 9 rfl rfl ?_;exact Uw.wM
 | false=>
  refine dB nO.h rfl ?_
  repeat refine aw ?_
  refine aX ⟨[(0,.ptr 0 0),(1,.d (I aJ)),(2,.d (I join)),(3,.d (.bool false)),(8,.ptr 9 0),(9,.ptr 10 0)],aM 0 (wG [.d C1,.d C2,.d C3,.d C4,.d C5,.d C6] xc rc gm xm rm gs xs rs gc xh rh xu ru xp rp st gv xv rv sp gf xf rf++[.var [.d (I 0),.d (I 0),.d (I 0),.d (I 0),.d (I 0)],.var [.d (I 1),.d (I aJ),.d (I st),.d (I (st+1)),.d (I join)]]),11,[],9⟩ ?_ ?_
  ·repeat refine aw ?_
   exact ai (.inl ⟨rfl,by exact Uw.wM⟩)
  repeat refine aw ?_
  refine aX ⟨[(8,.ptr 9 0),(9,.ptr 10 0)],aM 0 (wG [.d C1,.d C2,.d C3,.d C4,.d C5,.d C6] xc rc gm xm rm gs xs rs gc xh rh xu ru (xp+1) (rp++[iz ⟨1,aJ,st,st+1,st+2⟩]) (st+3) gv xv rv sp gf xf rf++[.var [.d (I 0),.d (I 0),.d (I 0),.d (I 0),.d (I 0)],.var [.d (I 1),.d (I aJ),.d (I st),.d (I (st+1)),.d (I (st+2))]]),11,[],9⟩ ?_ ?_
  ·repeat refine aw ?_
   exact ai (.inl ⟨rfl,by exact Uw.wM⟩)
  repeat refine aw ?_
  refine dc 9 rfl rfl ?_;exact Uw.wM
end Uw.Tryz.El
namespace Uw.Tryz.El
open Go Uw Uw.Tryz
variable {C1 C2 C3 C4 C5 C6 : Dat} {xc : Nat} {rc : List (List Dat)} {gm xm : Nat} {rm : List (List Dat)} {gs xs : Nat} {rs : List (List Dat)} {gc xh : Nat} {rh : List (List Dat)} {xu : Nat} {ru : List (List Dat)} {xp : Nat} {rp : List (List Dat)} {st : Int} {gv xv : Nat} {rv : List (List Dat)} {sp : Int} {gf xf : Nat} {rf : List (List Dat)}
 {f1 f3 f4 f8 f9:Int} {f5 f6 f7:Dat} {f10:Bool} {p:List Int}
theorem RF (kids:List (Int×Int)) (vs:List Int) (hk:kids.length<1000) (hv:∀(j:Nat) (h:j<kids.length),1<=kids[j].1/\kids[j].1<=xv/\rv[0+(kids[j].1 - 1).toNat]? = some [I (vs.getD j 0)]) (hl:vs.length=kids.length) (hrv:rv.length=xv) (hx:xv<1000000) :
  eM P0 hU [.ptr 0 0,fA f1 p f3 f4 f5 f6 (.slice 2 (kids.map Vm.fL) false) f8 f9 f10] (wG [.d C1,.d C2,.d C3,.d C4,.d C5,.d C6] xc rc gm xm rm gs xs rs gc xh rh xu ru xp rp st gv xv rv sp gf xf rf)
   (.ref 10 0 0 kids.length) ((wG [.d C1,.d C2,.d C3,.d C4,.d C5,.d C6] xc rc gm xm rm gs xs rs gc xh rh xu ru xp rp st gv xv rv sp gf xf rf)++[.var [.d (I f1),.d (ae p),.d (I f3),.d (I f4),.d f5,.d f6,.d (.slice 2 (kids.map Vm.fL) false),.d (I f8),.d (I f9),.d (.bool f10)],.arr 1 (bn vs)]):=by
 have hm:(kids.map Vm.fL).length=kids.length:=by simp
 have he:∀(j:Nat) (h:j<kids.length),(kids.map Vm.fL)[(j:Int).toNat]? = some [I kids[j].1,I kids[j].2]:=fun j h=>by simp [h,Vm.fL]
 have hs:∀(j:Nat) (h:j<kids.length),bn (vs.take (j+1))=bn (vs.take j)++(List.replicate 1 [Dat.int IntKind.i64 0]).set 0 [I (vs.getD j 0)]:=fun j h=>by
  have h2:j<vs.length:=by omega
  have e:vs.take (j+1)=vs.take j++[vs.getD j 0]:=by
   rw [List.take_add_one,AN h2,ZS,AN h2];rfl
  unfold bn;rw [e,Z7];rfl
 have hn:∀(j:Nat) (h:j<=kids.length),(bn (vs.take j)).length=j:=fun j h=>by simp [bn];omega
 have hz:bn (vs.take kids.length)=bn vs:=by rw [i5 (by omega)]
 have h00:bn (vs.take 0)=[]:=rfl;refine dB tA.h rfl ?_
 repeat refine aw ?_
 refine dH kids.length (fun j=>⟨[(11,.d (I j)),(10,.d (I (((kids.map Vm.fL).length:Nat):Int))),(9,.d (.slice 2 (kids.map Vm.fL) false)),(5,.ref 10 0 0 j),(0,.ptr 0 0)],aM 0 ((wG [.d C1,.d C2,.d C3,.d C4,.d C5,.d C6] xc rc gm xm rm gs xs rs gc xh rh xu ru xp rp st gv xv rv sp gf xf rf)++[.var [.d (I f1),.d (ae p),.d (I f3),.d (I f4),.d f5,.d f6,.d (.slice 2 (kids.map Vm.fL) false),.d (I f8),.d (I f9),.d (.bool f10)],.arr 1 (bn (vs.take j))]),11,[],9⟩) (fun j=>True) ?_ (fun _=>?_) (fun j hj _=>?_)
 ·exact Uw.wM
 ·rw [hz]
  repeat refine aw ?_
  refine aS ?_
  repeat refine aw ?_
  refine dc 9 rfl rfl ?_;exact Uw.wM
 ·have e1:=he j hj
  obtain ⟨v1,v2,v3⟩:=hv j hj;have e4:=(hs j hj).symm;have e5:=hn j (by omega);clear he hv hs hn hz h00;generalize kids[j].1=k1 at *;generalize kids[j].2=k2 at *;generalize vs.getD j 0=v at *;generalize bn (vs.take j)=r0 at *
  repeat refine aw ?_
  exact cH j trivial (by exact Uw.wM)
theorem RG (v u aJ above:Int) (ht:f1=1) (h1:f1<=xv) (hrv:rv.length=xv) (hx:xv<1000000) (e1:rv[0+(f1 - 1).toNat]? = some [I u]) (hxp:xp<1000000) (hrp:rp.length=xp) (h2:0<=sp) (h3:sp<1000000000) (h4:0<=f9) (h5:f9<1000000) (hp:p.length<1000000) (hxf:xf<1000000) (hrf:rf.length=xf) :
  eM P0 dP [.ptr 0 0,fA f1 p f3 f4 f5 f6 f7 f8 f9 false,.d (I v),.d (I aJ),.d (I above)] (wG [.d C1,.d C2,.d C3,.d C4,.d C5,.d C6] xc rc gm xm rm gs xs rs gc xh rh xu ru xp rp st gv xv rv sp gf xf rf)
   (.tuple []) (wG [.d C1,.d C2,.d C3,.d C4,.d C5,.d C6] xc rc gm xm rm gs xs rs gc xh rh xu ru xp rp st gv xv (rv.set (0+(f1 - 1).toNat) [I v]) (sp+f9) gf xf rf):=by
 have hc:=dj p hp;refine dB fP.h rfl ?_
 repeat refine aw ?_
 refine vm 9 rfl rfl ?_;exact Uw.wM
theorem RH (v u aJ above:Int) (ht:f1=1) (h1:f1<=xv) (hrv:rv.length=xv) (hx:xv<1000000) (e1:rv[0+(f1 - 1).toNat]? = some [I u]) (hxp:xp<1000000) (hrp:rp.length=xp) (h2:0<=sp) (h3:sp<1000000000) (h4:0<=f9) (h5:f9<1000000) (hp:p.length<1000000) (hxf:xf<1000000) (hrf:rf.length=xf) :
  eM P0 dP [.ptr 0 0,fA f1 p f3 f4 f5 f6 f7 f8 f9 true,.d (I v),.d (I aJ),.d (I above)] (wG [.d C1,.d C2,.d C3,.d C4,.d C5,.d C6] xc rc gm xm rm gs xs rs gc xh rh xu ru xp rp st gv xv rv sp gf xf rf)
   (.tuple []) (wG [.d C1,.d C2,.d C3,.d C4,.d C5,.d C6] xc rc gm xm rm gs xs rs gc xh rh xu ru xp rp st gv xv (rv.set (0+(f1 - 1).toNat) [I v]) (sp+f9) (gf+1) (xf+1) (rf.take xf++[[ae p]])):=by
 have hc:=dj p hp;refine dB fP.h rfl ?_
 repeat refine aw ?_
 refine aX ⟨[],aM 0 (wG [.d C1,.d C2,.d C3,.d C4,.d C5,.d C6] xc rc gm xm rm gs xs rs gc xh rh xu ru xp rp st gv xv (rv.set (0+(f1 - 1).toNat) [I v]) (sp+f9) (gf+1) (xf+1) (rf.take xf++[[ae p]])),9,[],9⟩ ?_ ?_
 ·repeat refine aw ?_
  exact ai (.inl ⟨rfl,by exact Uw.wM⟩)
 refine vm 9 rfl rfl ?_;exact Uw.wM
theorem RJ (v u aJ above:Int) (ht:1<f1) (h1:f1<=xv) (hrv:rv.length=xv) (hx:xv<1000000) (e1:rv[0+(f1 - 1).toNat]? = some [I u]) (hxp:xp<1000000) (hrp:rp.length=xp) (h2:0<=sp) (h3:sp<1000000000) (h4:0<=f9) (h5:f9<1000000) (hp:p.length<1000000) (hxf:xf<1000000) (hrf:rf.length=xf) :
  eM P0 dP [.ptr 0 0,fA f1 p f3 f4 f5 f6 f7 f8 f9 false,.d (I v),.d (I aJ),.d (I above)] (wG [.d C1,.d C2,.d C3,.d C4,.d C5,.d C6] xc rc gm xm rm gs xs rs gc xh rh xu ru xp rp st gv xv rv sp gf xf rf)
   (.tuple []) (wG [.d C1,.d C2,.d C3,.d C4,.d C5,.d C6] xc rc gm xm rm gs xs rs gc xh rh xu ru (xp+1) (rp++[iz ⟨2,aJ,0,0,above⟩]) st gv xv (rv.set (0+(f1 - 1).toNat) [I v]) (sp+f9) gf xf rf):=by
 have hc:=dj p hp;refine dB fP.h rfl ?_
 repeat refine aw ?_
 refine vm 9 rfl rfl ?_;exact Uw.wM
theorem RL (v u aJ above:Int) (ht:1<f1) (h1:f1<=xv) (hrv:rv.length=xv) (hx:xv<1000000) (e1:rv[0+(f1 - 1).toNat]? = some [I u]) (hxp:xp<1000000) (hrp:rp.length=xp) (h2:0<=sp) (h3:sp<1000000000) (h4:0<=f9) (h5:f9<1000000) (hp:p.length<1000000) (hxf:xf<1000000) (hrf:rf.length=xf) :
  eM P0 dP [.ptr 0 0,fA f1 p f3 f4 f5 f6 f7 f8 f9 true,.d (I v),.d (I aJ),.d (I above)] (wG [.d C1,.d C2,.d C3,.d C4,.d C5,.d C6] xc rc gm xm rm gs xs rs gc xh rh xu ru xp rp st gv xv rv sp gf xf rf)
   (.tuple []) (wG [.d C1,.d C2,.d C3,.d C4,.d C5,.d C6] xc rc gm xm rm gs xs rs gc xh rh xu ru (xp+1) (rp++[iz ⟨2,aJ,0,0,above⟩]) st gv xv (rv.set (0+(f1 - 1).toNat) [I v]) (sp+f9) (gf+1) (xf+1) (rf.take xf++[[ae p]])):=by
 have hc:=dj p hp;refine dB fP.h rfl ?_
 repeat refine aw ?_
 refine aX ⟨[],aM 0 (wG [.d C1,.d C2,.d C3,.d C4,.d C5,.d C6] xc rc gm xm rm gs xs rs gc xh rh xu ru (xp+1) (rp++[iz ⟨2,aJ,0,0,above⟩]) st gv xv (rv.set (0+(f1 - 1).toNat) [I v]) (sp+f9) (gf+1) (xf+1) (rf.take xf++[[ae p]])),9,[],9⟩ ?_ ?_
 ·repeat refine aw ?_
  exact ai (.inl ⟨rfl,by exact Uw.wM⟩)
 refine vm 9 rfl rfl ?_;exact Uw.wM
end Uw.Tryz.El
namespace Uw.Tryz.El
open Go Uw Uw.Tryz
variable {C1 C2 C3 C4 C5 C6 : Dat} {xc : Nat} {rc : List (List Dat)} {gm xm : Nat} {rm : List (List Dat)} {gs xs : Nat} {rs : List (List Dat)} {gc xh : Nat} {rh : List (List Dat)} {xu : Nat} {ru : List (List Dat)} {xp : Nat} {rp : List (List Dat)} {st : Int} {gv xv : Nat} {rv : List (List Dat)} {sp : Int} {gf xf : Nat} {rf : List (List Dat)}
 {f1 f3 f4 f8 f9:Int} {f5 f6 f7:Dat} {f10:Bool} {p:List Int}
def bB (l:List Cont):Nat:=(l.map (·.vals.length)).sum
theorem I1 (l:List Cont) (j:Nat) (h:j<l.length):bB (l.take (j+1))=bB (l.take j)+l[j].vals.length:=by
 have e:l.take (j+1)=l.take j++[l[j]]:=by
  rw [List.take_add_one,AN h];rfl
 unfold bB;rw [e,Z7,aaX];simp
theorem Ax (l:List Cont) (j:Nat) (h:j<l.length):∃k ks vs,(l.map av)[0+(j:Int).toNat]? = some [I k,ae ks,ae vs]/\bB (l.take (j+1))=bB (l.take j)+(vs.map fun i=>[I i]).length:=
 ⟨l[j].kind,l[j].keys,l[j].vals,by simp [h,av],by rw [I1 l j h];simp⟩
theorem Az (l:List Cont) (j:Nat):bB (l.take j)<=bB l:=by
 have:bB l=bB (l.take j)+bB (l.drop j):=by
  unfold bB;rw [<- aaX,<- Z7,ZT]
 omega
theorem VB (ms ss hs:List Cont) (hm:ms.length<1000) (hs1:ss.length<1000) (hh:hs.length<1000) (bm:bB ms<1000000) (bs:bB ss<1000000) (bh:bB hs<1000000) :
  eM P0 dz [.ptr 0 0] (wG [.d C1,.d C2,.d C3,.d C4,.d C5,.d C6] xc rc gm ms.length (ms.map av) gs ss.length (ss.map av) gc hs.length (hs.map av) xu ru xp rp st gv xv rv sp gf xf rf)
   (.d (.bool (decide (1000<0+(bB ms:Int)+bB ss+bB hs)))) (wG [.d C1,.d C2,.d C3,.d C4,.d C5,.d C6] xc rc gm ms.length (ms.map av) gs ss.length (ss.map av) gc hs.length (hs.map av) xu ru xp rp st gv xv rv sp gf xf rf):=by
 have mms:(ms.map av).length=ms.length:=by simp
 have ams:=Ax ms;have bms:=Az ms;have zms:bB (ms.take ms.length)=bB ms:=by rw [ZE]
 have yms:bB (ms.take 0)=0:=rfl;have mss:(ss.map av).length=ss.length:=by simp
 have ass:=Ax ss;have bss:=Az ss;have zss:bB (ss.take ss.length)=bB ss:=by rw [ZE]
 have yss:bB (ss.take 0)=0:=rfl;have mhs:(hs.map av).length=hs.length:=by simp
 have ahs:=Ax hs;have bhs:=Az hs;have zhs:bB (hs.take hs.length)=bB hs:=by rw [ZE]
 have yhs:bB (hs.take 0)=0:=rfl;refine dB uD.h rfl ?_
 repeat refine aw ?_
 refine dO 5 ?_;show WT P0 _ _
 repeat refine aw ?_
 refine dO 1 ?_;show WT P0 _ _
 repeat refine aw ?_
 refine gB ?_
 repeat refine aw ?_
 refine cA ?_
 repeat refine aw ?_
 refine dH ms.length (fun j=>⟨[(17,.d (I j)),(16,.d (I (((ms.map av).length:Nat):Int))),(15,.ref 2 gm 0 ms.length),(12,.d (I 1)),(11,.agg [.d .nil,.ref 2 gm 0 ms.length,.ref 3 gs 0 ss.length,.ref 4 gc 0 hs.length]),(3,.d (I (0+(bB (ms.take j):Nat)))),(2,.d (.bool false)),(0,.ptr 0 0)],aM 0 (wG [.d C1,.d C2,.d C3,.d C4,.d C5,.d C6] xc rc gm ms.length (ms.map av) gs ss.length (ss.map av) gc hs.length (hs.map av) xu ru xp rp st gv xv rv sp gf xf rf),9,[],9⟩) (fun j=>True) ?_ (fun _=>?_) (fun j hj _=>?_)
 ·exact Uw.wM
 rotate_left 1
 ·obtain ⟨k,ks,vs,e1,e2⟩:=ams j hj
  have e3:=bms j;have e4:=bms (j+1);clear ams ass ahs bms bss bhs
  repeat refine aw ?_
  exact cH j trivial (by exact Uw.wM)
 rw [zms]
 repeat refine aw ?_
 refine aS ?_
 repeat refine aw ?_
 refine cA ?_
 repeat refine aw ?_
 refine dH ss.length (fun j=>⟨[(17,.d (I j)),(16,.d (I (((ss.map av).length:Nat):Int))),(15,.ref 3 gs 0 ss.length),(12,.d (I 2)),(11,.agg [.d .nil,.ref 2 gm 0 ms.length,.ref 3 gs 0 ss.length,.ref 4 gc 0 hs.length]),(3,.d (I ((0+(bB ms:Nat))+(bB (ss.take j):Nat)))),(2,.d (.bool false)),(0,.ptr 0 0)],aM 0 (wG [.d C1,.d C2,.d C3,.d C4,.d C5,.d C6] xc rc gm ms.length (ms.map av) gs ss.length (ss.map av) gc hs.length (hs.map av) xu ru xp rp st gv xv rv sp gf xf rf),9,[],9⟩) (fun j=>True) ?_ (fun _=>?_) (fun j hj _=>?_)
 ·exact Uw.wM
 rotate_left 1
 ·obtain ⟨k,ks,vs,e1,e2⟩:=ass j hj
  have e3:=bss j;have e4:=bss (j+1);clear ams ass ahs bms bss bhs
  repeat refine aw ?_
  exact cH j trivial (by exact Uw.wM)
 rw [zss]
 repeat refine aw ?_
 refine aS ?_
 repeat refine aw ?_
 refine cA ?_
 repeat refine aw ?_
 refine dH hs.length (fun j=>⟨[(17,.d (I j)),(16,.d (I (((hs.map av).length:Nat):Int))),(15,.ref 4 gc 0 hs.length),(12,.d (I 3)),(11,.agg [.d .nil,.ref 2 gm 0 ms.length,.ref 3 gs 0 ss.length,.ref 4 gc 0 hs.length]),(3,.d (I (((0+(bB ms:Nat))+(bB ss:Nat))+(bB (hs.take j):Nat)))),(2,.d (.bool false)),(0,.ptr 0 0)],aM 0 (wG [.d C1,.d C2,.d C3,.d C4,.d C5,.d C6] xc rc gm ms.length (ms.map av) gs ss.length (ss.map av) gc hs.length (hs.map av) xu ru xp rp st gv xv rv sp gf xf rf),9,[],9⟩) (fun j=>True) ?_ (fun _=>?_) (fun j hj _=>?_)
 ·exact Uw.wM
 rotate_left 1
 ·obtain ⟨k,ks,vs,e1,e2⟩:=ahs j hj
  have e3:=bhs j;have e4:=bhs (j+1);clear ams ass ahs bms bss bhs
  repeat refine aw ?_
  exact cH j trivial (by exact Uw.wM)
 rw [zhs]
 repeat refine aw ?_
 refine aS ?_
 repeat refine aw ?_
 refine cA ?_
 repeat refine aw ?_
 refine gB ?_
 repeat refine aw ?_
 refine dc 9 rfl rfl ?_;exact Uw.wM
end Uw.Tryz.El
namespace Uw.Tryz.El
open Go Uw Uw.Tryz
variable {C1 C2 C3 C4 C5 C6 : Dat} {xc : Nat} {rc : List (List Dat)} {gm xm : Nat} {rm : List (List Dat)} {gs xs : Nat} {rs : List (List Dat)} {gc xh : Nat} {rh : List (List Dat)} {xu : Nat} {ru : List (List Dat)} {xp : Nat} {rp : List (List Dat)} {st : Int} {gv xv : Nat} {rv : List (List Dat)} {sp : Int} {gf xf : Nat} {rf : List (List Dat)}
 {f1 f3 f4 f8 f9:Int} {f5 f6 f7:Dat} {f10:Bool} {p:List Int}
theorem Pq (q1 q2 q3 q4 q5 q6 q7:Int) (q8:Dat) (hx:64<=xv) :
  eM P0 dq [.ptr 0 0,fA f1 p f3 f4 f5 f6 f7 f8 f9 f10,.agg [.d (I q1),.d (I q2),.d (I q3),.d (I q4),.d (I q5),.d (I q6),.d (I q7),.d q8]] (wG [.d C1,.d C2,.d C3,.d C4,.d C5,.d C6] xc rc gm xm rm gs xs rs gc xh rh xu ru xp rp st gv xv rv sp gf xf rf)
   (.tuple [.agg [.d (I 0),.d .nil,.d (I 0),.d (I 0),.d .nil,.d .nil,.d .nil,.d (I 0),.d (I 0),.d (.bool false)],.d (I 10)]) (wG [.d C1,.d C2,.d C3,.d C4,.d C5,.d C6] xc rc gm xm rm gs xs rs gc xh rh xu ru xp rp st gv xv rv sp gf xf rf):=by
 refine dB lZ.h rfl ?_
 repeat refine aw ?_
 refine dc 9 rfl rfl ?_;exact Uw.wM
theorem He (q1 q2 q3 q4 q5 q6 q7:Int) (q8:Dat) (pc:List Int) (t1 t3 t4 t8 t9:Int) (tp l1 l2:List Int) (lk:List (List Dat)) (t10:Bool) (e:Int) (hx:xv<64)
  (hch:Ret P0 uE [.agg [I f1,ae p,I f3,I f4,f5,f6,f7,I f8,I f9,.bool f10]] (ae pc))
  (hst:Ret P0 uB [.agg [C1,C2,C3,C4,C5,C6],I q2,q8,I ((xv:Nat)+1),ae pc] (.tuple [.agg [I t1,ae tp,I t3,I t4,ae l1,ae l2,.slice 2 lk false,I t8,I t9,.bool t10],I e])) :
  eM P0 dq [.ptr 0 0,fA f1 p f3 f4 f5 f6 f7 f8 f9 f10,.agg [.d (I q1),.d (I q2),.d (I q3),.d (I q4),.d (I q5),.d (I q6),.d (I q7),.d q8]] (wG [.d C1,.d C2,.d C3,.d C4,.d C5,.d C6] xc rc gm xm rm gs xs rs gc xh rh xu ru xp rp st gv xv rv sp gf xf rf)
   (.tuple [.agg [.d (I t1),.d (ae tp),.d (I t3),.d (I t4),.d (ae l1),.d (ae l2),.d (.slice 2 lk false),.d (I t8),.d (I t9),.d (.bool t10)],.d (I e)]) (wG [.d C1,.d C2,.d C3,.d C4,.d C5,.d C6] xc rc gm xm rm gs xs rs gc xh rh xu ru xp rp st gv xv rv sp gf xf rf):=by
 refine dB lZ.h rfl ?_
 repeat refine aw ?_
 refine dc 9 rfl rfl ?_;exact Uw.wM
theorem J3 (aJ oa ob oc od v r ck dk:Int) (is fl:Bool) (cks cvs dks dvs:List Int) (hk:ofK oa=1) (h0:0<=ob) (h1:ob<xm) (hr:rm.length=xm) (e1:rm[0+ob.toNat]? = some [I ck,ae cks,ae cvs]) (hu:xu<1000000) (hru:ru.length=xu) (hp:p.length<1000000)
  (hd:Ret P0 jd [.agg [I ck,ae cks,ae cvs],.agg [I oa,I ob,I oc,I od]] (.tuple [.agg [I dk,ae dks,ae dvs],I v,.bool is])) (hval:Ret P0 nQ [.agg [I oa,I ob,I oc,I od],I v,.bool is] (I r))
  (hfull:eM P0 dz [.ptr 0 0] (wG [.d C1,.d C2,.d C3,.d C4,.d C5,.d C6] xc rc gm xm (rm.set (0+ob.toNat) [I dk,ae dks,ae dvs]) gs xs rs gc xh rh (xu+1) (ru++[bA ⟨aJ,p,1,ob,⟨oa,ob,oc,od⟩,v,is⟩]) xp rp st gv xv rv sp gf xf rf) (.d (.bool fl)) (wG [.d C1,.d C2,.d C3,.d C4,.d C5,.d C6] xc rc gm xm (rm.set (0+ob.toNat) [I dk,ae dks,ae dvs]) gs xs rs gc xh rh (xu+1) (ru++[bA ⟨aJ,p,1,ob,⟨oa,ob,oc,od⟩,v,is⟩]) xp rp st gv xv rv sp gf xf rf)) :
  eM P0 dy [.ptr 0 0,fA f1 p f3 f4 f5 f6 f7 f8 f9 f10,.d (I aJ),.agg [.d (I oa),.d (I ob),.d (I oc),.d (I od)]] (wG [.d C1,.d C2,.d C3,.d C4,.d C5,.d C6] xc rc gm xm rm gs xs rs gc xh rh xu ru xp rp st gv xv rv sp gf xf rf)
   (.tuple [if fl then .d .nil else .d (.slice 1 [[I r]] true),.d (I (if fl then 8 else 0))]) (wG [.d C1,.d C2,.d C3,.d C4,.d C5,.d C6] xc rc gm xm (rm.set (0+ob.toNat) [I dk,ae dks,ae dvs]) gs xs rs gc xh rh (xu+1) (ru++[bA ⟨aJ,p,1,ob,⟨oa,ob,oc,od⟩,v,is⟩]) xp rp st gv xv rv sp gf xf rf):=by
 have hof:=s6 oa;rw [hk] at hof;have hc:=dj p hp;refine dB iM.h rfl ?_
 repeat refine aw ?_
 refine aX ⟨[(13,.d (.bool is)),(12,.d (I v)),(11,.ptr 11 0),(10,.d (I 1)),(7,.ptr 10 0),(5,.ptr 9 0),(0,.ptr 0 0),(2,.d (I aJ))],aM 0 ((wG [.d C1,.d C2,.d C3,.d C4,.d C5,.d C6] xc rc gm xm rm gs xs rs gc xh rh xu ru xp rp st gv xv rv sp gf xf rf)++[.var [.d (I f1),.d (ae p),.d (I f3),.d (I f4),.d f5,.d f6,.d f7,.d (I f8),.d (I f9),.d (.bool f10)],.var [.d (I oa),.d (I ob),.d (I oc),.d (I od)],.var [.d (I dk),.d (ae dks),.d (ae dvs)]]),12,[],9⟩ ?_ ?_
 ·repeat refine aw ?_
  exact ai (.inl ⟨rfl,by exact Uw.wM⟩)
 repeat refine aw ?_
 refine aX ⟨[(13,.d (.bool is)),(12,.d (I v)),(7,.ptr 10 0),(0,.ptr 0 0)],aM 0 ((wG [.d C1,.d C2,.d C3,.d C4,.d C5,.d C6] xc rc gm xm (rm.set (0+ob.toNat) [I dk,ae dks,ae dvs]) gs xs rs gc xh rh (xu+1) (ru++[bA ⟨aJ,p,1,ob,⟨oa,ob,oc,od⟩,v,is⟩]) xp rp st gv xv rv sp gf xf rf)++[.var [.d (I f1),.d (ae p),.d (I f3),.d (I f4),.d f5,.d f6,.d f7,.d (I f8),.d (I f9),.d (.bool f10)],.var [.d (I oa),.d (I ob),.d (I oc),.d (I od)]]),11,[],9⟩ ?_ ?_
 ·repeat refine aw ?_
  exact ai (.inl ⟨rfl,by exact Uw.wM⟩)
 repeat refine aw ?_
 refine eE 11 [0,1,2,3,4,5,6,7,8] hfull ?_
 cases fl with
 | true=>
  repeat refine aw ?_
  refine dc 9 rfl rfl ?_;exact Uw.wM
 | false=>
  repeat refine aw ?_
  refine dc 9 rfl rfl ?_;exact Uw.wM
theorem J4 (aJ oa ob oc od v r ck dk:Int) (is fl:Bool) (cks cvs dks dvs:List Int) (hk:ofK oa=2) (h0:0<=ob) (h1:ob<xs) (hr:rs.length=xs) (e1:rs[0+ob.toNat]? = some [I ck,ae cks,ae cvs]) (hu:xu<1000000) (hru:ru.length=xu) (hp:p.length<1000000)
  (hd:Ret P0 jd [.agg [I ck,ae cks,ae cvs],.agg [I oa,I ob,I oc,I od]] (.tuple [.agg [I dk,ae dks,ae dvs],I v,.bool is])) (hval:Ret P0 nQ [.agg [I oa,I ob,I oc,I od],I v,.bool is] (I r))
  (hfull:eM P0 dz [.ptr 0 0] (wG [.d C1,.d C2,.d C3,.d C4,.d C5,.d C6] xc rc gm xm rm gs xs (rs.set (0+ob.toNat) [I dk,ae dks,ae dvs]) gc xh rh (xu+1) (ru++[bA ⟨aJ,p,2,ob,⟨oa,ob,oc,od⟩,v,is⟩]) xp rp st gv xv rv sp gf xf rf) (.d (.bool fl)) (wG [.d C1,.d C2,.d C3,.d C4,.d C5,.d C6] xc rc gm xm rm gs xs (rs.set (0+ob.toNat) [I dk,ae dks,ae dvs]) gc xh rh (xu+1) (ru++[bA ⟨aJ,p,2,ob,⟨oa,ob,oc,od⟩,v,is⟩]) xp rp st gv xv rv sp gf xf rf)) :
  eM P0 dy [.ptr 0 0,fA f1 p f3 f4 f5 f6 f7 f8 f9 f10,.d (I aJ),.agg [.d (I oa),.d (I ob),.d (I oc),.d (I od)]] (wG [.d C1,.d C2,.d C3,.d C4,.d C5,.d C6] xc rc gm xm rm gs xs rs gc xh rh xu ru xp rp st gv xv rv sp gf xf rf)
   (.tuple [if fl then .d .nil else .d (.slice 1 [[I r]] true),.d (I (if fl then 8 else 0))]) (wG [.d C1,.d C2,.d C3,.d C4,.d C5,.d C6] xc rc gm xm rm gs xs (rs.set (0+ob.toNat) [I dk,ae dks,ae dvs]) gc xh rh (xu+1) (ru++[bA ⟨aJ,p,2,ob,⟨oa,ob,oc,od⟩,v,is⟩]) xp rp st gv xv rv sp gf xf rf):=by
 have hof:=s6 oa;rw [hk] at hof;have hc:=dj p hp;refine dB iM.h rfl ?_
 repeat refine aw ?_
 refine aX ⟨[(13,.d (.bool is)),(12,.d (I v)),(11,.ptr 11 0),(10,.d (I 2)),(7,.ptr 10 0),(5,.ptr 9 0),(0,.ptr 0 0),(2,.d (I aJ))],aM 0 ((wG [.d C1,.d C2,.d C3,.d C4,.d C5,.d C6] xc rc gm xm rm gs xs rs gc xh rh xu ru xp rp st gv xv rv sp gf xf rf)++[.var [.d (I f1),.d (ae p),.d (I f3),.d (I f4),.d f5,.d f6,.d f7,.d (I f8),.d (I f9),.d (.bool f10)],.var [.d (I oa),.d (I ob),.d (I oc),.d (I od)],.var [.d (I dk),.d (ae dks),.d (ae dvs)]]),12,[],9⟩ ?_ ?_
 ·repeat refine aw ?_
  exact ai (.inl ⟨rfl,by exact Uw.wM⟩)
 repeat refine aw ?_
 refine aX ⟨[(13,.d (.bool is)),(12,.d (I v)),(7,.ptr 10 0),(0,.ptr 0 0)],aM 0 ((wG [.d C1,.d C2,.d C3,.d C4,.d C5,.d C6] xc rc gm xm rm gs xs (rs.set (0+ob.toNat) [I dk,ae dks,ae dvs]) gc xh rh (xu+1) (ru++[bA ⟨aJ,p,2,ob,⟨oa,ob,oc,od⟩,v,is⟩]) xp rp st gv xv rv sp gf xf rf)++[.var [.d (I f1),.d (ae p),.d (I f3),.d (I f4),.d f5,.d f6,.d f7,.d (I f8),.d (I f9),.d (.bool f10)],.var [.d (I oa),.d (I ob),.d (I oc),.d (I od)]]),11,[],9⟩ ?_ ?_
 ·repeat refine aw ?_
  exact ai (.inl ⟨rfl,by exact Uw.wM⟩)
 repeat refine aw ?_
 refine eE 11 [0,1,2,3,4,5,6,7,8] hfull ?_
 cases fl with
 | true=>
  repeat refine aw ?_
  refine dc 9 rfl rfl ?_;exact Uw.wM
 | false=>
  repeat refine aw ?_
  refine dc 9 rfl rfl ?_;exact Uw.wM
theorem J5 (aJ oa ob oc od v r ck dk:Int) (is fl:Bool) (cks cvs dks dvs:List Int) (hk:ofK oa=3) (h0:0<=ob) (h1:ob<xh) (hr:rh.length=xh) (e1:rh[0+ob.toNat]? = some [I ck,ae cks,ae cvs]) (hu:xu<1000000) (hru:ru.length=xu) (hp:p.length<1000000)
  (hd:Ret P0 jd [.agg [I ck,ae cks,ae cvs],.agg [I oa,I ob,I oc,I od]] (.tuple [.agg [I dk,ae dks,ae dvs],I v,.bool is])) (hval:Ret P0 nQ [.agg [I oa,I ob,I oc,I od],I v,.bool is] (I r))
  (hfull:eM P0 dz [.ptr 0 0] (wG [.d C1,.d C2,.d C3,.d C4,.d C5,.d C6] xc rc gm xm rm gs xs rs gc xh (rh.set (0+ob.toNat) [I dk,ae dks,ae dvs]) (xu+1) (ru++[bA ⟨aJ,p,3,ob,⟨oa,ob,oc,od⟩,v,is⟩]) xp rp st gv xv rv sp gf xf rf) (.d (.bool fl)) (wG [.d C1,.d C2,.d C3,.d C4,.d C5,.d C6] xc rc gm xm rm gs xs rs gc xh (rh.set (0+ob.toNat) [I dk,ae dks,ae dvs]) (xu+1) (ru++[bA ⟨aJ,p,3,ob,⟨oa,ob,oc,od⟩,v,is⟩]) xp rp st gv xv rv sp gf xf rf)) :
  eM P0 dy [.ptr 0 0,fA f1 p f3 f4 f5 f6 f7 f8 f9 f10,.d (I aJ),.agg [.d (I oa),.d (I ob),.d (I oc),.d (I od)]] (wG [.d C1,.d C2,.d C3,.d C4,.d C5,.d C6] xc rc gm xm rm gs xs rs gc xh rh xu ru xp rp st gv xv rv sp gf xf rf)
   (.tuple [if fl then .d .nil else .d (.slice 1 [[I r]] true),.d (I (if fl then 8 else 0))]) (wG [.d C1,.d C2,.d C3,.d C4,.d C5,.d C6] xc rc gm xm rm gs xs rs gc xh (rh.set (0+ob.toNat) [I dk,ae dks,ae dvs]) (xu+1) (ru++[bA ⟨aJ,p,3,ob,⟨oa,ob,oc,od⟩,v,is⟩]) xp rp st gv xv rv sp gf xf rf):=by
 have hof:=s6 oa;rw [hk] at hof;have hc:=dj p hp;refine dB iM.h rfl ?_
 repeat refine aw ?_
 refine aX ⟨[(13,.d (.bool is)),(12,.d (I v)),(11,.ptr 11 0),(10,.d (I 3)),(7,.ptr 10 0),(5,.ptr 9 0),(0,.ptr 0 0),(2,.d (I aJ))],aM 0 ((wG [.d C1,.d C2,.d C3,.d C4,.d C5,.d C6] xc rc gm xm rm gs xs rs gc xh rh xu ru xp rp st gv xv rv sp gf xf rf)++[.var [.d (I f1),.d (ae p),.d (I f3),.d (I f4),.d f5,.d f6,.d f7,.d (I f8),.d (I f9),.d (.bool f10)],.var [.d (I oa),.d (I ob),.d (I oc),.d (I od)],.var [.d (I dk),.d (ae dks),.d (ae dvs)]]),12,[],9⟩ ?_ ?_
 ·repeat refine aw ?_
  exact ai (.inl ⟨rfl,by exact Uw.wM⟩)
 repeat refine aw ?_
 refine aX ⟨[(13,.d (.bool is)),(12,.d (I v)),(7,.ptr 10 0),(0,.ptr 0 0)],aM 0 ((wG [.d C1,.d C2,.d C3,.d C4,.d C5,.d C6] xc rc gm xm rm gs xs rs gc xh (rh.set (0+ob.toNat) [I dk,ae dks,ae dvs]) (xu+1) (ru++[bA ⟨aJ,p,3,ob,⟨oa,ob,oc,od⟩,v,is⟩]) xp rp st gv xv rv sp gf xf rf)++[.var [.d (I f1),.d (ae p),.d (I f3),.d (I f4),.d f5,.d f6,.d f7,.d (I f8),.d (I f9),.d (.bool f10)],.var [.d (I oa),.d (I ob),.d (I oc),.d (I od)]]),11,[],9⟩ ?_ ?_
 ·repeat refine aw ?_
  exact ai (.inl ⟨rfl,by exact Uw.wM⟩)
 repeat refine aw ?_
 refine eE 11 [0,1,2,3,4,5,6,7,8] hfull ?_
 cases fl with
 | true=>
  repeat refine aw ?_
  refine dc 9 rfl rfl ?_;exact Uw.wM
 | false=>
  repeat refine aw ?_
  refine dc 9 rfl rfl ?_;exact Uw.wM
end Uw.Tryz.El
namespace Uw.Tryz.El
open Go Uw Uw.Tryz
abbrev wH (C:List V) (xc:Nat) (rc:List (List Dat)) (gm xm:Nat) (rm:List (List Dat)) (gs xs:Nat) (rs:List (List Dat)) (gc xh:Nat) (rh:List (List Dat)) (xu:Nat) (ru:List (List Dat)) (xp:Nat) (rp:List (List Dat)) (st:Int) (gv xv:Nat) (rv:List (List Dat)) (sp:Int) (gf xf:Nat) (rf:List (List Dat)):List Blk:=
 [.var [.ptr 3 0],.var C,.var [.func eh [] [.ptr 0 0,.ptr 1 0,.ptr 2 0]],.var (C++[.ref 4 1 0 xc,.d .nil,.ref 5 gm 0 xm,.ref 6 gs 0 xs,.ref 7 gc 0 xh,.ref 8 0 0 xu,.ref 9 0 0 xp,.d (I st),.ref 10 gv 0 xv,.d (I sp),.ref 11 gf 0 xf]),.mt 1 1 rc,.mt 3 gm rm,.mt 3 gs rs,.mt 3 gc rh,.arr 10 ru,.arr 5 rp,.mt 1 gv rv,.mt 1 gf rf]
def qL:bE->bE
 | .seq x _=>x
 | .block _ x=>x
 | .loop x=>x
 | c=>c
def qR:bE->bE
 | .seq _ y=>y
 | c=>c
noncomputable def ruB:bE:=qL (qL (qL (qR (qR (qR (qR (qR tX.m.code)))))))
abbrev lpS (B:List Blk) (fr:List V) (aJ block above:Int):St:=⟨[(10,.d (I block)),(9,.d (I 0)),(6,.ptr 12 0),(5,.ptr 2 0),(4,.ptr 1 0),(3,.ptr 0 0),(2,.d (I above)),(1,.d (I aJ))],aM 0 (B++[.var fr]),13,[],12⟩
abbrev exS (B:List Blk) (e:Int):St:=⟨[(9,.d (I e))],aM 0 B,12,[],12⟩
variable {C1 C2 C3 C4 C5 C6 : Dat} {xc : Nat} {rc : List (List Dat)} {gm : Nat} {xm : Nat} {rm : List (List Dat)} {gs : Nat} {xs : Nat} {rs : List (List Dat)} {gc : Nat} {xh : Nat} {rh : List (List Dat)} {xu : Nat} {ru : List (List Dat)} {xp : Nat} {rp : List (List Dat)} {st : Int} {gv : Nat} {xv : Nat} {rv : List (List Dat)} {sp : Int} {gf : Nat} {xf : Nat} {rf : List (List Dat)} {xc' : Nat} {rc' : List (List Dat)} {gm' : Nat} {xm' : Nat} {rm' : List (List Dat)} {gs' : Nat} {xs' : Nat} {rs' : List (List Dat)} {gc' : Nat} {xh' : Nat} {rh' : List (List Dat)} {xu' : Nat} {ru' : List (List Dat)} {xp' : Nat} {rp' : List (List Dat)} {st' : Int} {gv' : Nat} {xv' : Nat} {rv' : List (List Dat)} {sp' : Int} {gf' : Nat} {xf' : Nat} {rf' : List (List Dat)}
 {f1 f3 f4 f8 f9:Int} {f5 f6 f7:Dat} {f10:Bool} {p:List Int} {t1 t3 t4 t8 t9:Int} {tp l1 l2:List Int} {lk:List (List Dat)} {t10:Bool} {u1 u3 u4 u8 u9:Int} {up m1 m2:List Int} {mk:List (List Dat)} {u10:Bool} {Q:az->St->Prop}
theorem RN (aJ block above a2 a3 a4 a5 a6 a7 e:Int) (v:Int)
  (hn:Ret P0 eG [.agg [C1,C2,C3,C4,C5,C6],.agg [I f1,ae p,I f3,I f4,f5,f6,f7,I f8,I f9,.bool f10]] (.tuple [.agg [I t1,ae tp,I t3,I t4,ae l1,ae l2,.slice 2 lk false,I t8,I t9,.bool t10],.agg [I 1,I a2,I a3,I a4,I a5,I a6,I a7,.nil],I 0]))
  (hc:eM P0 iL [.ptr 0 0,.agg [.d (I t1),.d (ae tp),.d (I t3),.d (I t4),.d (ae l1),.d (ae l2),.d (.slice 2 lk false),.d (I t8),.d (I t9),.d (.bool t10)],.d (I aJ),.d (I a2)] (wG [.d C1,.d C2,.d C3,.d C4,.d C5,.d C6] xc rc gm xm rm gs xs rs gc xh rh xu ru xp rp st gv xv rv sp gf xf rf) (.d (.slice 1 [[I v]] true)) (wG [.d C1,.d C2,.d C3,.d C4,.d C5,.d C6] xc' rc' gm' xm' rm' gs' xs' rs' gc' xh' rh' xu' ru' xp' rp' st' gv' xv' rv' sp' gf' xf' rf'))
  (ht:Ret P0 dQ [.agg [I t1,ae tp,I t3,I t4,ae l1,ae l2,.slice 2 lk false,I t8,I t9,.bool t10],.agg [I 1,I a2,I a3,I a4,I a5,I a6,I a7,.nil],.slice 1 [[I v]] true] (.tuple [.agg [I u1,ae up,I u3,I u4,ae m1,ae m2,.slice 2 mk false,I u8,I u9,.bool u10],I e]))
  (hQ:e=0->∀s,Weak s (lpS (wH [.d C1,.d C2,.d C3,.d C4,.d C5,.d C6] xc' rc' gm' xm' rm' gs' xs' rs' gc' xh' rh' xu' ru' xp' rp' st' gv' xv' rv' sp' gf' xf' rf') [.d (I u1),.d (ae up),.d (I u3),.d (I u4),.d (ae m1),.d (ae m2),.d (.slice 2 mk false),.d (I u8),.d (I u9),.d (.bool u10)] aJ block above)->Q .normal s) (hX:e≠0->∀s,Weak s (exS (wH [.d C1,.d C2,.d C3,.d C4,.d C5,.d C6] xc' rc' gm' xm' rm' gs' xs' rs' gc' xh' rh' xu' ru' xp' rp' st' gv' xv' rv' sp' gf' xf' rf') e)->Q (.exit 0) s) :
  WT P0 Q (exec ruB (lpS (wH [.d C1,.d C2,.d C3,.d C4,.d C5,.d C6] xc rc gm xm rm gs xs rs gc xh rh xu ru xp rp st gv xv rv sp gf xf rf) [.d (I f1),.d (ae p),.d (I f3),.d (I f4),.d f5,.d f6,.d f7,.d (I f8),.d (I f9),.d (.bool f10)] aJ block above) Tree.done):=by
 repeat refine aw ?_
 refine eE 14 [3,4,5,6,7,8,9,10,11] hc ?_
 repeat refine aw ?_
 refine bz (fun h=>?_) (fun h=>?_)
 ·have he:e≠0:=by simpa using h
  repeat refine aw ?_
  exact ai (hX he _ (by exact Uw.wM))
 ·have he:e=0:=by simpa using h
  repeat refine aw ?_
  exact ai (hQ he _ (by exact Uw.wM))
theorem Px (aJ block above a2 a3 a4 a5 a6 a7 e:Int)
  (hn:Ret P0 eG [.agg [C1,C2,C3,C4,C5,C6],.agg [I f1,ae p,I f3,I f4,f5,f6,f7,I f8,I f9,.bool f10]] (.tuple [.agg [I t1,ae tp,I t3,I t4,ae l1,ae l2,.slice 2 lk false,I t8,I t9,.bool t10],.agg [I 2,I a2,I a3,I a4,I a5,I a6,I a7,.nil],I 0]))
  (hc:eM P0 gZ [.ptr 0 0,.agg [.d (I t1),.d (ae tp),.d (I t3),.d (I t4),.d (ae l1),.d (ae l2),.d (.slice 2 lk false),.d (I t8),.d (I t9),.d (.bool t10)],.d (I aJ),.d (I a2),.d (I a3)] (wG [.d C1,.d C2,.d C3,.d C4,.d C5,.d C6] xc rc gm xm rm gs xs rs gc xh rh xu ru xp rp st gv xv rv sp gf xf rf) (.tuple []) (wG [.d C1,.d C2,.d C3,.d C4,.d C5,.d C6] xc' rc' gm' xm' rm' gs' xs' rs' gc' xh' rh' xu' ru' xp' rp' st' gv' xv' rv' sp' gf' xf' rf'))
  (ht:Ret P0 dQ [.agg [I t1,ae tp,I t3,I t4,ae l1,ae l2,.slice 2 lk false,I t8,I t9,.bool t10],.agg [I 2,I a2,I a3,I a4,I a5,I a6,I a7,.nil],.nil] (.tuple [.agg [I u1,ae up,I u3,I u4,ae m1,ae m2,.slice 2 mk false,I u8,I u9,.bool u10],I e]))
  (hQ:e=0->∀s,Weak s (lpS (wH [.d C1,.d C2,.d C3,.d C4,.d C5,.d C6] xc' rc' gm' xm' rm' gs' xs' rs' gc' xh' rh' xu' ru' xp' rp' st' gv' xv' rv' sp' gf' xf' rf') [.d (I u1),.d (ae up),.d (I u3),.d (I u4),.d (ae m1),.d (ae m2),.d (.slice 2 mk false),.d (I u8),.d (I u9),.d (.bool u10)] aJ block above)->Q .normal s) (hX:e≠0->∀s,Weak s (exS (wH [.d C1,.d C2,.d C3,.d C4,.d C5,.d C6] xc' rc' gm' xm' rm' gs' xs' rs' gc' xh' rh' xu' ru' xp' rp' st' gv' xv' rv' sp' gf' xf' rf') e)->Q (.exit 0) s) :
  WT P0 Q (exec ruB (lpS (wH [.d C1,.d C2,.d C3,.d C4,.d C5,.d C6] xc rc gm xm rm gs xs rs gc xh rh xu ru xp rp st gv xv rv sp gf xf rf) [.d (I f1),.d (ae p),.d (I f3),.d (I f4),.d f5,.d f6,.d f7,.d (I f8),.d (I f9),.d (.bool f10)] aJ block above) Tree.done):=by
 repeat refine aw ?_
 refine eE 14 [3,4,5,6,7,8,9,10,11] hc ?_
 repeat refine aw ?_
 refine bz (fun h=>?_) (fun h=>?_)
 ·have he:e≠0:=by simpa using h
  repeat refine aw ?_
  exact ai (hX he _ (by exact Uw.wM))
 ·have he:e=0:=by simpa using h
  repeat refine aw ?_
  exact ai (hQ he _ (by exact Uw.wM))
theorem EK (aJ block above a2 a3 a4 a5 a6 a7 e:Int) (v:Int)
  (hn:Ret P0 eG [.agg [C1,C2,C3,C4,C5,C6],.agg [I f1,ae p,I f3,I f4,f5,f6,f7,I f8,I f9,.bool f10]] (.tuple [.agg [I t1,ae tp,I t3,I t4,ae l1,ae l2,.slice 2 lk false,I t8,I t9,.bool t10],.agg [I 3,I a2,I a3,I a4,I a5,I a6,I a7,.nil],I 0]))
  (hc:eM P0 dy [.ptr 0 0,.agg [.d (I t1),.d (ae tp),.d (I t3),.d (I t4),.d (ae l1),.d (ae l2),.d (.slice 2 lk false),.d (I t8),.d (I t9),.d (.bool t10)],.d (I aJ),.agg [.d (I a4),.d (I a5),.d (I a6),.d (I a7)]] (wG [.d C1,.d C2,.d C3,.d C4,.d C5,.d C6] xc rc gm xm rm gs xs rs gc xh rh xu ru xp rp st gv xv rv sp gf xf rf) (.tuple [.d (.slice 1 [[I v]] true),.d (I 0)]) (wG [.d C1,.d C2,.d C3,.d C4,.d C5,.d C6] xc' rc' gm' xm' rm' gs' xs' rs' gc' xh' rh' xu' ru' xp' rp' st' gv' xv' rv' sp' gf' xf' rf'))
  (ht:Ret P0 dQ [.agg [I t1,ae tp,I t3,I t4,ae l1,ae l2,.slice 2 lk false,I t8,I t9,.bool t10],.agg [I 3,I a2,I a3,I a4,I a5,I a6,I a7,.nil],.slice 1 [[I v]] true] (.tuple [.agg [I u1,ae up,I u3,I u4,ae m1,ae m2,.slice 2 mk false,I u8,I u9,.bool u10],I e]))
  (hQ:e=0->∀s,Weak s (lpS (wH [.d C1,.d C2,.d C3,.d C4,.d C5,.d C6] xc' rc' gm' xm' rm' gs' xs' rs' gc' xh' rh' xu' ru' xp' rp' st' gv' xv' rv' sp' gf' xf' rf') [.d (I u1),.d (ae up),.d (I u3),.d (I u4),.d (ae m1),.d (ae m2),.d (.slice 2 mk false),.d (I u8),.d (I u9),.d (.bool u10)] aJ block above)->Q .normal s) (hX:e≠0->∀s,Weak s (exS (wH [.d C1,.d C2,.d C3,.d C4,.d C5,.d C6] xc' rc' gm' xm' rm' gs' xs' rs' gc' xh' rh' xu' ru' xp' rp' st' gv' xv' rv' sp' gf' xf' rf') e)->Q (.exit 0) s) :
  WT P0 Q (exec ruB (lpS (wH [.d C1,.d C2,.d C3,.d C4,.d C5,.d C6] xc rc gm xm rm gs xs rs gc xh rh xu ru xp rp st gv xv rv sp gf xf rf) [.d (I f1),.d (ae p),.d (I f3),.d (I f4),.d f5,.d f6,.d f7,.d (I f8),.d (I f9),.d (.bool f10)] aJ block above) Tree.done):=by
 repeat refine aw ?_
 refine eE 14 [3,4,5,6,7,8,9,10,11] hc ?_
 repeat refine aw ?_
 refine bz (fun h=>?_) (fun h=>?_)
 ·have he:e≠0:=by simpa using h
  repeat refine aw ?_
  exact ai (hX he _ (by exact Uw.wM))
 ·have he:e=0:=by simpa using h
  repeat refine aw ?_
  exact ai (hQ he _ (by exact Uw.wM))
theorem EL (aJ block above a2 a3 a4 a5 a6 a7 e:Int)
  (hn:Ret P0 eG [.agg [C1,C2,C3,C4,C5,C6],.agg [I f1,ae p,I f3,I f4,f5,f6,f7,I f8,I f9,.bool f10]] (.tuple [.agg [I t1,ae tp,I t3,I t4,ae l1,ae l2,.slice 2 lk false,I t8,I t9,.bool t10],.agg [I 3,I a2,I a3,I a4,I a5,I a6,I a7,.nil],I 0]))
  (hc:eM P0 dy [.ptr 0 0,.agg [.d (I t1),.d (ae tp),.d (I t3),.d (I t4),.d (ae l1),.d (ae l2),.d (.slice 2 lk false),.d (I t8),.d (I t9),.d (.bool t10)],.d (I aJ),.agg [.d (I a4),.d (I a5),.d (I a6),.d (I a7)]] (wG [.d C1,.d C2,.d C3,.d C4,.d C5,.d C6] xc rc gm xm rm gs xs rs gc xh rh xu ru xp rp st gv xv rv sp gf xf rf) (.tuple [.d .nil,.d (I 8)]) (wG [.d C1,.d C2,.d C3,.d C4,.d C5,.d C6] xc' rc' gm' xm' rm' gs' xs' rs' gc' xh' rh' xu' ru' xp' rp' st' gv' xv' rv' sp' gf' xf' rf'))
  (hX:∀s,Weak s (exS (wH [.d C1,.d C2,.d C3,.d C4,.d C5,.d C6] xc' rc' gm' xm' rm' gs' xs' rs' gc' xh' rh' xu' ru' xp' rp' st' gv' xv' rv' sp' gf' xf' rf') 8)->Q (.exit 0) s) :
  WT P0 Q (exec ruB (lpS (wH [.d C1,.d C2,.d C3,.d C4,.d C5,.d C6] xc rc gm xm rm gs xs rs gc xh rh xu ru xp rp st gv xv rv sp gf xf rf) [.d (I f1),.d (ae p),.d (I f3),.d (I f4),.d f5,.d f6,.d f7,.d (I f8),.d (I f9),.d (.bool f10)] aJ block above) Tree.done):=by
 repeat refine aw ?_
 refine eE 14 [3,4,5,6,7,8,9,10,11] hc ?_
 repeat refine aw ?_
 exact ai (hX _ (by exact Uw.wM))
theorem EM (aJ block above a2 a3 a4 a5 a6 a7 e:Int)
  (hn:Ret P0 eG [.agg [C1,C2,C3,C4,C5,C6],.agg [I f1,ae p,I f3,I f4,f5,f6,f7,I f8,I f9,.bool f10]] (.tuple [.agg [I t1,ae tp,I t3,I t4,ae l1,ae l2,.slice 2 lk false,I t8,I t9,.bool t10],.agg [I 6,I a2,I a3,I a4,I a5,I a6,I a7,.nil],I 0]))
  (hc:eM P0 dP [.ptr 0 0,.agg [.d (I t1),.d (ae tp),.d (I t3),.d (I t4),.d (ae l1),.d (ae l2),.d (.slice 2 lk false),.d (I t8),.d (I t9),.d (.bool t10)],.d (I a2),.d (I aJ),.d (I above)] (wG [.d C1,.d C2,.d C3,.d C4,.d C5,.d C6] xc rc gm xm rm gs xs rs gc xh rh xu ru xp rp st gv xv rv sp gf xf rf) (.tuple []) (wG [.d C1,.d C2,.d C3,.d C4,.d C5,.d C6] xc' rc' gm' xm' rm' gs' xs' rs' gc' xh' rh' xu' ru' xp' rp' st' gv' xv' rv' sp' gf' xf' rf'))
  (hX:∀s,Weak s (exS (wH [.d C1,.d C2,.d C3,.d C4,.d C5,.d C6] xc' rc' gm' xm' rm' gs' xs' rs' gc' xh' rh' xu' ru' xp' rp' st' gv' xv' rv' sp' gf' xf' rf') 0)->Q (.exit 0) s) :
  WT P0 Q (exec ruB (lpS (wH [.d C1,.d C2,.d C3,.d C4,.d C5,.d C6] xc rc gm xm rm gs xs rs gc xh rh xu ru xp rp st gv xv rv sp gf xf rf) [.d (I f1),.d (ae p),.d (I f3),.d (I f4),.d f5,.d f6,.d f7,.d (I f8),.d (I f9),.d (.bool f10)] aJ block above) Tree.done):=by
 repeat refine aw ?_
 refine eE 14 [3,4,5,6,7,8,9,10,11] hc ?_
 repeat refine aw ?_
 exact ai (hX _ (by exact Uw.wM))
theorem VC (aJ block above a1 a2 a3 a4 a5 a6 a7 e:Int) (he:e≠0)
  (hn:Ret P0 eG [.agg [C1,C2,C3,C4,C5,C6],.agg [I f1,ae p,I f3,I f4,f5,f6,f7,I f8,I f9,.bool f10]] (.tuple [.agg [I t1,ae tp,I t3,I t4,ae l1,ae l2,.slice 2 lk false,I t8,I t9,.bool t10],.agg [I a1,I a2,I a3,I a4,I a5,I a6,I a7,.nil],I e]))
  (hX:∀s,Weak s (exS (wH [.d C1,.d C2,.d C3,.d C4,.d C5,.d C6] xc rc gm xm rm gs xs rs gc xh rh xu ru xp rp st gv xv rv sp gf xf rf) e)->Q (.exit 0) s) :
  WT P0 Q (exec ruB (lpS (wH [.d C1,.d C2,.d C3,.d C4,.d C5,.d C6] xc rc gm xm rm gs xs rs gc xh rh xu ru xp rp st gv xv rv sp gf xf rf) [.d (I f1),.d (ae p),.d (I f3),.d (I f4),.d f5,.d f6,.d f7,.d (I f8),.d (I f9),.d (.bool f10)] aJ block above) Tree.done):=by
 repeat refine aw ?_
 exact ai (hX _ (by exact Uw.wM))
theorem RO (J6:Int) (vs:List (List Dat)) (n:Nat) (bx:List V) (aJ block above a2 a3 a4 a5 a6 a7 e:Int)
  (hn:Ret P0 eG [.agg [C1,C2,C3,C4,C5,C6],.agg [I f1,ae p,I f3,I f4,f5,f6,f7,I f8,I f9,.bool f10]] (.tuple [.agg [I t1,ae tp,I t3,I t4,ae l1,ae l2,.slice 2 lk false,I t8,I t9,.bool t10],.agg [I 5,I a2,I a3,I a4,I a5,I a6,I a7,.nil],I 0]))
  (hf:eM P0 hU [.ptr 0 0,.agg [.d (I t1),.d (ae tp),.d (I t3),.d (I t4),.d (ae l1),.d (ae l2),.d (.slice 2 lk false),.d (I t8),.d (I t9),.d (.bool t10)]] (wG [.d C1,.d C2,.d C3,.d C4,.d C5,.d C6] xc rc gm xm rm gs xs rs gc xh rh xu ru xp rp st gv xv rv sp gf xf rf) (.ref 10 0 0 n) ((wG [.d C1,.d C2,.d C3,.d C4,.d C5,.d C6] xc rc gm xm rm gs xs rs gc xh rh xu ru xp rp st gv xv rv sp gf xf rf)++[.var bx,.arr 1 vs]))
  (hc:eM P0 iO [.ptr 0 0,.agg [.d (I t1),.d (ae tp),.d (I t3),.d (I t4),.d (ae l1),.d (ae l2),.d (.slice 2 lk false),.d (I t8),.d (I t9),.d (.bool t10)],.d (I aJ),.d (I block)] (wG [.d C1,.d C2,.d C3,.d C4,.d C5,.d C6] xc rc gm xm rm gs xs rs gc xh rh xu ru xp rp st gv xv rv sp gf xf rf) (.d (I J6)) (wG [.d C1,.d C2,.d C3,.d C4,.d C5,.d C6] xc' rc' gm' xm' rm' gs' xs' rs' gc' xh' rh' xu' ru' xp' rp' st' gv' xv' rv' sp' gf' xf' rf'))
  (ht:Ret P0 dQ [.agg [I t1,ae tp,I t3,I t4,ae l1,ae l2,.slice 2 lk false,I t8,I t9,.bool t10],.agg [I 5,I a2,I a3,I a4,I a5,I a6,I a7,.nil],.slice 1 ((vs.drop 0).take n) false] (.tuple [.agg [I u1,ae up,I u3,I u4,ae m1,ae m2,.slice 2 mk false,I u8,I u9,.bool u10],I e]))
  (hQ:e=0->∀s,Weak s (lpS (wH [.d C1,.d C2,.d C3,.d C4,.d C5,.d C6] xc' rc' gm' xm' rm' gs' xs' rs' gc' xh' rh' xu' ru' xp' rp' st' gv' xv' rv' sp' gf' xf' rf') [.d (I u1),.d (ae up),.d (I u3),.d (I u4),.d (ae m1),.d (ae m2),.d (.slice 2 mk false),.d (I u8),.d (I u9),.d (.bool u10)] J6 block above)->Q .normal s) (hX:e≠0->∀s,Weak s (exS (wH [.d C1,.d C2,.d C3,.d C4,.d C5,.d C6] xc' rc' gm' xm' rm' gs' xs' rs' gc' xh' rh' xu' ru' xp' rp' st' gv' xv' rv' sp' gf' xf' rf') e)->Q (.exit 0) s) :
  WT P0 Q (exec ruB (lpS (wH [.d C1,.d C2,.d C3,.d C4,.d C5,.d C6] xc rc gm xm rm gs xs rs gc xh rh xu ru xp rp st gv xv rv sp gf xf rf) [.d (I f1),.d (ae p),.d (I f3),.d (I f4),.d f5,.d f6,.d f7,.d (I f8),.d (I f9),.d (.bool f10)] aJ block above) Tree.done):=by
 repeat refine aw ?_
 refine eE 14 [3,4,5,6,7,8,9,10,11] hf ?_
 repeat refine aw ?_
 refine eE 16 [3,4,5,6,7,8,9,10,11] hc ?_
 repeat refine aw ?_
 refine bz (fun h=>?_) (fun h=>?_)
 ·have he:e≠0:=by simpa using h
  repeat refine aw ?_
  exact ai (hX he _ (by exact Uw.wM))
 ·have he:e=0:=by simpa using h
  repeat refine aw ?_
  exact ai (hQ he _ (by exact Uw.wM))
variable {RP : Nat} {RR : List (List Dat)} {RS : Nat} {RU : Nat} {RV : List (List Dat)} {gs'' : Nat} {RX : Nat} {RY : List (List Dat)} {RZ : Nat} {R2 : Nat} {R7 : List (List Dat)} {R9 : Nat} {Si : List (List Dat)} {Sj : Nat} {Sl : List (List Dat)} {uU : Int} {Sm : Nat} {Sr : Nat} {Ss : List (List Dat)} {Sv : Int} {Sz : Nat} {SA : Nat} {SB : List (List Dat)} {w1_ w3 w4 w8 w9 : Int} {wp k1 k2 : List Int} {wk_ : List (List Dat)} {w10 : Bool}
theorem VD (qs:List (List Dat)) (aJ block above a2 a3 a4 a5 a6 a7 e:Int) (he:e≠0)
  (hn:Ret P0 eG [.agg [C1,C2,C3,C4,C5,C6],.agg [I f1,ae p,I f3,I f4,f5,f6,f7,I f8,I f9,.bool f10]] (.tuple [.agg [I t1,ae tp,I t3,I t4,ae l1,ae l2,.slice 2 lk false,I t8,I t9,.bool t10],.agg [I 4,I a2,I a3,I a4,I a5,I a6,I a7,.slice 1 qs false],I 0]))
  (hc:eM P0 dq [.ptr 0 0,.agg [.d (I t1),.d (ae tp),.d (I t3),.d (I t4),.d (ae l1),.d (ae l2),.d (.slice 2 lk false),.d (I t8),.d (I t9),.d (.bool t10)],.agg [.d (I 4),.d (I a2),.d (I a3),.d (I a4),.d (I a5),.d (I a6),.d (I a7),.d (.slice 1 qs false)]] (wG [.d C1,.d C2,.d C3,.d C4,.d C5,.d C6] xc rc gm xm rm gs xs rs gc xh rh xu ru xp rp st gv xv rv sp gf xf rf) (.tuple [.agg [.d (I w1_),.d (ae wp),.d (I w3),.d (I w4),.d (ae k1),.d (ae k2),.d (.slice 2 wk_ false),.d (I w8),.d (I w9),.d (.bool w10)],.d (I e)]) (wG [.d C1,.d C2,.d C3,.d C4,.d C5,.d C6] xc rc gm xm rm gs xs rs gc xh rh xu ru xp rp st gv xv rv sp gf xf rf))
  (hX:∀s,Weak s (exS (wH [.d C1,.d C2,.d C3,.d C4,.d C5,.d C6] xc rc gm xm rm gs xs rs gc xh rh xu ru xp rp st gv xv rv sp gf xf rf) e)->Q (.exit 0) s) :
  WT P0 Q (exec ruB (lpS (wH [.d C1,.d C2,.d C3,.d C4,.d C5,.d C6] xc rc gm xm rm gs xs rs gc xh rh xu ru xp rp st gv xv rv sp gf xf rf) [.d (I f1),.d (ae p),.d (I f3),.d (I f4),.d f5,.d f6,.d f7,.d (I f8),.d (I f9),.d (.bool f10)] aJ block above) Tree.done):=by
 repeat refine aw ?_
 refine eE 15 [3,4,5,6,7,8,9,10,11] hc ?_
 repeat refine aw ?_
 exact ai (hX _ (by exact Uw.wM))
theorem VE (g2 g3 g4 er:Int) (qs:List (List Dat)) (aJ block above a2 a3 a4 a5 a6 a7 e:Int)
  (hn:Ret P0 eG [.agg [C1,C2,C3,C4,C5,C6],.agg [I f1,ae p,I f3,I f4,f5,f6,f7,I f8,I f9,.bool f10]] (.tuple [.agg [I t1,ae tp,I t3,I t4,ae l1,ae l2,.slice 2 lk false,I t8,I t9,.bool t10],.agg [I 4,I a2,I a3,I a4,I a5,I a6,I a7,.slice 1 qs false],I 0]))
  (hc:eM P0 dq [.ptr 0 0,.agg [.d (I t1),.d (ae tp),.d (I t3),.d (I t4),.d (ae l1),.d (ae l2),.d (.slice 2 lk false),.d (I t8),.d (I t9),.d (.bool t10)],.agg [.d (I 4),.d (I a2),.d (I a3),.d (I a4),.d (I a5),.d (I a6),.d (I a7),.d (.slice 1 qs false)]] (wG [.d C1,.d C2,.d C3,.d C4,.d C5,.d C6] xc rc gm xm rm gs xs rs gc xh rh xu ru xp rp st gv xv rv sp gf xf rf) (.tuple [.agg [.d (I w1_),.d (ae wp),.d (I w3),.d (I w4),.d (ae k1),.d (ae k2),.d (.slice 2 wk_ false),.d (I w8),.d (I w9),.d (.bool w10)],.d (I 0)]) (wG [.d C1,.d C2,.d C3,.d C4,.d C5,.d C6] xc rc gm xm rm gs xs rs gc xh rh xu ru xp rp st gv xv rv sp gf xf rf))
  (hk:eM P0 iN [.ptr 0 0,.d (I aJ),.d (I block),.d (.bool (decide (0<((lk.length:Nat):Int))))] (wG [.d C1,.d C2,.d C3,.d C4,.d C5,.d C6] xc rc gm xm rm gs xs rs gc xh rh xu ru xp rp st gv xv rv sp gf xf rf) (.agg [.d (I 1),.d (I aJ),.d (I g2),.d (I g3),.d (I g4)]) (wG [.d C1,.d C2,.d C3,.d C4,.d C5,.d C6] xc' rc' gm' xm' rm' gs' xs' rs' gc' xh' rh' xu' ru' xp' rp' st' gv' xv' rv' sp' gf' xf' rf'))
  (hr:eM P0 eh [.agg [.d (I w1_),.d (ae wp),.d (I w3),.d (I w4),.d (ae k1),.d (ae k2),.d (.slice 2 wk_ false),.d (I w8),.d (I w9),.d (.bool w10)],.d (I g2),.d (I g4),.ptr 0 0,.ptr 1 0,.ptr 2 0] (wH [.d C1,.d C2,.d C3,.d C4,.d C5,.d C6] xc' rc' gm' xm' rm' gs' xs' rs' gc' xh' rh' xu' ru' xp' rp' st' gv' xv' rv' sp' gf' xf' rf') (.d (I er)) (wH [.d C1,.d C2,.d C3,.d C4,.d C5,.d C6] RP RR RS RU RV gs'' RX RY RZ R2 R7 R9 Si Sj Sl uU Sm Sr Ss Sv Sz SA SB))
  (ht:er=0->Ret P0 dQ [.agg [I t1,ae tp,I t3,I t4,ae l1,ae l2,.slice 2 lk false,I t8,I t9,.bool t10],.agg [I 4,I a2,I a3,I a4,I a5,I a6,I a7,.slice 1 qs false],.slice 1 [[I w1_]] true] (.tuple [.agg [I u1,ae up,I u3,I u4,ae m1,ae m2,.slice 2 mk false,I u8,I u9,.bool u10],I e]))
  (hQ:er=0->e=0->∀s,Weak s (lpS (wH [.d C1,.d C2,.d C3,.d C4,.d C5,.d C6] RP RR RS RU RV gs'' RX RY RZ R2 R7 R9 Si Sj Sl uU Sm Sr Ss Sv Sz SA SB) [.d (I u1),.d (ae up),.d (I u3),.d (I u4),.d (ae m1),.d (ae m2),.d (.slice 2 mk false),.d (I u8),.d (I u9),.d (.bool u10)] g3 g4 above)->Q .normal s) (hX:er=0->e≠0->∀s,Weak s (exS (wH [.d C1,.d C2,.d C3,.d C4,.d C5,.d C6] RP RR RS RU RV gs'' RX RY RZ R2 R7 R9 Si Sj Sl uU Sm Sr Ss Sv Sz SA SB) e)->Q (.exit 0) s) (hY:er≠0->∀s,Weak s (exS (wH [.d C1,.d C2,.d C3,.d C4,.d C5,.d C6] RP RR RS RU RV gs'' RX RY RZ R2 R7 R9 Si Sj Sl uU Sm Sr Ss Sv Sz SA SB) er)->Q (.exit 0) s) :
  WT P0 Q (exec ruB (lpS (wH [.d C1,.d C2,.d C3,.d C4,.d C5,.d C6] xc rc gm xm rm gs xs rs gc xh rh xu ru xp rp st gv xv rv sp gf xf rf) [.d (I f1),.d (ae p),.d (I f3),.d (I f4),.d f5,.d f6,.d f7,.d (I f8),.d (I f9),.d (.bool f10)] aJ block above) Tree.done):=by
 repeat refine aw ?_
 refine eE 15 [3,4,5,6,7,8,9,10,11] hc ?_
 repeat refine aw ?_
 refine eE 15 [3,4,5,6,7,8,9,10,11] hk ?_
 repeat refine aw ?_
 refine eE 16 [0,1,2,3,4,5,6,7,8,9,10,11] hr ?_
 repeat refine aw ?_
 refine bz (fun h=>?_) (fun h=>?_)
 ·have hz:er≠0:=by simpa using h
  repeat refine aw ?_
  exact ai (hY hz _ (by exact Uw.wM))
 have hz:er=0:=by simpa using h
 have ht:=ht hz
 repeat refine aw ?_
 refine bz (fun h=>?_) (fun h=>?_)
 ·have he:e≠0:=by simpa using h
  repeat refine aw ?_
  exact ai (hX hz he _ (by exact Uw.wM))
 ·have he:e=0:=by simpa using h
  repeat refine aw ?_
  exact ai (hQ hz he _ (by exact Uw.wM))
end Uw.Tryz.El
namespace Uw
open Go
end Uw
namespace Uw.Tryz.Vm
open Go Uw Uw.Tryz
end Uw.Tryz.Vm
namespace Uw.Tryz.Vm
open Go Uw Uw.Tryz
structure Good (c:Cd) (b:Bd) (f:Frame):Prop where
 task:1<=f.task
 fn0:0<=f.fn
 fn1:f.fn<c.am.length
 body:dm c f=b
 pc0:0<=f.pc
 pc1:f.pc<=b.ins.length
 loc:(f.loc.length:Int)=b.locals
 stack:f.stack.length<=100
 kids:∀k∈f.kids,wh b.locals k=true
 vals:dX f
 many:0<=f.many
 sp0:0<=f.spent
 sp1:f.spent<=2000
theorem Good.of {c:Cd} {f:Frame} (h:right c f=true):Good c (dm c f) f:=by
 simp only [right,i9,ZC,Zt,decide_eq_false_iff_not,Bool.not_eq_false',decide_eq_true_eq,below] at h;obtain ⟨⟨⟨⟨⟨⟨h1,h2⟩,h3⟩,h4⟩,h5⟩,h6⟩,h7⟩:=h;exact ⟨by omega,h1.2.1,h1.2.2,rfl,h2.1.1.1,by omega,h2.1.2,by omega,YW.1 h3,⟨h4,h5⟩,h6,h7.1,by omega⟩
theorem Good.right {c:Cd} {b:Bd} {f:Frame} (h:Good c b f):right c f=true:=by
 have hb:=h.body;have h1:=h.task;have h2:=h.fn0;have h3:=h.fn1;have h4:=h.pc0;have h5:=h.pc1;have h6:=h.stack;have h7:=h.sp0;have h8:=h.sp1;have h9:=h.many;have e1:decide (f.task<1)=false:=by simp;omega
 have e2:below f.fn c.am.length=true:=by simp [below];omega
 have e3:below f.pc (b.ins.length+1)=true:=by simp [below];omega
 have e4:decide ((f.loc.length:Int)=b.locals)=true:=by simp [h.loc]
 have e5:decide (100<(f.stack.length:Int))=false:=by simp;omega
 have e6:f.kids.all (wh b.locals)=true:=YW.2 h.kids;have e7:decide (0<=f.many)=true:=by simp [h9]
 have e8:below f.spent 2001=true:=by simp [below];omega
 rw [Uw.Tryz.Vm.right,hb,e1,e2,e3,e4,e5,e6,h.vals.loc,h.vals.stack,e7,e8];rfl
theorem Good.step {c:Cd} {b:Bd} {f g:Frame} {i:In4} {a:Ask} (h:Good c b f) (hp:f.pc<b.ins.length) (hsp:f.spent<2000) (hs:stepS c b f i=some (g,a)):Good c b g:=by
 have st:=qY h.pc0 hp h.stack hs;have h7:=h.sp0;refine ⟨by rw [st.task];exact h.task,by rw [st.fn];exact h.fn0,by rw [st.fn];exact h.fn1,by rw [<- h.body,dm,dm,st.fn],st.pc0,st.pc1,by rw [st.loc];exact h.loc,st.stack,by rw [st.kids];exact h.kids,xw h.vals hs,by rw [st.many];exact h.many,?_,?_⟩
 ·rcases st.spent with ⟨_,e,_⟩|⟨_,e⟩
  ·rw [e];omega
  ·omega
 ·rcases st.spent with ⟨_,e,_⟩|⟨_,e⟩
  ·rw [e];omega
  ·omega
structure Kept (c:Cd) (b:Bd) (f g:Frame) (a:Ask):Prop where
 good:Good c b g
 kids:g.kids=f.kids
 path:g.path=f.path
 many:g.many=f.many
 loc:g.loc.length=f.loc.length
 le:f.spent<=g.spent
 lt:a.kind≠5->f.spent<g.spent
 wait:a.kind=5->g.kids≠[]
 k1:1<=a.kind
 k6:a.kind<=6
 k4:a.kind=4->dest a.b g.loc.length=true
theorem Hf (c:Cd) (b:Bd):∀(n:Nat) (f:Frame),Good c b f->(∀e,runN c b n f = .err e->e=1\/e=11)/\∀g a,runN c b n f = .ok g a->Kept c b f g a
 | 0,f,h=>by simp [runN]
 | n+1,f,h=>by
  rw [runN]
  split
  ·simp
  split
  ·simp
  rename_i hsp hpc;have dE : 0<=f.pc/\f.pc<b.ins.length:=by simpa [below] using hpc
  have hsp' : f.spent<2000:=by have:=h.sp1;omega
  cases hs:stepS c b f (cm b f) with
  | none=>simp
  | some p=>
   obtain ⟨g,a⟩:=p;have hg:=h.step dE.2 hsp' hs;have st:=qY dE.1 dE.2 h.stack hs;simp only [];by_cases hk:a.kind=0
   ·rw [if_pos hk]
    have YO:g.spent=f.spent+1:=by
     rcases st.spent with ⟨e,_⟩|⟨_,e⟩
     ·omega
     ·exact e
    obtain ⟨i1,i2⟩:=Hf c b n g hg;refine ⟨i1,fun g' a' hr=>?_⟩;have k:=i2 g' a' hr;have kle:=k.le;exact ⟨k.good,k.kids.trans st.kids,k.path.trans st.path,k.many.trans st.many,k.loc.trans st.loc,by omega,fun _=>by omega,k.wait,k.k1,k.k6,k.k4⟩
   ·rw [if_neg hk]
    refine ⟨by simp,fun g' a' hr=>?_⟩;simp at hr;obtain ⟨rfl,rfl⟩:=hr;refine ⟨hg,st.kids,st.path,st.many,st.loc,?_,?_,?_,by have:=st.kind;omega,st.kind.2,fun h4=>by rw [st.loc];exact st.WW h4⟩
    ·rcases st.spent with ⟨_,e,_⟩|⟨_,e⟩
     ·rw [e];exact aar _
     ·omega
    ·intro h5
     rcases st.spent with ⟨e,_⟩|⟨_,e⟩
     ·exact absurd e h5
     ·omega
    ·intro h5
     rcases st.spent with ⟨_,e,e2⟩|⟨e,_⟩
     ·rw [e];exact e2
     ·exact absurd h5 e
theorem tg {c:Cd} {f:Frame} (hr:right c f=true):(∃e,cq c f = .err e/\(e=1\/e=11))\/∃g a,cq c f = .ok g a/\Kept c (dm c f) f g a:=by
 have h:=Hf c (dm c f) (cn f) f (Good.of hr);have e:cq c f=runN c (dm c f) (cn f) f:=by simp [cq,hr]
 rw [e]
 cases hx:runN c (dm c f) (cn f) f with
 | err n=>exact .inl ⟨n,rfl,h.1 n hx⟩
 | ok g a=>exact .inr ⟨g,a,rfl,h.2 g a hx⟩
theorem Good.put {c:Cd} {b:Bd} {f:Frame} (h:Good c b f) {v:Int} (hv:isVal v=true) (hs:f.stack.length<100):Good c b { f with stack:=f.stack++[v] }:=
 ⟨h.task,h.fn0,h.fn1,h.body,h.pc0,h.pc1,h.loc,by simp;omega,h.kids,h.vals.put hv,h.many,h.sp0,h.sp1⟩
theorem Good.kid {c:Cd} {b:Bd} {f:Frame} (h:Good c b f) {v d:Int} (hv:1<=v) (hd:dest d f.loc.length=true):Good c b { f with kids:=f.kids++[(v,d)],many:=f.many+1 }:=by
 have hm:=h.many;refine ⟨h.task,h.fn0,h.fn1,h.body,h.pc0,h.pc1,h.loc,h.stack,?_,⟨h.vals.loc,h.vals.stack⟩,by simp only [];omega,h.sp0,h.sp1⟩;intro k hk;simp only [Za,aam] at hk
 rcases hk with hk|rfl
 ·exact h.kids k hk
 ·rw [wh,<- h.loc,hd];simp [hv]
theorem DK:∀(l:List ((Int×Int)×Int)) (loc:List Int),loc.all isVal=true->(∀p∈l,isVal p.2=true)->(kx loc l).all isVal=true
 | [],loc,h,_=>h
 | p::l,loc,h,hp=>by
  show (kx (if 0<=p.1.2 then loc.set p.1.2.toNat p.2 else loc) l).all isVal=true;refine DK l _ ?_ (fun q hq=>hp q (by simp [hq]))
  split
  ·exact J1 _ (hp p (by simp)) h
  ·exact h
theorem Good.sync {c:Cd} {b:Bd} {f:Frame} (h:Good c b f) {vals:List Int} (hv:vals.all isVal=true):Good c b { f with loc:=kx f.loc (f.kids.zip vals),kids:=[] }:=by
 refine ⟨h.task,h.fn0,h.fn1,h.body,h.pc0,h.pc1,by simp only [sO];exact h.loc,h.stack,by simp,⟨?_,h.vals.stack⟩,h.many,h.sp0,h.sp1⟩;refine DK _ _ h.vals.loc (fun p hp=>?_);exact YW.1 hv p.2 (List.of_mem_zip hp).2
end Uw.Tryz.Vm
namespace Uw.Tryz.El
open Go Uw Uw.Tryz
def np (w:Wd) (k:Int):List Cont:=if k=1 then w.maps else if k=2 then w.stacks else w.chans
def nA (w:Wd) (k:Int) (l:List Cont):Wd:=if k=1 then { w with maps:=l } else if k=2 then { w with stacks:=l } else { w with chans:=l }
def lT (w:Wd) (o:Op4):Cont:=(np w (ofK o.kind)).getD o.obj.toNat default
def bC (w:Wd) (path:List Int) (aJ:Int) (o:Op4):Wd:=
 { nA w (ofK o.kind) ((np w (ofK o.kind)).set o.obj.toNat (doS (lT w o) o).1) with uses:=w.uses++[⟨aJ,path,ofK o.kind,o.obj,o,(doS (lT w o) o).2.1,(doS (lT w o) o).2.2⟩] }
def eD (w:Wd) (o:Op4):Int:=Vm.j8 o.kind (doS (lT w o) o).2.1 (doS (lT w o) o).2.2
def gX (w:Wd):Bool:=decide (1000<0+(bB w.maps:Int)+bB w.stacks+bB w.chans)
def endW (w:Wd) (f:Vm.Frame) (val aJ above:Int):Wd:=
 { w with values:=w.values.set (f.task - 1).toNat val,splits:=if 1<f.task then w.splits++[⟨2,aJ,0,0,above⟩] else w.splits,steps:=w.steps+f.spent,fails:=if f.fail then w.fails++[f.path] else w.fails }
def dL (w:Wd) (kids:List (Int×Int)):List Int:=kids.map fun k=>w.values.getD (k.1 - 1).toNat 0
def opA (a:Vm.Ask):Op4:=⟨a.op.1,a.op.2.1,a.op.2.2.1,a.op.2.2.2⟩
def isNamed (g:Vm.Frame):Bool:=decide (0<((g.kids.map Vm.fL).length:Int))
inductive Rnd where
 | done (w:Wd) (e:Int)
 | go (w:Wd) (told:List Int) (aJ block:Int)
abbrev Rec:=Wd->Vm.Frame->Int->Int->Wd×Int
def ij (c:Cd) (rec:Rec) (w:Wd) (g:Vm.Frame) (a:Vm.Ask) (s b:Int):Rnd:=
 if 64<=w.values.length then .done w 10
 else
  let r:=Vm.c6 c a.a a.args ((w.values.length:Nat)+1) (g.path++[g.many])
  if r.2≠0 then .done w r.2
  else
   let sp:=Po w s b (isNamed g)
   let r2:=rec (cC w s b (isNamed g)) r.1 sp.b sp.d
   if r2.2≠0 then .done r2.1 r2.2 else .go r2.1 [r.1.task] sp.c sp.d
def bp (c:Cd) (rec:Rec) (w:Wd) (g:Vm.Frame) (a:Vm.Ask) (s b ab:Int):Rnd:=
 if a.kind=1 then .go (pz w g.path s a.a) [w.cells.getD a.a.toNat 0] s b
 else if a.kind=2 then .go (iV w g.path s a.a a.b) [] s b
 else if a.kind=3 then (if gX (bC w g.path s (opA a)) then .done (bC w g.path s (opA a)) 8 else .go (bC w g.path s (opA a)) [eD w (opA a)] s b)
 else if a.kind=4 then ij c rec w g a s b
 else if a.kind=5 then .go (j9 w g.kids s b).1 (dL w g.kids) (j9 w g.kids s b).2 b
 else .done (endW w g a.a s ab) 0
def jl (c:Cd) (rec:Rec):Nat->Wd->Vm.Frame->Int->Int->Int->Wd×Int
 | 0,w,_,_,_,_=>(w,0)
 | n+1,w,f,s,b,ab=>match Vm.cq c f with
  | .err e=>(w,e)
  | .ok g a=>match bp c rec w g a s b ab with
   | .done w' e=>(w',e)
   | .go w' told s' b'=>
    if (Vm.aU g a.kind a.b told).2≠0 then (w',(Vm.aU g a.kind a.b told).2)
    else jl c rec n w' (Vm.aU g a.kind a.b told).1 s' b' ab
def ka (f:Vm.Frame):Nat:=2 * (2001 - f.spent).toNat+(if f.kids=[] then 0 else 1)
def Hg (c:Cd):Nat->Rec
 | 0=>fun w _ _ _=>(w,0)
 | d+1=>fun w f s ab=>jl c (Hg c d) (ka f) { w with values:=w.values++[0] } f s 0 ab
def AA (c:Cd) (k:Int):Int:=if k=1\/k=2\/k=3 then c.maps else if k=4\/k=5 then c.stacks else c.chans
structure Hh (c:Cd) (a:Vm.Ask):Prop where
 cell:a.kind=1\/a.kind=2->0<=a.a/\a.a<c.cells.length
 op:a.kind=3->1<=a.op.1/\a.op.1<=7/\0<=a.op.2.1/\a.op.2.1<AA c a.op.1
theorem Py {c:Cd} {b:Bd} {f g:Vm.Frame} {i:In4} {a:Vm.Ask} (hs:Vm.stepS c b f i=some (g,a)):Hh c a:=by
 have fin:∀{op},Vm.aV op f=some (g,a)->Hh c a:=by
  intro op hs;simp only [Vm.aV] at hs
  split at hs
  ·simp at hs;obtain ⟨rfl,rfl⟩:=hs;exact ⟨by simp [Vm.aI],by simp [Vm.aI]⟩
  ·simp at hs
 revert hs
 refine Vm.kG (fun o=>o=some (g,a)->Hh c a) ?_ ?_ ?_ ?_ ?_ (fun _=>fin) (fun _=>fin) (fun _=>fin) (fun _=>fin) (fun _=>fin) ?_ ?_ ?_ ?_ ?_ ?_ ?_ ?_ (fun _=>fin) ?_
 all_goals intro ho hs
 ·simp only [Vm.kt] at hs;split at hs<;>simp at hs;obtain ⟨rfl,rfl⟩:=hs;exact ⟨by simp [Vm.aI],by simp [Vm.aI]⟩
 ·simp only [Vm.fM] at hs;repeat' split at hs
  all_goals first|(simp at hs;done)|(simp at hs;obtain ⟨rfl,rfl⟩:=hs;exact ⟨by simp [Vm.aI],by simp [Vm.aI]⟩)
 ·simp only [Vm.rG] at hs;repeat' split at hs
  all_goals first|(simp at hs;done)|(simp at hs;obtain ⟨rfl,rfl⟩:=hs;exact ⟨by simp [Vm.aI],by simp [Vm.aI]⟩)
 ·simp only [Vm.pq] at hs;split at hs
  ·rename_i h;simp at hs;obtain ⟨rfl,rfl⟩:=hs
   simp [Vm.below] at h;exact ⟨fun _=>⟨h.1,h.2⟩,by simp⟩
  ·simp at hs
 ·simp only [Vm.ig] at hs;split at hs
  ·rename_i h;simp at hs;obtain ⟨rfl,rfl⟩:=hs
   simp [Vm.below] at h;exact ⟨fun _=>⟨h.1.1,h.1.2⟩,by simp⟩
  ·simp at hs
 ·simp only [Vm.fR] at hs;split at hs
  ·rename_i h;simp at hs;obtain ⟨rfl,rfl⟩:=hs
   have h1:=h.1;simp [Vm.below] at h1;refine ⟨by simp,fun _=>?_⟩;show 1<=i.a/\i.a<=7/\0<=i.b/\i.b<AA c i.a;unfold AA;simp only [Vm.cQ] at h1
   repeat' split at h1
   all_goals (repeat' split)<;>simp only at h1<;>omega
  ·simp at hs
 ·simp only [Vm.pv] at hs;split at hs<;>simp at hs;obtain ⟨rfl,rfl⟩:=hs;exact ⟨by simp [Vm.aI],by simp [Vm.aI]⟩
 ·simp only [Vm.cM] at hs;split at hs
  ·simp at hs;obtain ⟨rfl,rfl⟩:=hs;exact ⟨by simp [Vm.aI],by simp [Vm.aI]⟩
  ·simp at hs
 ·simp only [Vm.jW] at hs;split at hs<;>simp at hs<;>obtain ⟨rfl,rfl⟩:=hs<;>exact ⟨by simp [Vm.aI],by simp [Vm.aI]⟩
 ·simp only [Vm.px] at hs;split at hs<;>simp at hs;obtain ⟨rfl,rfl⟩:=hs;exact ⟨by simp [Vm.aI],by simp [Vm.aI]⟩
 ·simp only [Vm.ku] at hs;repeat' split at hs
  all_goals first|(simp at hs;done)|(simp at hs;obtain ⟨rfl,rfl⟩:=hs;exact ⟨by simp [Vm.aI],by simp [Vm.aI]⟩)
 ·simp only [Vm.tC] at hs;repeat' split at hs
  all_goals first|(simp at hs;done)|(simp at hs;obtain ⟨rfl,rfl⟩:=hs;exact ⟨by simp [Vm.aI],by simp [Vm.aI]⟩)
 ·simp only [Vm.dD] at hs;split at hs<;>simp at hs;obtain ⟨rfl,rfl⟩:=hs;exact ⟨by simp [Vm.aI],by simp [Vm.aI]⟩
 ·simp at hs
theorem J7 (c:Cd) (b:Bd):∀(n:Nat) (f:Vm.Frame),Vm.Good c b f->∀g a,Vm.runN c b n f = .ok g a->Hh c a/\g.task=f.task
 | 0,f,h=>by simp [Vm.runN]
 | n+1,f,h=>by
  intro g a hr;rw [Vm.runN] at hr
  split at hr
  ·simp at hr
  split at hr
  ·simp at hr
  rename_i hsp hpc;have dE : 0<=f.pc/\f.pc<b.ins.length:=by simpa [Vm.below] using hpc
  have hsp' : f.spent<2000:=by have:=h.sp1;omega
  cases hs:Vm.stepS c b f (Vm.cm b f) with
  | none=>rw [hs] at hr;simp at hr
  | some p=>
   obtain ⟨g1,a1⟩:=p;rw [hs] at hr;have hg:=h.step dE.2 hsp' hs;have st:=Vm.qY dE.1 dE.2 h.stack hs;simp only [] at hr;by_cases hk:a1.kind=0
   ·rw [if_pos hk] at hr
    have i:=J7 c b n g1 hg g a hr;exact ⟨i.1,i.2.trans st.task⟩
   ·rw [if_neg hk] at hr
    simp at hr;obtain ⟨rfl,rfl⟩:=hr;exact ⟨Py hs,st.task⟩
theorem bL {c:Cd} {f g:Vm.Frame} {a:Vm.Ask} (hr:Vm.right c f=true) (h:Vm.cq c f = .ok g a):Hh c a/\g.task=f.task/\Vm.Kept c (Vm.dm c f) f g a:=by
 rcases Vm.tg hr with ⟨e,h1,_⟩|⟨g',a',h1,h2⟩
 ·rw [h1] at h;cases h
 ·rw [h1] at h
  injection h with e1 e2
  subst e1 e2;have hn:Vm.runN c (Vm.dm c f) (Vm.cn f) f = .ok g' a':=by
   rw [Vm.cq,if_pos hr] at h1;exact h1
  have:=J7 c _ _ f (Vm.Good.of hr) g' a' hn;exact ⟨this.1,this.2,h2⟩
end Uw.Tryz.El
namespace Uw.Tryz.El
open Go Uw Uw.Tryz
structure gw (k:Int) (x:Cont):Prop where
 right:dK x=true
 kind:x.kind=k
theorem Hj (x:Int):∀(l:List Int),∀y∈l.takeWhile (fun y=>decide (y<x)),y<x
 | [],y,h=>by simp at h
 | a::r,y,h=>by
  by_cases ha:a<x
  ·rw [List.takeWhile_cons_of_pos (by simpa using ha)] at h
   rcases Zj.1 h with rfl|h
   ·exact ha
   ·exact Hj x r y h
  ·rw [List.takeWhile_cons_of_neg (by simpa using ha)] at h;cases h
theorem Pz (l:List Int) (x:Int):∀y∈l.take (cE l x),y<x:=by
 have e:l.take (cE l x)=l.takeWhile fun y=>decide (y<x):=by
  unfold cE;exact List.prefix_iff_eq_take.1 (abk _) |>.symm
 rw [e];intro y hy;exact Hj x l y hy
theorem AB {l:List Int} {x:Int} (hp:l.Pairwise (· < ·)):∀y∈l.drop (cE l x),x<=y:=by
 intro y hy;obtain ⟨i,hi,rfl⟩:=Zq.1 hy;rw [aaR];have hi2:cE l x+i<l.length:=by simp at hi;omega
 have:=(IU (x:=x) hp (cE l x+i) hi2)
 omega
theorem LA {l:List Int} {x:Int} (hp:l.Pairwise (· < ·)) (hh:iy l x=false):(rE l (cE l x) x).Pairwise (· < ·):=by
 unfold rE;rw [List.pairwise_append];refine ⟨hp.sublist (List.take_sublist _ _),?_,?_⟩
 ·rw [List.pairwise_cons]
  refine ⟨fun y hy=>?_,hp.sublist (List.drop_sublist _ _)⟩;have h1:=AB (x:=x) hp y hy;by_cases e:y=x
  ·exfalso
   subst e;obtain ⟨i,hi,he⟩:=Zq.1 hy;rw [aaR] at he;have hi2:cE l y+i<l.length:=by simp at hi;omega
   have h0:cE l y<l.length:=by omega
   have:¬l[cE l y]'h0=y:=fun e2=>by
    have:iy l y=true:=by unfold iy;rw [AN h0,e2];simp
    rw [this] at hh;cases hh
   have h2:=AB (x:=y) hp (l[cE l y]'h0) (by
    rw [Zq];exact ⟨0,by simp;omega,by simp⟩)
   rcases Nat.eq_zero_or_pos i with rfl|hpos
   ·exact this (by simpa using he)
   ·have:=ZL.1 hp (cE l y) (cE l y+i) h0 hi2 (by omega)
    omega
  ·omega
 ·intro a ha b hb
  have h1:=Pz l x a ha
  rcases Zj.1 hb with rfl|hb
  ·exact h1
  ·have:=AB (x:=x) hp b hb;omega
theorem LC {l:List Int} {k:Nat} (hp:l.Pairwise (· < ·)):(sJ l k).Pairwise (· < ·):=by
 have:(sJ l k).Sublist l:=by
  unfold sJ
  conv=>rhs;rw [<- ZT k l]
  exact (List.Sublist.refl _).append ((List.drop_sublist_drop_left l (Nat.le_succ k)))
 exact hp.sublist this
theorem has_lt {l:List Int} {x:Int} (h:iy l x=true):cE l x<l.length:=by
 have h:=of_decide_eq_true h;exact (Zc.1 h).1
theorem Hk {k:Int} {x:Cont} (o:Op4) (h:gw k x):gw k (doS x o).1/\(doS x o).1.vals.length<=x.vals.length+1:=by
 obtain ⟨hr,hk⟩:=h;unfold doS
 split
 ·exact ⟨⟨hr,hk⟩,by simp⟩
 rename_i h1;have hof:ofK o.kind=x.kind:=by
  have:=not_or.1 h1;simpa using this.2
 have case1:x.kind=1->x.keys.length=x.vals.length/\x.keys.Pairwise (· < ·):=fun e=>by
  rw [dK,if_pos e] at hr;simpa using hr
 have case2:x.kind=2\/x.kind=3->∀vs,dK ⟨x.kind,[],vs⟩=true:=fun e vs=>by
  unfold dK;rw [if_neg (by simp only;omega),if_pos e];rfl
 split
 ·split<;>exact ⟨⟨hr,hk⟩,by simp⟩
 split
 ·rename_i e2
  have hk1:x.kind=1:=by rw [<- hof,e2];rfl
  obtain ⟨q1,q2⟩:=case1 hk1
  split
  ·exact ⟨⟨hr,hk⟩,by simp⟩
  ·rename_i hn
   have hle:=EF x.keys o.a;refine ⟨⟨?_,hk⟩,?_⟩
   ·unfold dK
    rw [if_pos hk1];simp only [i9,decide_eq_true_eq];exact ⟨by simp [rE];omega,LA q2 (by simpa using hn)⟩
   ·simp [rE];omega
 split
 ·rename_i e3
  have hk1:x.kind=1:=by rw [<- hof,e3];rfl
  obtain ⟨q1,q2⟩:=case1 hk1
  split
  ·rename_i hn
   have hlt:=has_lt hn;refine ⟨⟨?_,hk⟩,?_⟩
   ·unfold dK
    rw [if_pos hk1];simp only [i9,decide_eq_true_eq];exact ⟨by simp [sJ];omega,LC q2⟩
   ·simp [sJ];omega
  ·exact ⟨⟨hr,hk⟩,by simp⟩
 split
 ·rename_i e4
  exact ⟨⟨case2 (.inl (by rw [<- hof,e4];rfl)) _,hk⟩,by simp⟩
 split
 ·rename_i e6
  exact ⟨⟨case2 (.inr (by rw [<- hof,e6];rfl)) _,hk⟩,by simp⟩
 have Yq:x.kind=2\/x.kind=3:=by
  unfold dK at hr
  split at hr
  ·rename_i e1
   exfalso;have:ofK o.kind=1:=hof.trans e1;unfold ofK at this
   split at this
   ·omega
   ·repeat' split at this
    all_goals omega
  ·split at hr
   ·assumption
   ·cases hr
 split
 ·exact ⟨⟨hr,hk⟩,by simp⟩
 ·rename_i v r hv
  exact ⟨⟨case2 Yq _,hk⟩,by rw [hv];simp;omega⟩
theorem xB (l:List Cont) (i:Nat) (y:Cont) (n:Nat) (h:∀hi:i<l.length,y.vals.length<=l[i].vals.length+n):bB (l.set i y)<=bB l+n:=by
 induction l generalizing i with
 | nil=>simp [bB]
 | cons a r ih=>
  cases i with
  | zero=>
   have:=h (by simp);simp [bB] at this ⊢;omega
  | succ i=>
   have:=ih i (fun hi=>h (by simpa using hi));simp [bB] at this ⊢;omega
theorem xC {l:List Cont} {x:Cont} (h:x∈l):x.vals.length<=bB l:=by
 induction l with
 | nil=>cases h
 | cons a r ih=>
  rcases Zj.1 h with rfl|h
  ·simp [bB]
  ·have:=ih h;simp [bB] at this ⊢;omega
theorem gw.keys {k:Int} {x:Cont} (h:gw k x):x.keys.length<=x.vals.length:=by
 have hr:=h.right;unfold dK at hr
 split at hr
 ·simp at hr;omega
 ·split at hr
  ·simp at hr;simp [hr]
  ·cases hr
end Uw.Tryz.El
namespace Uw.Tryz.El
open Go Uw Uw.Tryz
abbrev hB (c:Cd) (w:Wd):List Blk:=wH [.d (.slice 3 (c.am.map bdC) false),.d (ae c.cells),.d (I c.maps),.d (I c.stacks),.d (I c.chans),.d (I c.main)] w.cells.length (bn w.cells) w.maps.length w.maps.length (w.maps.map av) w.stacks.length w.stacks.length (w.stacks.map av) w.chans.length w.chans.length (w.chans.map av) w.uses.length (w.uses.map bA) w.splits.length (w.splits.map iz) w.aB w.values.length w.values.length (bn w.values) w.steps w.fails.length w.fails.length (c9 w.fails)
abbrev frC (f:Vm.Frame):List V:=[.d (I f.task),.d (ae f.path),.d (I f.fn),.d (I f.pc),.d (ae f.loc),.d (ae f.stack),.d (.slice 2 (f.kids.map Vm.fL) false),.d (I f.many),.d (I f.spent),.d (.bool f.fail)]
structure CO (c:Cd):Prop where
 am:c.am.length<1000
 cells:c.cells.length<1000
 ins:∀b∈c.am,b.ins.length<1000
 pK:∀b∈c.am,b.locals<1000
 maps:0<=c.maps/\c.maps<9
 stacks:0<=c.stacks/\c.stacks<9
 chans:0<=c.chans/\c.chans<9
structure WI (c:Cd) (w:Wd):Prop where
 cells:w.cells.length=c.cells.length
 maps:(w.maps.length:Int)=c.maps
 stacks:(w.stacks.length:Int)=c.stacks
 chans:(w.chans.length:Int)=c.chans
 m1:∀x∈w.maps,gw 1 x
 m2:∀x∈w.stacks,gw 2 x
 m3:∀x∈w.chans,gw 3 x
 many:bB w.maps+bB w.stacks+bB w.chans<=1000
 vals:w.values.length<=64
 uses:w.uses.length<=2000 * w.values.length
 splits:w.splits.length<=4001 * w.values.length
 fails:w.fails.length<=w.values.length
 I2:0<=w.aB
 str1:w.aB<=1+3 * (w.values.length:Int)
 st0:0<=w.steps
 st1:w.steps<=2000 * (w.values.length:Int)
structure Adds (w0 w:Wd) (V:Nat) (own:Nat) (Yr:Nat):Prop where
 vals:w0.values.length+V=w.values.length
 uses:w.uses.length<=w0.uses.length+2000 * V+own
 splits:w.splits.length<=w0.splits.length+4001 * V+Yr
 fails:w.fails.length<=w0.fails.length+V
 I2:w0.aB<=w.aB
 str:w.aB<=w0.aB+3 * (V:Int)
 steps:w.steps<=w0.steps+2000 * (V:Int)
 st0:w0.steps<=w.steps
structure Lp (c:Cd) (w0 w:Wd) (f:Vm.Frame):Prop where
 wi:WI c w
 right:Vm.right c f=true
 J8:1<=f.task
 task1:f.task<=w.values.length
 path:f.path.length<=w0.values.length
 many:0<=f.many/\f.many<=(w.values.length:Int)
 kids:∀k∈f.kids,1<=k.1/\k.1<=(w.values.length:Int)
 adds:∃V,w0.values.length+1+V=w.values.length/\f.kids.length<=V/\w.uses.length<=w0.uses.length+2000 * V+f.spent.toNat/\w.splits.length+(if f.kids=[] then 0 else 1)<=w0.splits.length+4001 * V+2 * f.spent.toNat/\w.fails.length<=w0.fails.length+V/\w0.aB<=w.aB/\w.aB<=w0.aB+3 * (V:Int)/\w0.steps<=w.steps/\w.steps<=w0.steps+2000 * (V:Int)
structure Done (c:Cd) (w0 w:Wd):Prop where
 wi:WI c w
 adds:∃V,w0.values.length+1+V=w.values.length/\w.uses.length<=w0.uses.length+2000 * (V+1)/\w.splits.length<=w0.splits.length+4001 * (V+1)/\w.fails.length<=w0.fails.length+(V+1)/\w0.aB<=w.aB/\w.aB<=w0.aB+3 * (V:Int)/\w0.steps<=w.steps/\w.steps<=w0.steps+2000 * ((V:Int)+1)
theorem kU {c:Cd} (hc:CO c) {w0 w:Wd} {f:Vm.Frame} (h:Lp c w0 w f):Vm.Tiny c f:=by
 have g:=Vm.Good.of h.right;obtain ⟨V,a1,a2,_⟩:=h.adds;have hv:=h.wi.vals;refine ⟨hc.am,hc.cells,hc.ins,by have:=h.path;omega,?_,by have:=g.stack;omega,by omega⟩;have hl:=g.loc;have hb:Vm.dm c f∈c.am:=by
  unfold Vm.dm;have h1:=g.fn0;have h2:=g.fn1;rw [ZS,AN (by omega)];exact YX _
 have:=hc.pK _ hb;omega
theorem lJ {c:Cd} (hc:CO c) {w0 w:Wd} {f g:Vm.Frame} {a:Vm.Ask} (h:Lp c w0 w f) (hk:Vm.Kept c (Vm.dm c f) f g a):Vm.lI g:=by
 have t:=kU hc h;have gs:=hk.good.stack;have h5:=h.many;have h6:=h.wi.vals;have t1:=t.path;have t2:=t.loc;have t3:=t.kids;exact ⟨by rw [hk.path];exact t1,by rw [hk.loc];exact t2,by omega,by rw [hk.kids];exact t3,by rw [hk.many];omega,by rw [hk.many];omega⟩
abbrev SL (c:Cd) (ab:Int):Wd×Vm.Frame×Int×Int->St:=fun (w,f,s,b)=>lpS (hB c w) (frC f) s b ab
def rH (c:Cd) (R:Wd×Int) (Q:az->St->Prop):Prop:=∀s,Weak s (exS (hB c R.1) R.2)->Q (.exit 0) s
theorem SC (c:Cd) (w:Wd) (p:List Int) (s cell:Int):hB c (pz w p s cell)=wH [.d (.slice 3 (c.am.map bdC) false),.d (ae c.cells),.d (I c.maps),.d (I c.stacks),.d (I c.chans),.d (I c.main)] w.cells.length (bn w.cells) w.maps.length w.maps.length (w.maps.map av) w.stacks.length w.stacks.length (w.stacks.map av) w.chans.length w.chans.length (w.chans.map av) (w.uses.length+1) (w.uses.map bA++[bA ⟨s,p,0,cell,⟨0,0,0,0⟩,w.cells.getD cell.toNat 0,false⟩]) w.splits.length (w.splits.map iz) w.aB w.values.length w.values.length (bn w.values) w.steps w.fails.length w.fails.length (c9 w.fails):=by
 simp [pz]
theorem I3 (c:Cd) (hc:CO c) (rec:Rec) (ab:Int) (R:Wd×Int) (w0 w:Wd) (f g:Vm.Frame) (a:Vm.Ask) (s b:Int) (hl:Lp c w0 w f) (hn:Vm.cq c f = .ok g a) (k1:a.kind=1)
  (inv:Wd×Vm.Frame×Int×Int->Prop) (mu:Wd×Vm.Frame×Int×Int->Nat) {Q:az->St->Prop}
  (hgo:(Vm.aU g 1 a.b [w.cells.getD a.a.toNat 0]).2=0->inv (pz w g.path s a.a,(Vm.aU g 1 a.b [w.cells.getD a.a.toNat 0]).1,s,b)/\mu (pz w g.path s a.a,(Vm.aU g 1 a.b [w.cells.getD a.a.toNat 0]).1,s,b)<mu (w,f,s,b))
  (hx:(Vm.aU g 1 a.b [w.cells.getD a.a.toNat 0]).2≠0->rH c (pz w g.path s a.a,(Vm.aU g 1 a.b [w.cells.getD a.a.toNat 0]).2) Q) :
  WT P0 (cK (SL c ab) inv mu (w,f,s,b) Q) (exec ruB (SL c ab (w,f,s,b)) Tree.done):=by
 have hask:=bL hl.right hn;obtain ⟨hao,wm,hkept⟩:=hask;have hN:=Vm.s21 c f (kU hc hl);rw [hn] at hN;have hcell:=hao.cell (.inl k1);have hwi:=hl.wi;have htf:Vm.lI g:=lJ hc hl hkept;have hT:=Vm.I0 g a [w.cells.getD a.a.toNat 0] htf (by simp);obtain ⟨ak,aa,ab',⟨o1,o2,o3,o4⟩,aargs⟩:=a;simp only at k1 hcell;subst k1;simp only at hgo hx hT;have hT':=hT.args (ds:=[Vm.bS g,_,.slice 1 [[I (w.cells.getD aa.toNat 0)]] true]) (.cons (.refl _) (.cons (.refl _) (.cons (.slice (.refl _)) (.refl _))));generalize htold:Vm.aU g 1 ab' [w.cells.getD aa.toNat 0]=T at *;have hpl:g.path.length<1000000:=by have h1:=hl.path;have h2:=hwi.vals;obtain ⟨V,h3,_⟩:=hl.adds;rw [hkept.path];omega
 have hu:w.uses.length<1000000:=by have h1:=hwi.uses;have h2:=hwi.vals;omega
 have hcl:(aa:Int)<(w.cells.length:Nat):=by rw [hwi.cells];exact hcell.2
 have e1:(bn w.cells)[0+aa.toNat]? = some [I (w.cells.getD aa.toNat 0)]:=by
  have h1:aa.toNat<w.cells.length:=by omega
  simp [bn,h1]
 have hB':=SC c w g.path s aa;generalize hW:pz w g.path s aa=W at *;obtain ⟨T1,T2⟩:=T;refine RN s b ab aa ab' o1 o2 o3 o4 T2 (w.cells.getD aa.toNat 0) hN (Vz _ _ _ _ _ _ _ _ _ _ _ _ _ _ _ _ _ _ _ _ _ _ _ _ _ _ _ _ _ _ _ _ _ _ _ _ _ _ g.path s aa _ hcell.1 hcl (by simp [bn]) e1 hu (by simp) hpl) hT' ?_ ?_
 ·intro h0 st hs
  obtain ⟨h1,h2⟩:=hgo h0;exact ⟨_,h1,h2,by show Weak st (lpS (hB c W) (frC T1) s b ab);rw [hB'];exact hs⟩
 ·intro h0 st hs
  exact hx h0 st (by show Weak st (exS (hB c W) T2);rw [hB'];exact hs)
end Uw.Tryz.El
namespace Uw.Tryz.El
open Go Uw Uw.Tryz
theorem PD (c:Cd) (w:Wd) (p:List Int) (s cell v:Int):hB c (iV w p s cell v)=wH [.d (.slice 3 (c.am.map bdC) false),.d (ae c.cells),.d (I c.maps),.d (I c.stacks),.d (I c.chans),.d (I c.main)] w.cells.length ((bn w.cells).set (0+cell.toNat) [I v]) w.maps.length w.maps.length (w.maps.map av) w.stacks.length w.stacks.length (w.stacks.map av) w.chans.length w.chans.length (w.chans.map av) (w.uses.length+1) (w.uses.map bA++[bA ⟨s,p,0,cell,⟨1,0,v,0⟩,0,false⟩]) w.splits.length (w.splits.map iz) w.aB w.values.length w.values.length (bn w.values) w.steps w.fails.length w.fails.length (c9 w.fails):=by
 simp [iV,bn,Zr]
theorem AE {c:Cd} {w0 w:Wd} {f g:Vm.Frame} {a:Vm.Ask} (hl:Lp c w0 w f) (hk:Vm.Kept c (Vm.dm c f) f g a):g.path.length<1000000:=by
 have h1:=hl.path;have h2:=hl.wi.vals;obtain ⟨V,h3,_⟩:=hl.adds;rw [hk.path];omega
theorem AG {c:Cd} {w:Wd} (h:WI c w):w.uses.length<1000000/\w.splits.length<1000000/\w.fails.length<1000000/\w.aB<1000000/\w.steps<1000000000:=by
 have h1:=h.uses;have h2:=h.vals;have h3:=h.splits;have h4:=h.fails;have h5:=h.str1;have h6:=h.st1;omega
theorem Hl (c:Cd) (hc:CO c) (ab:Int) (w0 w:Wd) (f g:Vm.Frame) (a:Vm.Ask) (s b:Int) (hl:Lp c w0 w f) (hn:Vm.cq c f = .ok g a) (k1:a.kind=2) (inv:Wd×Vm.Frame×Int×Int->Prop) (mu:Wd×Vm.Frame×Int×Int->Nat) {Q:az->St->Prop}
  (hgo:(Vm.aU g 2 a.b []).2=0->inv (iV w g.path s a.a a.b,(Vm.aU g 2 a.b []).1,s,b)/\mu (iV w g.path s a.a a.b,(Vm.aU g 2 a.b []).1,s,b)<mu (w,f,s,b))
  (hx:(Vm.aU g 2 a.b []).2≠0->rH c (iV w g.path s a.a a.b,(Vm.aU g 2 a.b []).2) Q) :
  WT P0 (cK (SL c ab) inv mu (w,f,s,b) Q) (exec ruB (SL c ab (w,f,s,b)) Tree.done):=by
 obtain ⟨hao,wm,hkept⟩:=bL hl.right hn;have hN:=Vm.s21 c f (kU hc hl);rw [hn] at hN;have hwi:=hl.wi;have htf:Vm.lI g:=lJ hc hl hkept;have hpl:=AE hl hkept;obtain ⟨hul,hsl,hfl,hst,hsp⟩:=AG hwi;have hcell:=hao.cell (.inr k1);have hT:=Vm.I0 g a [] htf (by simp);obtain ⟨ak,aa,ab',⟨o1,o2,o3,o4⟩,aargs⟩:=a;simp only at k1 hcell;subst k1;simp only at hgo hx hT;have hT':=hT.args (ds:=[Vm.bS g,_,.nil]) (.cons (.refl _) (.cons (.refl _) (.cons (.nil 1) (.refl _))));generalize htold:Vm.aU g 2 ab' []=T at *;have hcl:(aa:Int)<(w.cells.length:Nat):=by rw [hwi.cells];exact hcell.2
 have e1:(bn w.cells)[0+aa.toNat]? = some [I (w.cells.getD aa.toNat 0)]:=by
  have h1:aa.toNat<w.cells.length:=by omega
  simp [bn,h1]
 have hB':=PD c w g.path s aa ab';generalize hW:iV w g.path s aa ab' = W at *;obtain ⟨T1,T2⟩:=T;refine Px s b ab aa ab' o1 o2 o3 o4 T2 hN (RD s aa ab' _ hcell.1 hcl (by simp [bn]) e1 hul (by simp) hpl) hT' ?_ ?_
 ·intro h0 st hs
  obtain ⟨h1,h2⟩:=hgo h0;exact ⟨_,h1,h2,by show Weak st (lpS (hB c W) (frC T1) s b ab);rw [hB'];exact hs⟩
 ·intro h0 st hs
  exact hx h0 st (by show Weak st (exS (hB c W) T2);rw [hB'];exact hs)
end Uw.Tryz.El
namespace Uw.Tryz.El
open Go Uw Uw.Tryz
variable {C1 C2 C3 C4 C5 C6 : Dat} {xc : Nat} {rc : List (List Dat)} {gm xm : Nat} {rm : List (List Dat)} {gs xs : Nat} {rs : List (List Dat)} {gc xh : Nat} {rh : List (List Dat)} {xu : Nat} {ru : List (List Dat)} {xp : Nat} {rp : List (List Dat)} {st : Int} {gv xv : Nat} {rv : List (List Dat)} {sp : Int} {gf xf : Nat} {rf : List (List Dat)}
theorem ti (ms ss hs:List Cont) (fl:Bool) (a1:ms.length=xm) (a2:ss.length=xs) (a3:hs.length=xh) (b1:rm=ms.map av) (b2:rs=ss.map av) (b3:rh=hs.map av) (hm:xm<1000) (hs1:xs<1000) (hh:xh<1000) (bd:bB ms+bB ss+bB hs<1000000) (hf:decide (1000<0+(bB ms:Int)+bB ss+bB hs)=fl) :
  eM P0 dz [.ptr 0 0] (wG [.d C1,.d C2,.d C3,.d C4,.d C5,.d C6] xc rc gm xm rm gs xs rs gc xh rh xu ru xp rp st gv xv rv sp gf xf rf)
   (.d (.bool fl)) (wG [.d C1,.d C2,.d C3,.d C4,.d C5,.d C6] xc rc gm xm rm gs xs rs gc xh rh xu ru xp rp st gv xv rv sp gf xf rf):=by
 subst a1 a2 a3 b1 b2 b3 hf;exact VB ms ss hs hm hs1 hh (by omega) (by omega) (by omega)
theorem AH (w:Wd) (p:List Int) (s:Int) (o:Op4) (hk:ofK o.kind=1):bC w p s o={ w with maps:=w.maps.set o.obj.toNat (doS (w.maps.getD o.obj.toNat default) o).1,uses:=w.uses++[⟨s,p,1,o.obj,o,(doS (w.maps.getD o.obj.toNat default) o).2.1,(doS (w.maps.getD o.obj.toNat default) o).2.2⟩] }:=by
 unfold bC lT np nA;rw [hk];rfl
theorem PH (c:Cd) (w:Wd) (p:List Int) (s:Int) (o:Op4) (hk:ofK o.kind=1):hB c (bC w p s o)=wH [.d (.slice 3 (c.am.map bdC) false),.d (ae c.cells),.d (I c.maps),.d (I c.stacks),.d (I c.chans),.d (I c.main)] w.cells.length (bn w.cells) w.maps.length w.maps.length ((w.maps.map av).set (0+o.obj.toNat) (av (doS (w.maps.getD o.obj.toNat default) o).1)) w.stacks.length w.stacks.length (w.stacks.map av) w.chans.length w.chans.length (w.chans.map av) (w.uses.length+1) (w.uses.map bA++[bA ⟨s,p,1,o.obj,o,(doS (w.maps.getD o.obj.toNat default) o).2.1,(doS (w.maps.getD o.obj.toNat default) o).2.2⟩]) w.splits.length (w.splits.map iz) w.aB w.values.length w.values.length (bn w.values) w.steps w.fails.length w.fails.length (c9 w.fails):=by
 rw [AH w p s o hk];simp [Zr]
theorem Hm (c:Cd) (hc:CO c) (ab:Int) (w0 w:Wd) (f g:Vm.Frame) (a:Vm.Ask) (s b:Int) (hl:Lp c w0 w f) (hn:Vm.cq c f = .ok g a) (k1:a.kind=3) (hk:ofK a.op.1=1) (inv:Wd×Vm.Frame×Int×Int->Prop) (mu:Wd×Vm.Frame×Int×Int->Nat) {Q:az->St->Prop}
  (hgo:gX (bC w g.path s (opA a))=false->(Vm.aU g 3 a.b [eD w (opA a)]).2=0->inv (bC w g.path s (opA a),(Vm.aU g 3 a.b [eD w (opA a)]).1,s,b)/\mu (bC w g.path s (opA a),(Vm.aU g 3 a.b [eD w (opA a)]).1,s,b)<mu (w,f,s,b))
  (hx:gX (bC w g.path s (opA a))=false->(Vm.aU g 3 a.b [eD w (opA a)]).2≠0->rH c (bC w g.path s (opA a),(Vm.aU g 3 a.b [eD w (opA a)]).2) Q)
  (hy:gX (bC w g.path s (opA a))=true->rH c (bC w g.path s (opA a),8) Q) :
  WT P0 (cK (SL c ab) inv mu (w,f,s,b) Q) (exec ruB (SL c ab (w,f,s,b)) Tree.done):=by
 obtain ⟨hao,wm,hkept⟩:=bL hl.right hn;have hN:=Vm.s21 c f (kU hc hl);rw [hn] at hN;have hwi:=hl.wi;have htf:Vm.lI g:=lJ hc hl hkept;have hpl:=AE hl hkept;obtain ⟨hul,hsl,hfl,hst,hsp⟩:=AG hwi;have hop:=hao.op k1;have hT:=Vm.I0 g a [eD w (opA a)] htf (by simp);obtain ⟨ak,aa,ab',⟨o1,o2,o3,o4⟩,aargs⟩:=a;simp only at k1 hop hk;subst k1;simp only [opA] at hgo hx hy hT hop;have hob:o2<(w.maps.length:Nat):=by
  have h:=hop.2.2.2;unfold AA at h;have h2:=hwi.maps;unfold ofK at hk
  repeat' split at hk
  all_goals first|(exfalso;omega)|(repeat' split at h)<;>omega
 have hi:o2.toNat<w.maps.length:=by omega
 have hmem:w.maps[o2.toNat]'hi∈w.maps:=YX _;have hco:=hwi.m1 _ hmem;have hgd:w.maps.getD o2.toNat default=w.maps[o2.toNat]'hi:=by simp [hi]
 have TE:=hwi.many;have hmv:=xC hmem;have hky:=hco.keys;have hdo:=Hk ⟨o1,o2,o3,o4⟩ hco;have hset:=xB w.maps o2.toNat (doS (w.maps[o2.toNat]'hi) ⟨o1,o2,o3,o4⟩).1 1 (fun _=>hdo.2);have hD:=s7 (w.maps[o2.toNat]'hi) ⟨o1,o2,o3,o4⟩ (by omega) (by omega);have hV:=Vm.s18 o1 o2 o3 o4 (doS (w.maps[o2.toNat]'hi) ⟨o1,o2,o3,o4⟩).2.1 (doS (w.maps[o2.toNat]'hi) ⟨o1,o2,o3,o4⟩).2.2;have e1:(w.maps.map av)[0+o2.toNat]? = some (av (w.maps[o2.toNat]'hi)):=by simp [hi]
 have hB':=PH c w g.path s ⟨o1,o2,o3,o4⟩ hk;have hcw:=AH w g.path s ⟨o1,o2,o3,o4⟩ hk;have hcv:eD w ⟨o1,o2,o3,o4⟩=Vm.j8 o1 (doS (w.maps[o2.toNat]'hi) ⟨o1,o2,o3,o4⟩).2.1 (doS (w.maps[o2.toNat]'hi) ⟨o1,o2,o3,o4⟩).2.2:=by
  unfold eD lT np;rw [hk,<- hgd];rfl
 have hkc:=hc.maps;have hks:=hc.stacks;have hkh:=hc.chans;have hm1:=hwi.maps;have hm2:=hwi.stacks;have hm3:=hwi.chans;have hB2:hB c (bC w g.path s ⟨o1,o2,o3,o4⟩)=_:=hB';rw [hgd] at hB2;have hfu:gX (bC w g.path s ⟨o1,o2,o3,o4⟩)=decide (1000<0+(bB (w.maps.set o2.toNat (doS (w.maps[o2.toNat]'hi) ⟨o1,o2,o3,o4⟩).1):Int)+bB w.stacks+bB w.chans):=by
  rw [hcw,hgd];rfl
 rw [hcv] at hgo hx hT;generalize bC w g.path s ⟨o1,o2,o3,o4⟩=W at *;generalize hdd:doS (w.maps[o2.toNat]'hi) ⟨o1,o2,o3,o4⟩=D at *;generalize hxx:w.maps[o2.toNat]'hi=X at *;have hT':=hT.args (ds:=[Vm.bS g,_,.slice 1 [[I (Vm.j8 o1 D.2.1 D.2.2)]] true]) (.cons (.refl _) (.cons (.refl _) (.cons (.slice (.refl _)) (.refl _))));generalize htold:Vm.aU g 3 ab' [Vm.j8 o1 D.2.1 D.2.2]=T at *;obtain ⟨T1,T2⟩:=T;obtain ⟨⟨dk,dks,dvs⟩,dv,dis⟩:=D;obtain ⟨ck,cks,cvs⟩:=X;simp only at hB2 hD hV hset hT' hgo hx hfu
 cases hfl:gX W with
 | false=>
  rw [hfl] at hfu;have hgo:=hgo hfl;have hx:=hx hfl;refine EK s b ab aa ab' o1 o2 o3 o4 T2 _ hN (J3 s o1 o2 o3 o4 dv _ ck dk dis false cks cvs dks dvs hk hop.2.2.1 hob (by simp) e1 hul (by simp) hpl hD hV (ti (w.maps.set o2.toNat ⟨dk,dks,dvs⟩) w.stacks w.chans false (by simp) (rfl) (rfl) (by simp [Zr,av]) (rfl) (rfl) (by omega) (by omega) (by omega) (by omega) hfu.symm)) hT' ?_ ?_
  ·intro h0 st hs
   obtain ⟨h1,h2⟩:=hgo h0;exact ⟨_,h1,h2,by show Weak st (lpS (hB c W) (frC T1) s b ab);rw [hB2];exact hs⟩
  ·intro h0 st hs
   exact hx h0 st (by show Weak st (exS (hB c W) T2);rw [hB2];exact hs)
 | true=>
  rw [hfl] at hfu;refine EL s b ab aa ab' o1 o2 o3 o4 0 hN (J3 s o1 o2 o3 o4 dv _ ck dk dis true cks cvs dks dvs hk hop.2.2.1 hob (by simp) e1 hul (by simp) hpl hD hV (ti (w.maps.set o2.toNat ⟨dk,dks,dvs⟩) w.stacks w.chans true (by simp) (rfl) (rfl) (by simp [Zr,av]) (rfl) (rfl) (by omega) (by omega) (by omega) (by omega) hfu.symm)) ?_;intro st hs;exact hy hfl st (by show Weak st (exS (hB c W) 8);rw [hB2];exact hs)
theorem AK (w:Wd) (p:List Int) (s:Int) (o:Op4) (hk:ofK o.kind=2):bC w p s o={ w with stacks:=w.stacks.set o.obj.toNat (doS (w.stacks.getD o.obj.toNat default) o).1,uses:=w.uses++[⟨s,p,2,o.obj,o,(doS (w.stacks.getD o.obj.toNat default) o).2.1,(doS (w.stacks.getD o.obj.toNat default) o).2.2⟩] }:=by
 unfold bC lT np nA;rw [hk];rfl
theorem PI (c:Cd) (w:Wd) (p:List Int) (s:Int) (o:Op4) (hk:ofK o.kind=2):hB c (bC w p s o)=wH [.d (.slice 3 (c.am.map bdC) false),.d (ae c.cells),.d (I c.maps),.d (I c.stacks),.d (I c.chans),.d (I c.main)] w.cells.length (bn w.cells) w.maps.length w.maps.length (w.maps.map av) w.stacks.length w.stacks.length ((w.stacks.map av).set (0+o.obj.toNat) (av (doS (w.stacks.getD o.obj.toNat default) o).1)) w.chans.length w.chans.length (w.chans.map av) (w.uses.length+1) (w.uses.map bA++[bA ⟨s,p,2,o.obj,o,(doS (w.stacks.getD o.obj.toNat default) o).2.1,(doS (w.stacks.getD o.obj.toNat default) o).2.2⟩]) w.splits.length (w.splits.map iz) w.aB w.values.length w.values.length (bn w.values) w.steps w.fails.length w.fails.length (c9 w.fails):=by
 rw [AK w p s o hk];simp [Zr]
theorem Hn (c:Cd) (hc:CO c) (ab:Int) (w0 w:Wd) (f g:Vm.Frame) (a:Vm.Ask) (s b:Int) (hl:Lp c w0 w f) (hn:Vm.cq c f = .ok g a) (k1:a.kind=3) (hk:ofK a.op.1=2) (inv:Wd×Vm.Frame×Int×Int->Prop) (mu:Wd×Vm.Frame×Int×Int->Nat) {Q:az->St->Prop}
  (hgo:gX (bC w g.path s (opA a))=false->(Vm.aU g 3 a.b [eD w (opA a)]).2=0->inv (bC w g.path s (opA a),(Vm.aU g 3 a.b [eD w (opA a)]).1,s,b)/\mu (bC w g.path s (opA a),(Vm.aU g 3 a.b [eD w (opA a)]).1,s,b)<mu (w,f,s,b))
  (hx:gX (bC w g.path s (opA a))=false->(Vm.aU g 3 a.b [eD w (opA a)]).2≠0->rH c (bC w g.path s (opA a),(Vm.aU g 3 a.b [eD w (opA a)]).2) Q)
  (hy:gX (bC w g.path s (opA a))=true->rH c (bC w g.path s (opA a),8) Q) :
  WT P0 (cK (SL c ab) inv mu (w,f,s,b) Q) (exec ruB (SL c ab (w,f,s,b)) Tree.done):=by
 obtain ⟨hao,wm,hkept⟩:=bL hl.right hn;have hN:=Vm.s21 c f (kU hc hl);rw [hn] at hN;have hwi:=hl.wi;have htf:Vm.lI g:=lJ hc hl hkept;have hpl:=AE hl hkept;obtain ⟨hul,hsl,hfl,hst,hsp⟩:=AG hwi;have hop:=hao.op k1;have hT:=Vm.I0 g a [eD w (opA a)] htf (by simp);obtain ⟨ak,aa,ab',⟨o1,o2,o3,o4⟩,aargs⟩:=a;simp only at k1 hop hk;subst k1;simp only [opA] at hgo hx hy hT hop;have hob:o2<(w.stacks.length:Nat):=by
  have h:=hop.2.2.2;unfold AA at h;have h2:=hwi.stacks;unfold ofK at hk
  repeat' split at hk
  all_goals first|(exfalso;omega)|(repeat' split at h)<;>omega
 have hi:o2.toNat<w.stacks.length:=by omega
 have hmem:w.stacks[o2.toNat]'hi∈w.stacks:=YX _;have hco:=hwi.m2 _ hmem;have hgd:w.stacks.getD o2.toNat default=w.stacks[o2.toNat]'hi:=by simp [hi]
 have TE:=hwi.many;have hmv:=xC hmem;have hky:=hco.keys;have hdo:=Hk ⟨o1,o2,o3,o4⟩ hco;have hset:=xB w.stacks o2.toNat (doS (w.stacks[o2.toNat]'hi) ⟨o1,o2,o3,o4⟩).1 1 (fun _=>hdo.2);have hD:=s7 (w.stacks[o2.toNat]'hi) ⟨o1,o2,o3,o4⟩ (by omega) (by omega);have hV:=Vm.s18 o1 o2 o3 o4 (doS (w.stacks[o2.toNat]'hi) ⟨o1,o2,o3,o4⟩).2.1 (doS (w.stacks[o2.toNat]'hi) ⟨o1,o2,o3,o4⟩).2.2;have e1:(w.stacks.map av)[0+o2.toNat]? = some (av (w.stacks[o2.toNat]'hi)):=by simp [hi]
 have hB':=PI c w g.path s ⟨o1,o2,o3,o4⟩ hk;have hcw:=AK w g.path s ⟨o1,o2,o3,o4⟩ hk;have hcv:eD w ⟨o1,o2,o3,o4⟩=Vm.j8 o1 (doS (w.stacks[o2.toNat]'hi) ⟨o1,o2,o3,o4⟩).2.1 (doS (w.stacks[o2.toNat]'hi) ⟨o1,o2,o3,o4⟩).2.2:=by
  unfold eD lT np;rw [hk,<- hgd];rfl
 have hkc:=hc.maps;have hks:=hc.stacks;have hkh:=hc.chans;have hm1:=hwi.maps;have hm2:=hwi.stacks;have hm3:=hwi.chans;have hB2:hB c (bC w g.path s ⟨o1,o2,o3,o4⟩)=_:=hB';rw [hgd] at hB2;have hfu:gX (bC w g.path s ⟨o1,o2,o3,o4⟩)=decide (1000<0+(bB w.maps:Int)+bB (w.stacks.set o2.toNat (doS (w.stacks[o2.toNat]'hi) ⟨o1,o2,o3,o4⟩).1)+bB w.chans):=by
  rw [hcw,hgd];rfl
 rw [hcv] at hgo hx hT;generalize bC w g.path s ⟨o1,o2,o3,o4⟩=W at *;generalize hdd:doS (w.stacks[o2.toNat]'hi) ⟨o1,o2,o3,o4⟩=D at *;generalize hxx:w.stacks[o2.toNat]'hi=X at *;have hT':=hT.args (ds:=[Vm.bS g,_,.slice 1 [[I (Vm.j8 o1 D.2.1 D.2.2)]] true]) (.cons (.refl _) (.cons (.refl _) (.cons (.slice (.refl _)) (.refl _))));generalize htold:Vm.aU g 3 ab' [Vm.j8 o1 D.2.1 D.2.2]=T at *;obtain ⟨T1,T2⟩:=T;obtain ⟨⟨dk,dks,dvs⟩,dv,dis⟩:=D;obtain ⟨ck,cks,cvs⟩:=X;simp only at hB2 hD hV hset hT' hgo hx hfu
 cases hfl:gX W with
 | false=>
  rw [hfl] at hfu;have hgo:=hgo hfl;have hx:=hx hfl;refine EK s b ab aa ab' o1 o2 o3 o4 T2 _ hN (J4 s o1 o2 o3 o4 dv _ ck dk dis false cks cvs dks dvs hk hop.2.2.1 hob (by simp) e1 hul (by simp) hpl hD hV (ti w.maps (w.stacks.set o2.toNat ⟨dk,dks,dvs⟩) w.chans false (rfl) (by simp) (rfl) (rfl) (by simp [Zr,av]) (rfl) (by omega) (by omega) (by omega) (by omega) hfu.symm)) hT' ?_ ?_
  ·intro h0 st hs
   obtain ⟨h1,h2⟩:=hgo h0;exact ⟨_,h1,h2,by show Weak st (lpS (hB c W) (frC T1) s b ab);rw [hB2];exact hs⟩
  ·intro h0 st hs
   exact hx h0 st (by show Weak st (exS (hB c W) T2);rw [hB2];exact hs)
 | true=>
  rw [hfl] at hfu;refine EL s b ab aa ab' o1 o2 o3 o4 0 hN (J4 s o1 o2 o3 o4 dv _ ck dk dis true cks cvs dks dvs hk hop.2.2.1 hob (by simp) e1 hul (by simp) hpl hD hV (ti w.maps (w.stacks.set o2.toNat ⟨dk,dks,dvs⟩) w.chans true (rfl) (by simp) (rfl) (rfl) (by simp [Zr,av]) (rfl) (by omega) (by omega) (by omega) (by omega) hfu.symm)) ?_;intro st hs;exact hy hfl st (by show Weak st (exS (hB c W) 8);rw [hB2];exact hs)
theorem AL (w:Wd) (p:List Int) (s:Int) (o:Op4) (hk:ofK o.kind=3):bC w p s o={ w with chans:=w.chans.set o.obj.toNat (doS (w.chans.getD o.obj.toNat default) o).1,uses:=w.uses++[⟨s,p,3,o.obj,o,(doS (w.chans.getD o.obj.toNat default) o).2.1,(doS (w.chans.getD o.obj.toNat default) o).2.2⟩] }:=by
 unfold bC lT np nA;rw [hk];rfl
theorem PK (c:Cd) (w:Wd) (p:List Int) (s:Int) (o:Op4) (hk:ofK o.kind=3):hB c (bC w p s o)=wH [.d (.slice 3 (c.am.map bdC) false),.d (ae c.cells),.d (I c.maps),.d (I c.stacks),.d (I c.chans),.d (I c.main)] w.cells.length (bn w.cells) w.maps.length w.maps.length (w.maps.map av) w.stacks.length w.stacks.length (w.stacks.map av) w.chans.length w.chans.length ((w.chans.map av).set (0+o.obj.toNat) (av (doS (w.chans.getD o.obj.toNat default) o).1)) (w.uses.length+1) (w.uses.map bA++[bA ⟨s,p,3,o.obj,o,(doS (w.chans.getD o.obj.toNat default) o).2.1,(doS (w.chans.getD o.obj.toNat default) o).2.2⟩]) w.splits.length (w.splits.map iz) w.aB w.values.length w.values.length (bn w.values) w.steps w.fails.length w.fails.length (c9 w.fails):=by
 rw [AL w p s o hk];simp [Zr]
theorem Ho (c:Cd) (hc:CO c) (ab:Int) (w0 w:Wd) (f g:Vm.Frame) (a:Vm.Ask) (s b:Int) (hl:Lp c w0 w f) (hn:Vm.cq c f = .ok g a) (k1:a.kind=3) (hk:ofK a.op.1=3) (inv:Wd×Vm.Frame×Int×Int->Prop) (mu:Wd×Vm.Frame×Int×Int->Nat) {Q:az->St->Prop}
  (hgo:gX (bC w g.path s (opA a))=false->(Vm.aU g 3 a.b [eD w (opA a)]).2=0->inv (bC w g.path s (opA a),(Vm.aU g 3 a.b [eD w (opA a)]).1,s,b)/\mu (bC w g.path s (opA a),(Vm.aU g 3 a.b [eD w (opA a)]).1,s,b)<mu (w,f,s,b))
  (hx:gX (bC w g.path s (opA a))=false->(Vm.aU g 3 a.b [eD w (opA a)]).2≠0->rH c (bC w g.path s (opA a),(Vm.aU g 3 a.b [eD w (opA a)]).2) Q)
  (hy:gX (bC w g.path s (opA a))=true->rH c (bC w g.path s (opA a),8) Q) :
  WT P0 (cK (SL c ab) inv mu (w,f,s,b) Q) (exec ruB (SL c ab (w,f,s,b)) Tree.done):=by
 obtain ⟨hao,wm,hkept⟩:=bL hl.right hn;have hN:=Vm.s21 c f (kU hc hl);rw [hn] at hN;have hwi:=hl.wi;have htf:Vm.lI g:=lJ hc hl hkept;have hpl:=AE hl hkept;obtain ⟨hul,hsl,hfl,hst,hsp⟩:=AG hwi;have hop:=hao.op k1;have hT:=Vm.I0 g a [eD w (opA a)] htf (by simp);obtain ⟨ak,aa,ab',⟨o1,o2,o3,o4⟩,aargs⟩:=a;simp only at k1 hop hk;subst k1;simp only [opA] at hgo hx hy hT hop;have hob:o2<(w.chans.length:Nat):=by
  have h:=hop.2.2.2;unfold AA at h;have h2:=hwi.chans;unfold ofK at hk
  repeat' split at hk
  all_goals first|(exfalso;omega)|(repeat' split at h)<;>omega
 have hi:o2.toNat<w.chans.length:=by omega
 have hmem:w.chans[o2.toNat]'hi∈w.chans:=YX _;have hco:=hwi.m3 _ hmem;have hgd:w.chans.getD o2.toNat default=w.chans[o2.toNat]'hi:=by simp [hi]
 have TE:=hwi.many;have hmv:=xC hmem;have hky:=hco.keys;have hdo:=Hk ⟨o1,o2,o3,o4⟩ hco;have hset:=xB w.chans o2.toNat (doS (w.chans[o2.toNat]'hi) ⟨o1,o2,o3,o4⟩).1 1 (fun _=>hdo.2);have hD:=s7 (w.chans[o2.toNat]'hi) ⟨o1,o2,o3,o4⟩ (by omega) (by omega);have hV:=Vm.s18 o1 o2 o3 o4 (doS (w.chans[o2.toNat]'hi) ⟨o1,o2,o3,o4⟩).2.1 (doS (w.chans[o2.toNat]'hi) ⟨o1,o2,o3,o4⟩).2.2;have e1:(w.chans.map av)[0+o2.toNat]? = some (av (w.chans[o2.toNat]'hi)):=by simp [hi]
 have hB':=PK c w g.path s ⟨o1,o2,o3,o4⟩ hk;have hcw:=AL w g.path s ⟨o1,o2,o3,o4⟩ hk;have hcv:eD w ⟨o1,o2,o3,o4⟩=Vm.j8 o1 (doS (w.chans[o2.toNat]'hi) ⟨o1,o2,o3,o4⟩).2.1 (doS (w.chans[o2.toNat]'hi) ⟨o1,o2,o3,o4⟩).2.2:=by
  unfold eD lT np;rw [hk,<- hgd];rfl
 have hkc:=hc.maps;have hks:=hc.stacks;have hkh:=hc.chans;have hm1:=hwi.maps;have hm2:=hwi.stacks;have hm3:=hwi.chans;have hB2:hB c (bC w g.path s ⟨o1,o2,o3,o4⟩)=_:=hB';rw [hgd] at hB2;have hfu:gX (bC w g.path s ⟨o1,o2,o3,o4⟩)=decide (1000<0+(bB w.maps:Int)+bB w.stacks+bB (w.chans.set o2.toNat (doS (w.chans[o2.toNat]'hi) ⟨o1,o2,o3,o4⟩).1)):=by
  rw [hcw,hgd];rfl
 rw [hcv] at hgo hx hT;generalize bC w g.path s ⟨o1,o2,o3,o4⟩=W at *;generalize hdd:doS (w.chans[o2.toNat]'hi) ⟨o1,o2,o3,o4⟩=D at *;generalize hxx:w.chans[o2.toNat]'hi=X at *;have hT':=hT.args (ds:=[Vm.bS g,_,.slice 1 [[I (Vm.j8 o1 D.2.1 D.2.2)]] true]) (.cons (.refl _) (.cons (.refl _) (.cons (.slice (.refl _)) (.refl _))));generalize htold:Vm.aU g 3 ab' [Vm.j8 o1 D.2.1 D.2.2]=T at *;obtain ⟨T1,T2⟩:=T;obtain ⟨⟨dk,dks,dvs⟩,dv,dis⟩:=D;obtain ⟨ck,cks,cvs⟩:=X;simp only at hB2 hD hV hset hT' hgo hx hfu
 cases hfl:gX W with
 | false=>
  rw [hfl] at hfu;have hgo:=hgo hfl;have hx:=hx hfl;refine EK s b ab aa ab' o1 o2 o3 o4 T2 _ hN (J5 s o1 o2 o3 o4 dv _ ck dk dis false cks cvs dks dvs hk hop.2.2.1 hob (by simp) e1 hul (by simp) hpl hD hV (ti w.maps w.stacks (w.chans.set o2.toNat ⟨dk,dks,dvs⟩) false (rfl) (rfl) (by simp) (rfl) (rfl) (by simp [Zr,av]) (by omega) (by omega) (by omega) (by omega) hfu.symm)) hT' ?_ ?_
  ·intro h0 st hs
   obtain ⟨h1,h2⟩:=hgo h0;exact ⟨_,h1,h2,by show Weak st (lpS (hB c W) (frC T1) s b ab);rw [hB2];exact hs⟩
  ·intro h0 st hs
   exact hx h0 st (by show Weak st (exS (hB c W) T2);rw [hB2];exact hs)
 | true=>
  rw [hfl] at hfu;refine EL s b ab aa ab' o1 o2 o3 o4 0 hN (J5 s o1 o2 o3 o4 dv _ ck dk dis true cks cvs dks dvs hk hop.2.2.1 hob (by simp) e1 hul (by simp) hpl hD hV (ti w.maps w.stacks (w.chans.set o2.toNat ⟨dk,dks,dvs⟩) true (rfl) (rfl) (by simp) (rfl) (rfl) (by simp [Zr,av]) (by omega) (by omega) (by omega) (by omega) hfu.symm)) ?_;intro st hs;exact hy hfl st (by show Weak st (exS (hB c W) 8);rw [hB2];exact hs)
end Uw.Tryz.El
namespace Uw.Tryz.El
open Go Uw Uw.Tryz
theorem LD (c:Cd) (hc:CO c) (ab:Int) (w0 w:Wd) (f:Vm.Frame) (e:Int) (s b:Int) (hl:Lp c w0 w f) (hn:Vm.cq c f = .err e) (inv:Wd×Vm.Frame×Int×Int->Prop) (mu:Wd×Vm.Frame×Int×Int->Nat) {Q:az->St->Prop}
  (hx:rH c (w,e) Q):WT P0 (cK (SL c ab) inv mu (w,f,s,b) Q) (exec ruB (SL c ab (w,f,s,b)) Tree.done):=by
 have he:e≠0:=by
  rcases Vm.tg hl.right with ⟨e',h1,h2⟩|⟨g,a,h1,_⟩
  ·rw [hn] at h1;injection h1 with h1;subst h1;rcases h2 with rfl|rfl<;>decide
  ·rw [hn] at h1;cases h1
 have hN:=Vm.s21 c f (kU hc hl);rw [hn] at hN;refine VC s b ab 0 0 0 0 0 0 0 e he hN ?_;intro st hs;exact hx st hs
theorem PL (c:Cd) (w:Wd) (g:Vm.Frame) (v s ab:Int) (ht:g.task=1) (hf:g.fail=false):hB c (endW w g v s ab)=wH [.d (.slice 3 (c.am.map bdC) false),.d (ae c.cells),.d (I c.maps),.d (I c.stacks),.d (I c.chans),.d (I c.main)] w.cells.length (bn w.cells) w.maps.length w.maps.length (w.maps.map av) w.stacks.length w.stacks.length (w.stacks.map av) w.chans.length w.chans.length (w.chans.map av) w.uses.length (w.uses.map bA) w.splits.length (w.splits.map iz) w.aB w.values.length w.values.length ((bn w.values).set (0+(g.task - 1).toNat) [I v]) (w.steps+g.spent) w.fails.length w.fails.length (c9 w.fails):=by
 have e2:(1<g.task)=False:=by simp;omega
 have e3:(c9 w.fails).take w.fails.length=c9 w.fails:=i5 (by simp [c9]);simp only [endW,hf,e2,if_true,if_false];simp [bn,Zr,c9]
theorem PN (c:Cd) (w:Wd) (g:Vm.Frame) (v s ab:Int) (ht:g.task=1) (hf:g.fail=true):hB c (endW w g v s ab)=wH [.d (.slice 3 (c.am.map bdC) false),.d (ae c.cells),.d (I c.maps),.d (I c.stacks),.d (I c.chans),.d (I c.main)] w.cells.length (bn w.cells) w.maps.length w.maps.length (w.maps.map av) w.stacks.length w.stacks.length (w.stacks.map av) w.chans.length w.chans.length (w.chans.map av) w.uses.length (w.uses.map bA) w.splits.length (w.splits.map iz) w.aB w.values.length w.values.length ((bn w.values).set (0+(g.task - 1).toNat) [I v]) (w.steps+g.spent) (w.fails.length+1) (w.fails.length+1) ((c9 w.fails).take w.fails.length++[[ae g.path]]):=by
 have e2:(1<g.task)=False:=by simp;omega
 have e3:(c9 w.fails).take w.fails.length=c9 w.fails:=i5 (by simp [c9]);simp only [endW,hf,e2,if_true,if_false,e3];simp [bn,Zr,c9]
theorem PO (c:Cd) (w:Wd) (g:Vm.Frame) (v s ab:Int) (ht:1<g.task) (hf:g.fail=false):hB c (endW w g v s ab)=wH [.d (.slice 3 (c.am.map bdC) false),.d (ae c.cells),.d (I c.maps),.d (I c.stacks),.d (I c.chans),.d (I c.main)] w.cells.length (bn w.cells) w.maps.length w.maps.length (w.maps.map av) w.stacks.length w.stacks.length (w.stacks.map av) w.chans.length w.chans.length (w.chans.map av) w.uses.length (w.uses.map bA) (w.splits.length+1) (w.splits.map iz++[iz ⟨2,s,0,0,ab⟩]) w.aB w.values.length w.values.length ((bn w.values).set (0+(g.task - 1).toNat) [I v]) (w.steps+g.spent) w.fails.length w.fails.length (c9 w.fails):=by
 have e2:(1<g.task)=True:=by simp;omega
 have e3:(c9 w.fails).take w.fails.length=c9 w.fails:=i5 (by simp [c9]);simp only [endW,hf,e2,if_true,if_false];simp [bn,Zr,c9]
theorem PP (c:Cd) (w:Wd) (g:Vm.Frame) (v s ab:Int) (ht:1<g.task) (hf:g.fail=true):hB c (endW w g v s ab)=wH [.d (.slice 3 (c.am.map bdC) false),.d (ae c.cells),.d (I c.maps),.d (I c.stacks),.d (I c.chans),.d (I c.main)] w.cells.length (bn w.cells) w.maps.length w.maps.length (w.maps.map av) w.stacks.length w.stacks.length (w.stacks.map av) w.chans.length w.chans.length (w.chans.map av) w.uses.length (w.uses.map bA) (w.splits.length+1) (w.splits.map iz++[iz ⟨2,s,0,0,ab⟩]) w.aB w.values.length w.values.length ((bn w.values).set (0+(g.task - 1).toNat) [I v]) (w.steps+g.spent) (w.fails.length+1) (w.fails.length+1) ((c9 w.fails).take w.fails.length++[[ae g.path]]):=by
 have e2:(1<g.task)=True:=by simp;omega
 have e3:(c9 w.fails).take w.fails.length=c9 w.fails:=i5 (by simp [c9]);simp only [endW,hf,e2,if_true,if_false,e3];simp [bn,Zr,c9]
theorem LG (c:Cd) (hc:CO c) (ab:Int) (w0 w:Wd) (f g:Vm.Frame) (a:Vm.Ask) (s b:Int) (hl:Lp c w0 w f) (hn:Vm.cq c f = .ok g a) (k1:a.kind=6) (inv:Wd×Vm.Frame×Int×Int->Prop) (mu:Wd×Vm.Frame×Int×Int->Nat) {Q:az->St->Prop}
  (hx:rH c (endW w g a.a s ab,0) Q):WT P0 (cK (SL c ab) inv mu (w,f,s,b) Q) (exec ruB (SL c ab (w,f,s,b)) Tree.done):=by
 obtain ⟨hao,wm,hkept⟩:=bL hl.right hn;have hN:=Vm.s21 c f (kU hc hl);rw [hn] at hN;have hwi:=hl.wi;have htf:Vm.lI g:=lJ hc hl hkept;have hpl:=AE hl hkept;obtain ⟨hul,hsl,hfl,hst,hsp⟩:=AG hwi;have g1:1<=g.task:=by rw [wm];exact hl.J8
 have g2:g.task<=w.values.length:=by rw [wm];exact hl.task1
 have g3:=hkept.good.sp0;have g4:=hkept.good.sp1;have hv64:=hwi.vals;have hs0:=hwi.st0;have e1:(bn w.values)[0+(g.task - 1).toNat]? = some [I (w.values.getD (g.task - 1).toNat 0)]:=by
  have h1:(g.task - 1).toNat<w.values.length:=by omega
  have h2:g.task.toNat - 1<w.values.length:=by omega
  simp [bn,h1,h2]
 obtain ⟨ak,aa,ab',⟨o1,o2,o3,o4⟩,aargs⟩:=a;simp only at k1 hx;subst k1;have b00:=PL c w g aa s ab;have b01:=PN c w g aa s ab;have b10:=PO c w g aa s ab;have b11:=PP c w g aa s ab;generalize hW:endW w g aa s ab=W at *;obtain ⟨gt,gp,gfn,gpc,gl,gs,gk,gm,gsp,gfl⟩:=g;simp only at g1 g2 g3 g4 e1 hpl b00 b01 b10 b11;have g5:gsp<1000000:=by omega
 by_cases ht:1<gt
 ·cases gfl with
  | false=>
   refine EM s b ab aa ab' o1 o2 o3 o4 0 hN (RJ aa _ s ab ht g2 (by simp [bn]) (by omega) e1 hsl (by simp) hs0 hsp g3 g5 hpl hfl (by simp [c9])) ?_;intro st hs;exact hx st (by show Weak st (exS (hB c W) 0);rw [b10 ht rfl];exact hs)
  | true=>
   refine EM s b ab aa ab' o1 o2 o3 o4 0 hN (RL aa _ s ab ht g2 (by simp [bn]) (by omega) e1 hsl (by simp) hs0 hsp g3 g5 hpl hfl (by simp [c9])) ?_;intro st hs;exact hx st (by show Weak st (exS (hB c W) 0);rw [b11 ht rfl];exact hs)
 ·have ht:gt=1:=by omega
  cases gfl with
  | false=>
   refine EM s b ab aa ab' o1 o2 o3 o4 0 hN (RG aa _ s ab ht g2 (by simp [bn]) (by omega) e1 hsl (by simp) hs0 hsp g3 g5 hpl hfl (by simp [c9])) ?_;intro st hs;exact hx st (by show Weak st (exS (hB c W) 0);rw [b00 ht rfl];exact hs)
  | true=>
   refine EM s b ab aa ab' o1 o2 o3 o4 0 hN (RH aa _ s ab ht g2 (by simp [bn]) (by omega) e1 hsl (by simp) hs0 hsp g3 g5 hpl hfl (by simp [c9])) ?_;intro st hs;exact hx st (by show Weak st (exS (hB c W) 0);rw [b01 ht rfl];exact hs)
theorem SD (c:Cd) (w:Wd) (ks:List (Int×Int)) (s b:Int) (hk:ks≠[]):hB c (j9 w ks s b).1=wH [.d (.slice 3 (c.am.map bdC) false),.d (ae c.cells),.d (I c.maps),.d (I c.stacks),.d (I c.chans),.d (I c.main)] w.cells.length (bn w.cells) w.maps.length w.maps.length (w.maps.map av) w.stacks.length w.stacks.length (w.stacks.map av) w.chans.length w.chans.length (w.chans.map av) w.uses.length (w.uses.map bA) (w.splits.length+1) (w.splits.map iz++[iz ⟨3,s,0,0,b⟩]) w.aB w.values.length w.values.length (bn w.values) w.steps w.fails.length w.fails.length (c9 w.fails):=by
 simp [j9,hk]
theorem I4 (c:Cd) (hc:CO c) (ab:Int) (w0 w:Wd) (f g:Vm.Frame) (a:Vm.Ask) (s b:Int) (hl:Lp c w0 w f) (hn:Vm.cq c f = .ok g a) (k1:a.kind=5) (inv:Wd×Vm.Frame×Int×Int->Prop) (mu:Wd×Vm.Frame×Int×Int->Nat) {Q:az->St->Prop}
  (hgo:(Vm.aU g 5 a.b (dL w g.kids)).2=0->inv ((j9 w g.kids s b).1,(Vm.aU g 5 a.b (dL w g.kids)).1,b,b)/\mu ((j9 w g.kids s b).1,(Vm.aU g 5 a.b (dL w g.kids)).1,b,b)<mu (w,f,s,b))
  (hx:(Vm.aU g 5 a.b (dL w g.kids)).2≠0->rH c ((j9 w g.kids s b).1,(Vm.aU g 5 a.b (dL w g.kids)).2) Q) :
  WT P0 (cK (SL c ab) inv mu (w,f,s,b) Q) (exec ruB (SL c ab (w,f,s,b)) Tree.done):=by
 obtain ⟨hao,wm,hkept⟩:=bL hl.right hn;have hN:=Vm.s21 c f (kU hc hl);rw [hn] at hN;have hwi:=hl.wi;have htf:Vm.lI g:=lJ hc hl hkept;have hpl:=AE hl hkept;obtain ⟨hul,hsl,hfl,hst,hsp⟩:=AG hwi;have hkk:=htf.kids;have hT:=Vm.I0 g a (dL w g.kids) htf (by simp [dL];exact hkk);have hne:=hkept.wait k1;have hkids:∀k∈g.kids,1<=k.1/\k.1<=(w.values.length:Int):=by rw [hkept.kids];exact hl.kids
 have hv64:=hwi.vals;obtain ⟨ak,aa,ab',⟨o1,o2,o3,o4⟩,aargs⟩:=a;simp only at k1;subst k1;simp only at hgo hx hT;have hlen:(dL w g.kids).length=g.kids.length:=by simp [dL]
 have hat:∀(j:Nat) (h:j<g.kids.length),1<=g.kids[j].1/\g.kids[j].1<=(w.values.length:Nat)/\(bn w.values)[0+(g.kids[j].1 - 1).toNat]? = some [I ((dL w g.kids).getD j 0)]:=by
  intro j h;have h1:=hkids _ (YX h);refine ⟨h1.1,h1.2,?_⟩;have h2:(g.kids[j].1 - 1).toNat<w.values.length:=by omega
  have h3:g.kids[j].1.toNat - 1<w.values.length:=by omega
  simp [bn,dL,h2,h3,h]
 have hrow:((bn (dL w g.kids)).drop 0).take g.kids.length=bn (dL w g.kids):=by
  rw [YY];exact i5 (by simp [bn,dL])
 have hB':=SD c w g.kids s b hne;generalize hW:(j9 w g.kids s b).1=W at *;have hT':=hT.args (ds:=[Vm.bS g,_,.slice 1 (((bn (dL w g.kids)).drop 0).take g.kids.length) false]) (.cons (.refl _) (.cons (.refl _) (.cons (by rw [hrow];exact .refl _) (.refl _))));generalize htold:Vm.aU g 5 ab' (dL w g.kids)=T at *;obtain ⟨T1,T2⟩:=T;refine RO b _ g.kids.length _ s b ab aa ab' o1 o2 o3 o4 T2 hN (RF g.kids (dL w g.kids) hkk hat hlen (by simp [bn]) (by omega)) (RE s b (g.kids.map Vm.fL) (by simpa using hne) hsl (by simp)) hT' ?_ ?_
 ·intro h0 st hs
  obtain ⟨h1,h2⟩:=hgo h0;exact ⟨_,h1,h2,by show Weak st (lpS (hB c W) (frC T1) b b ab);rw [hB'];exact hs⟩
 ·intro h0 st hs
  exact hx h0 st (by show Weak st (exS (hB c W) T2);rw [hB'];exact hs)
end Uw.Tryz.El
namespace Uw.Tryz.El
open Go Uw Uw.Tryz
variable {C1 C2 C3 C4 C5 C6 : Dat} {xc : Nat} {rc : List (List Dat)} {gm xm : Nat} {rm : List (List Dat)} {gs xs : Nat} {rs : List (List Dat)} {gc xh : Nat} {rh : List (List Dat)} {xu : Nat} {ru : List (List Dat)} {xp : Nat} {rp : List (List Dat)} {st : Int} {gv xv : Nat} {rv : List (List Dat)} {sp : Int} {gf xf : Nat} {rf : List (List Dat)}
 {f1 f3 f4 f8 f9:Int} {f5 f6 f7:Dat} {f10:Bool} {p:List Int} {t1 t3 t4 t8 t9:Int} {tp l1 l2:List Int} {lk:List (List Dat)} {t10:Bool} {z1 z3 z4 z8 z9:Int} {z10:Bool} {Q:az->St->Prop}
theorem VF (qs:List (List Dat)) (aJ block above a2 a3 a4 a5 a6 a7 e:Int) (he:e≠0)
  (hn:Ret P0 eG [.agg [C1,C2,C3,C4,C5,C6],.agg [I f1,ae p,I f3,I f4,f5,f6,f7,I f8,I f9,.bool f10]] (.tuple [.agg [I t1,ae tp,I t3,I t4,ae l1,ae l2,.slice 2 lk false,I t8,I t9,.bool t10],.agg [I 4,I a2,I a3,I a4,I a5,I a6,I a7,.slice 1 qs false],I 0]))
  (hc:eM P0 dq [.ptr 0 0,.agg [.d (I t1),.d (ae tp),.d (I t3),.d (I t4),.d (ae l1),.d (ae l2),.d (.slice 2 lk false),.d (I t8),.d (I t9),.d (.bool t10)],.agg [.d (I 4),.d (I a2),.d (I a3),.d (I a4),.d (I a5),.d (I a6),.d (I a7),.d (.slice 1 qs false)]] (wG [.d C1,.d C2,.d C3,.d C4,.d C5,.d C6] xc rc gm xm rm gs xs rs gc xh rh xu ru xp rp st gv xv rv sp gf xf rf) (.tuple [.agg [.d (I z1),.d .nil,.d (I z3),.d (I z4),.d .nil,.d .nil,.d .nil,.d (I z8),.d (I z9),.d (.bool z10)],.d (I e)]) (wG [.d C1,.d C2,.d C3,.d C4,.d C5,.d C6] xc rc gm xm rm gs xs rs gc xh rh xu ru xp rp st gv xv rv sp gf xf rf))
  (hX:∀s,Weak s (exS (wH [.d C1,.d C2,.d C3,.d C4,.d C5,.d C6] xc rc gm xm rm gs xs rs gc xh rh xu ru xp rp st gv xv rv sp gf xf rf) e)->Q (.exit 0) s) :
  WT P0 Q (exec ruB (lpS (wH [.d C1,.d C2,.d C3,.d C4,.d C5,.d C6] xc rc gm xm rm gs xs rs gc xh rh xu ru xp rp st gv xv rv sp gf xf rf) [.d (I f1),.d (ae p),.d (I f3),.d (I f4),.d f5,.d f6,.d f7,.d (I f8),.d (I f9),.d (.bool f10)] aJ block above) Tree.done):=by
 repeat refine aw ?_
 refine eE 15 [3,4,5,6,7,8,9,10,11] hc ?_
 repeat refine aw ?_
 exact ai (hX _ (by exact Uw.wM))
theorem SE (c:Cd) (w:Wd) (s b:Int) (n:Bool):hB c (cC w s b n)=wH [.d (.slice 3 (c.am.map bdC) false),.d (ae c.cells),.d (I c.maps),.d (I c.stacks),.d (I c.chans),.d (I c.main)] w.cells.length (bn w.cells) w.maps.length w.maps.length (w.maps.map av) w.stacks.length w.stacks.length (w.stacks.map av) w.chans.length w.chans.length (w.chans.map av) w.uses.length (w.uses.map bA) (w.splits.length+1) (w.splits.map iz++[iz ⟨1,s,w.aB,w.aB+1,if n then b else w.aB+2⟩]) (if n then w.aB+2 else w.aB+3) w.values.length w.values.length (bn w.values) w.steps w.fails.length w.fails.length (c9 w.fails):=by
 simp [cC,Po]
abbrev dV (c:Cd) (w:Wd) (g:Vm.Frame) (a:Vm.Ask):Vm.Frame×Int:=Vm.c6 c a.a a.args ((w.values.length:Nat)+1) (g.path++[g.many])
theorem Hq (c:Cd) (hc:CO c) (ab:Int) (w0 w:Wd) (f g:Vm.Frame) (a:Vm.Ask) (s b:Int) (hl:Lp c w0 w f) (hn:Vm.cq c f = .ok g a) (k1:a.kind=4) (hargs:a.args.length<1000) (R:Wd×Int) (inv:Wd×Vm.Frame×Int×Int->Prop) (mu:Wd×Vm.Frame×Int×Int->Nat) {Q:az->St->Prop}
  (hz:64<=w.values.length->rH c (w,10) Q)
  (he:w.values.length<64->(dV c w g a).2≠0->rH c (w,(dV c w g a).2) Q)
  (hrec:w.values.length<64->(dV c w g a).2=0->eM P0 eh [.agg (frC (dV c w g a).1),.d (I w.aB),.d (I (if isNamed g then b else w.aB+2)),.ptr 0 0,.ptr 1 0,.ptr 2 0] (hB c (cC w s b (isNamed g))) (.d (I R.2)) (hB c R.1))
  (hy:w.values.length<64->(dV c w g a).2=0->R.2≠0->rH c R Q)
  (hgo:w.values.length<64->(dV c w g a).2=0->R.2=0->(Vm.aU g 4 a.b [(dV c w g a).1.task]).2=0->inv (R.1,(Vm.aU g 4 a.b [(dV c w g a).1.task]).1,w.aB+1,(if isNamed g then b else w.aB+2))/\mu (R.1,(Vm.aU g 4 a.b [(dV c w g a).1.task]).1,w.aB+1,(if isNamed g then b else w.aB+2))<mu (w,f,s,b))
  (hx:w.values.length<64->(dV c w g a).2=0->R.2=0->(Vm.aU g 4 a.b [(dV c w g a).1.task]).2≠0->rH c (R.1,(Vm.aU g 4 a.b [(dV c w g a).1.task]).2) Q) :
  WT P0 (cK (SL c ab) inv mu (w,f,s,b) Q) (exec ruB (SL c ab (w,f,s,b)) Tree.done):=by
 obtain ⟨hao,wm,hkept⟩:=bL hl.right hn;have hN:=Vm.s21 c f (kU hc hl);rw [hn] at hN;have hwi:=hl.wi;have htf:Vm.lI g:=lJ hc hl hkept;have hpl:=AE hl hkept;obtain ⟨hul,hsl,hfl,hst,hsp⟩:=AG hwi;have hpa:=htf.path;have hs0:=hwi.I2;have hT:=Vm.I0 g a [(dV c w g a).1.task] htf (by simp);have hCh:=Vm.s14 g hpa;have hpw:g.path.length<999:=by have h1:=hl.path;have h2:=hwi.vals;obtain ⟨V,h3,_⟩:=hl.adds;rw [hkept.path];omega
 have hSt:=Vm.s12 c a.a a.args ((w.values.length:Nat)+1) (g.path++[g.many]) hc.am hc.pK hargs (by simp;omega);have hBf:=SE c w s b (isNamed g);obtain ⟨ak,aa,ab',⟨o1,o2,o3,o4⟩,aargs⟩:=a;simp only at k1 hargs;subst k1;simp only [dV] at hz he hrec hy hgo hx hT hSt;by_cases h64:64<=w.values.length
 ·refine VF _ s b ab aa ab' o1 o2 o3 o4 10 (by decide) hN (Pq 4 aa ab' o1 o2 o3 o4 _ h64) ?_
  intro st hs;exact hz h64 st hs
 have h64:w.values.length<64:=by omega
 have he:=he h64;have hrec:=hrec h64;have hy:=hy h64;have hgo:=hgo h64;have hx:=hx h64;generalize hK:Vm.c6 c aa aargs ((w.values.length:Nat)+1) (g.path++[g.many])=K at *;obtain ⟨K1,K2⟩:=K;simp only at he hrec hy hgo hx;by_cases hk0:K2=0
 ·subst hk0
  have hrec:=hrec rfl;have hy:=hy rfl;have hgo:=hgo rfl;have hx:=hx rfl;generalize hW:cC w s b (isNamed g)=F at *;rw [hBf] at hrec;obtain ⟨W,er⟩:=R;simp only at hrec hy hgo hx;have hT':=hT.args (ds:=[Vm.bS g,_,.slice 1 [[I K1.task]] true]) (.cons (.refl _) (.cons (.refl _) (.cons (.slice (.refl _)) (.refl _))));generalize htold:Vm.aU g 4 ab' [K1.task]=T at *;obtain ⟨T1,T2⟩:=T;refine VE w.aB (w.aB+1) (if isNamed g then b else w.aB+2) er _ s b ab aa ab' o1 o2 o3 o4 T2 hN (He 4 aa ab' o1 o2 o3 o4 _ _ _ _ _ _ _ _ _ _ _ _ _ h64 hCh hSt) (VA s b (isNamed g) hsl (by simp) hs0 hst) hrec (fun _=>hT') ?_ ?_ ?_
  ·intro h0 h1 st hs
   obtain ⟨h2,h3⟩:=hgo h0 h1;exact ⟨_,h2,h3,hs⟩
  ·intro h0 h1 st hs
   exact hx h0 h1 st hs
  ·intro h0 st hs
   exact hy h0 st hs
 ·refine VD _ s b ab aa ab' o1 o2 o3 o4 K2 hk0 hN (He 4 aa ab' o1 o2 o3 o4 _ _ _ _ _ _ _ _ _ _ _ _ _ h64 hCh hSt) ?_
  intro st hs;exact he hk0 st hs
end Uw.Tryz.El
namespace Uw.Tryz.El
open Go Uw Uw.Tryz
theorem LI {c:Cd} {b:Bd} {f g:Vm.Frame} {i:In4} {a:Vm.Ask} (hs:Vm.stepS c b f i=some (g,a)):a.args.length<=f.stack.length:=by
 have fin:∀{op},Vm.aV op f=some (g,a)->a.args.length<=f.stack.length:=by
  intro op hs;simp only [Vm.aV] at hs
  split at hs
  ·simp at hs;obtain ⟨rfl,rfl⟩:=hs;simp [Vm.aI]
  ·simp at hs
 revert hs
 refine Vm.kG (fun o=>o=some (g,a)->a.args.length<=f.stack.length) ?_ ?_ ?_ ?_ ?_ (fun _=>fin) (fun _=>fin) (fun _=>fin) (fun _=>fin) (fun _=>fin) ?_ ?_ ?_ ?_ ?_ ?_ ?_ ?_ (fun _=>fin) ?_
 all_goals intro ho hs
 ·simp only [Vm.kt] at hs;split at hs<;>simp at hs;obtain ⟨rfl,rfl⟩:=hs;simp [Vm.aI]
 ·simp only [Vm.fM] at hs;repeat' split at hs
  all_goals first|(simp at hs;done)|(simp at hs;obtain ⟨rfl,rfl⟩:=hs;simp [Vm.aI])
 ·simp only [Vm.rG] at hs;repeat' split at hs
  all_goals first|(simp at hs;done)|(simp at hs;obtain ⟨rfl,rfl⟩:=hs;simp [Vm.aI])
 ·simp only [Vm.pq] at hs;split at hs<;>simp at hs;obtain ⟨rfl,rfl⟩:=hs;simp [Vm.aI]
 ·simp only [Vm.ig] at hs;split at hs<;>simp at hs;obtain ⟨rfl,rfl⟩:=hs;simp [Vm.aI]
 ·simp only [Vm.fR] at hs;split at hs<;>simp at hs;obtain ⟨rfl,rfl⟩:=hs;simp [Vm.aI]
 ·simp only [Vm.pv] at hs;split at hs<;>simp at hs;obtain ⟨rfl,rfl⟩:=hs;simp [Vm.aI]
 ·simp only [Vm.cM] at hs;split at hs
  ·simp at hs;obtain ⟨rfl,rfl⟩:=hs;simp [Vm.dS]
  ·simp at hs
 ·simp only [Vm.jW] at hs;split at hs<;>simp at hs<;>obtain ⟨rfl,rfl⟩:=hs<;>simp [Vm.aI]
 ·simp only [Vm.px] at hs;split at hs<;>simp at hs;obtain ⟨rfl,rfl⟩:=hs;simp [Vm.aI]
 ·simp only [Vm.ku] at hs;repeat' split at hs
  all_goals first|(simp at hs;done)|(simp at hs;obtain ⟨rfl,rfl⟩:=hs;simp [Vm.aI])
 ·simp only [Vm.tC] at hs;repeat' split at hs
  all_goals first|(simp at hs;done)|(simp at hs;obtain ⟨rfl,rfl⟩:=hs;simp [Vm.aI])
 ·simp only [Vm.dD] at hs;split at hs<;>simp at hs;obtain ⟨rfl,rfl⟩:=hs;simp [Vm.aI]
 ·simp at hs
theorem Hr (c:Cd) (b:Bd):∀(n:Nat) (f:Vm.Frame),Vm.Good c b f->∀g a,Vm.runN c b n f = .ok g a->a.args.length<=100
 | 0,f,h=>by simp [Vm.runN]
 | n+1,f,h=>by
  intro g a hr;rw [Vm.runN] at hr
  split at hr
  ·simp at hr
  split at hr
  ·simp at hr
  rename_i hsp hpc;have dE : 0<=f.pc/\f.pc<b.ins.length:=by simpa [Vm.below] using hpc
  have hsp' : f.spent<2000:=by have:=h.sp1;omega
  cases hs:Vm.stepS c b f (Vm.cm b f) with
  | none=>rw [hs] at hr;simp at hr
  | some p=>
   obtain ⟨g1,a1⟩:=p;rw [hs] at hr;have hg:=h.step dE.2 hsp' hs;simp only [] at hr;by_cases hk:a1.kind=0
   ·rw [if_pos hk] at hr
    exact Hr c b n g1 hg g a hr
   ·rw [if_neg hk] at hr
    simp at hr;obtain ⟨rfl,rfl⟩:=hr;have:=LI hs;have:=h.stack;omega
theorem LJ {c:Cd} {f g:Vm.Frame} {a:Vm.Ask} (hr:Vm.right c f=true) (h:Vm.cq c f = .ok g a):a.args.length<=100:=by
 have hn:Vm.runN c (Vm.dm c f) (Vm.cn f) f = .ok g a:=by
  rw [Vm.cq,if_pos hr] at h;exact h
 exact Hr c _ _ f (Vm.Good.of hr) g a hn
theorem iW {c:Cd} {fn:Int} {args:List Int} {task:Int} {path:List Int} (h:(Vm.c6 c fn args task path).2=0) :
  (Vm.c6 c fn args task path).1=Vm.gq c fn args task path/\Vm.right c (Vm.gq c fn args task path)=true:=by
 unfold Vm.c6 at h ⊢
 split at h
 ·rename_i ho
  rw [if_pos ho];refine ⟨rfl,?_⟩;unfold Vm.nk at ho;simp only [i9,ZC,decide_eq_true_eq,decide_eq_false_iff_not] at ho;obtain ⟨⟨⟨⟨h1,h2⟩,h3⟩,h4⟩,h5⟩:=ho;have hb:0<=fn/\fn<c.am.length:=by simpa [Vm.below] using h1
  refine Vm.Good.right (b:=Vm.Ag c fn) ⟨by show 1<=task;omega,hb.1,hb.2,rfl,aar 0,by show (0:Int)<=_;omega,?_,by simp [Vm.gq],by simp [Vm.gq],⟨?_,rfl⟩,aar 0,aar 0,by show (0:Int)<=2000;decide⟩
  ·simp only [Vm.gq,Zs,aaA];omega
  ·simp only [Vm.gq,aaY,h3,Zb]
   exact YW.2 (fun x hx=>by rw [Ze hx];rfl)
 ·simp at h
theorem qZ {g:Vm.Frame} {k b:Int} {v:List Int} (h:(Vm.aU g k b v).2=0):Vm.lS g k b v=true/\(Vm.aU g k b v).1=Vm.ky g k b v:=by
 unfold Vm.aU at h ⊢
 split at h
 ·rename_i ho;rw [if_pos ho];exact ⟨ho,rfl⟩
 ·simp at h
structure WS (c:Cd) (w:Wd):Prop where
 cells:w.cells.length=c.cells.length
 maps:(w.maps.length:Int)=c.maps
 stacks:(w.stacks.length:Int)=c.stacks
 chans:(w.chans.length:Int)=c.chans
 m1:∀x∈w.maps,gw 1 x
 m2:∀x∈w.stacks,gw 2 x
 m3:∀x∈w.chans,gw 3 x
 many:bB w.maps+bB w.stacks+bB w.chans<=1000
 vals:w.values.length<=64
theorem WI.ws {c:Cd} {w:Wd} (h:WI c w):WS c w:=⟨h.cells,h.maps,h.stacks,h.chans,h.m1,h.m2,h.m3,h.many,h.vals⟩
theorem J9 {c:Cd} {w0 w:Wd} {f:Vm.Frame} (h0:WI c w0) (ws:WS c w) (r:Vm.right c f=true) (t0:1<=f.task) (t1:f.task<=w.values.length) (p:f.path.length<=w0.values.length) (m:0<=f.many/\f.many<=(w.values.length:Int))
  (k:∀k∈f.kids,1<=k.1/\k.1<=(w.values.length:Int))
  (V:Nat) (a1:w0.values.length+1+V=w.values.length) (a2:f.kids.length<=V) (a3:w.uses.length<=w0.uses.length+2000 * V+f.spent.toNat) (a4:w.splits.length+(if f.kids=[] then 0 else 1)<=w0.splits.length+4001 * V+2 * f.spent.toNat) (a5:w.fails.length<=w0.fails.length+V) (a6:w0.aB<=w.aB) (a7:w.aB<=w0.aB+3 * (V:Int)) (a8:w0.steps<=w.steps) (a9:w.steps<=w0.steps+2000 * (V:Int)):Lp c w0 w f:=by
 have g:=Vm.Good.of r;have g1:=g.sp0;have g2:=g.sp1;have b1:=h0.uses;have b2:=h0.splits;have b3:=h0.fails;have b4:=h0.I2;have b5:=h0.str1;have b6:=h0.st0;have b7:=h0.st1;exact ⟨⟨ws.cells,ws.maps,ws.stacks,ws.chans,ws.m1,ws.m2,ws.m3,ws.many,ws.vals,by omega,by omega,by omega,by omega,by omega,by omega,by omega⟩,r,t0,t1,p,m,k,V,a1,a2,a3,a4,a5,a6,a7,a8,a9⟩
theorem AO {c:Cd} {w0 w w' : Wd} {f g f' : Vm.Frame} {a:Vm.Ask} (h0:WI c w0) (hl:Lp c w0 w f) (hk:Vm.Kept c (Vm.dm c f) f g a) (ht:g.task=f.task) (k5:a.kind≠5)
  (ws:WS c w') (r:Vm.right c f' = true) (e1:f'.task=g.task) (e2:f'.path=g.path) (e3:f'.many=g.many) (e4:f'.kids=g.kids) (e5:f'.spent=g.spent)
  (w1:w'.values.length=w.values.length) (w2:w'.uses.length=w.uses.length+1) (w3:w'.splits.length=w.splits.length) (w4:w'.fails.length=w.fails.length) (w5:w'.aB=w.aB) (w6:w'.steps=w.steps):Lp c w0 w' f':=by
 obtain ⟨V,a1,a2,a3,a4,a5,a6,a7,a8,a9⟩:=hl.adds;have l1:=hk.lt k5;have g0:=(Vm.Good.of hl.right).sp0;have kk:f'.kids=f.kids:=e4.trans hk.kids;refine J9 h0 ws r (by rw [e1,ht];exact hl.J8) (by rw [e1,ht,w1];exact hl.task1) (by rw [e2,hk.path];exact hl.path) (by rw [e3,hk.many,w1];exact hl.many) (by rw [kk,w1];exact hl.kids) V (by omega) (by rw [kk];exact a2) (by rw [e5];omega) (by rw [kk,e5,w3];omega) (by omega) (by omega) (by omega) (by omega) (by omega)
theorem EN {c:Cd} {w0 w:Wd} {f g:Vm.Frame} {a:Vm.Ask} {s:Int} (h0:WI c w0) (hl:Lp c w0 w f) (hn:Vm.cq c f = .ok g a) (k1:a.kind=1) {v:Int} (h:(Vm.aU g 1 a.b [v]).2=0) :
  Lp c w0 (pz w g.path s a.a) (Vm.aU g 1 a.b [v]).1:=by
 obtain ⟨hao,ht,hk⟩:=bL hl.right hn;obtain ⟨o,e⟩:=qZ h;rw [e];simp [Vm.lS] at o;refine AO h0 hl hk ht (by omega) ?_ (hk.good.put (by simpa using o.1) o.2).right rfl rfl rfl rfl rfl rfl (by simp [pz]) rfl rfl rfl rfl;have x:=hl.wi;exact ⟨x.cells,x.maps,x.stacks,x.chans,x.m1,x.m2,x.m3,x.many,x.vals⟩
theorem AP {c:Cd} {w0 w:Wd} {f g:Vm.Frame} {a:Vm.Ask} {s:Int} (h0:WI c w0) (hl:Lp c w0 w f) (hn:Vm.cq c f = .ok g a) (k1:a.kind=2) (h:(Vm.aU g 2 a.b []).2=0) :
  Lp c w0 (iV w g.path s a.a a.b) (Vm.aU g 2 a.b []).1:=by
 obtain ⟨hao,ht,hk⟩:=bL hl.right hn;obtain ⟨o,e⟩:=qZ h;rw [e];refine AO h0 hl hk ht (by omega) ?_ hk.good.right rfl rfl rfl rfl rfl rfl (by simp [iV]) rfl rfl rfl rfl;have x:=hl.wi;exact ⟨by simp [iV,x.cells],x.maps,x.stacks,x.chans,x.m1,x.m2,x.m3,x.many,x.vals⟩
theorem mem_set {k:Int} {l:List Cont} {i:Nat} {y:Cont} (h:∀x∈l,gw k x) (hy:i<l.length->gw k y):∀x∈l.set i y,gw k x:=by
 intro x hx
 rcases Zh hx with h1|h1
 ·exact h x h1
 ·subst h1
  by_cases hi:i<l.length
  ·exact hy hi
  ·rw [abb (by omega)] at hx;exact h _ hx
theorem EO {c:Cd} {w0 w:Wd} {f g:Vm.Frame} {a:Vm.Ask} {s:Int} (h0:WI c w0) (hl:Lp c w0 w f) (hn:Vm.cq c f = .ok g a) (k1:a.kind=3) (hf:gX (bC w g.path s (opA a))=false) {v:Int} (h:(Vm.aU g 3 a.b [v]).2=0) :
  Lp c w0 (bC w g.path s (opA a)) (Vm.aU g 3 a.b [v]).1:=by
 obtain ⟨hao,ht,hk⟩:=bL hl.right hn;obtain ⟨o,e⟩:=qZ h;rw [e];simp [Vm.lS] at o;have hop:=hao.op k1;have hfu:bB (bC w g.path s (opA a)).maps+bB (bC w g.path s (opA a)).stacks+bB (bC w g.path s (opA a)).chans<=1000:=by
  have:=of_decide_eq_false hf;omega
 have x:=hl.wi;have hkk:ofK (opA a).kind=1\/ofK (opA a).kind=2\/ofK (opA a).kind=3:=by
  show ofK a.op.1=1\/ofK a.op.1=2\/ofK a.op.1=3;unfold ofK
  repeat' split
  all_goals omega
 have gd:∀{k:Int} {l:List Cont},(∀x∈l,gw k x)->(opA a).obj.toNat<l.length->gw k (doS (l.getD (opA a).obj.toNat default) (opA a)).1:=by
  intro k l hx hi;have e:l.getD (opA a).obj.toNat default=l[(opA a).obj.toNat]'hi:=by simp [hi]
  rw [e];exact (Hk _ (hx _ (YX _))).1
 rcases hkk with q|q|q
 ·rw [AH w g.path s (opA a) q] at hfu ⊢
  refine AO h0 hl hk ht (by omega) ?_ (hk.good.put (by simpa using o.1) o.2).right rfl rfl rfl rfl rfl rfl (by simp) rfl rfl rfl rfl;exact ⟨x.cells,by simpa using x.maps,x.stacks,x.chans,mem_set x.m1 (gd x.m1),x.m2,x.m3,hfu,x.vals⟩
 ·rw [AK w g.path s (opA a) q] at hfu ⊢
  refine AO h0 hl hk ht (by omega) ?_ (hk.good.put (by simpa using o.1) o.2).right rfl rfl rfl rfl rfl rfl (by simp) rfl rfl rfl rfl;exact ⟨x.cells,x.maps,by simpa using x.stacks,x.chans,x.m1,mem_set x.m2 (gd x.m2),x.m3,hfu,x.vals⟩
 ·rw [AL w g.path s (opA a) q] at hfu ⊢
  refine AO h0 hl hk ht (by omega) ?_ (hk.good.put (by simpa using o.1) o.2).right rfl rfl rfl rfl rfl rfl (by simp) rfl rfl rfl rfl;exact ⟨x.cells,x.maps,x.stacks,by simpa using x.chans,x.m1,x.m2,mem_set x.m3 (gd x.m3),hfu,x.vals⟩
theorem EP {c:Cd} {w0 w:Wd} {f g:Vm.Frame} {a:Vm.Ask} {s b:Int} (h0:WI c w0) (hl:Lp c w0 w f) (hn:Vm.cq c f = .ok g a) (k1:a.kind=5) (h:(Vm.aU g 5 a.b (dL w g.kids)).2=0) :
  Lp c w0 (j9 w g.kids s b).1 (Vm.aU g 5 a.b (dL w g.kids)).1:=by
 obtain ⟨hao,ht,hk⟩:=bL hl.right hn;obtain ⟨o,e⟩:=qZ h;rw [e];simp [Vm.lS] at o;have hne:=hk.wait k1;have hfk:f.kids≠[]:=by rw [<- hk.kids];exact hne
 obtain ⟨V,a1,a2,a3,a4,a5,a6,a7,a8,a9⟩:=hl.adds;rw [if_neg hfk] at a4;have l1:=hk.le;have g0:=(Vm.Good.of hl.right).sp0;have ej:(j9 w g.kids s b).1={ w with splits:=w.splits++[⟨3,s,0,0,b⟩] }:=by simp [j9,hne]
 rw [ej];have x:=hl.wi;refine J9 h0 ⟨x.cells,x.maps,x.stacks,x.chans,x.m1,x.m2,x.m3,x.many,x.vals⟩ (hk.good.sync (vals:=dL w g.kids) (by simpa using o.1.2)).right (by show 1<=g.task;rw [ht];exact hl.J8) (by show g.task<=_;rw [ht];exact hl.task1) (by show g.path.length<=_;rw [hk.path];exact hl.path) (by show 0<=g.many/\g.many<=_;rw [hk.many];exact hl.many) (by intro k hk;simp [Vm.ky] at hk) V a1 (by simp [Vm.ky]) ?_ ?_ a5 a6 a7 a8 a9
 ·show w.uses.length<=w0.uses.length+2000 * V+g.spent.toNat
  omega
 ·simp only [Vm.ky,Zs,Y7,ZK]
  show w.splits.length+(0+1)+_<=w0.splits.length+4001 * V+2 * g.spent.toNat;simp;omega
theorem Ko {c:Cd} {w0 w:Wd} {f g:Vm.Frame} {a:Vm.Ask} {s b:Int} {n:Bool} (h0:WI c w0) (hl:Lp c w0 w f) (hn:Vm.cq c f = .ok g a) (k1:a.kind=4):WI c (cC w s b n):=by
 obtain ⟨hao,ht,hk⟩:=bL hl.right hn;obtain ⟨V,a1,a2,a3,a4,a5,a6,a7,a8,a9⟩:=hl.adds;have x:=hl.wi;have l1:=hk.lt (by omega);have g0:=(Vm.Good.of hl.right).sp0;have g1:=hk.good.sp1;have b1:=h0.uses;have b2:=h0.splits;have b3:=h0.fails;have b4:=h0.I2;have b5:=h0.str1;have b6:=h0.st0;have b7:=h0.st1;have e1:(cC w s b n).splits.length=w.splits.length+1:=by simp [cC]
 have e2:w.aB<=(cC w s b n).aB/\(cC w s b n).aB<=w.aB+3:=by
  simp only [cC];split<;>omega
 have x1:=x.I2;have e3:(cC w s b n).values.length=w.values.length:=rfl;exact ⟨x.cells,x.maps,x.stacks,x.chans,x.m1,x.m2,x.m3,x.many,x.vals,x.uses,by omega,x.fails,by omega,by omega,x.st0,x.st1⟩
theorem AQ {c:Cd} {w0 w W:Wd} {f g:Vm.Frame} {a:Vm.Ask} {s b:Int} {n:Bool} {t:Int} (h0:WI c w0) (hl:Lp c w0 w f) (hn:Vm.cq c f = .ok g a) (k1:a.kind=4) (hd:Done c (cC w s b n) W) (htk:t=(w.values.length:Int)+1) (h:(Vm.aU g 4 a.b [t]).2=0) :
  Lp c w0 W (Vm.aU g 4 a.b [t]).1:=by
 obtain ⟨hao,ht,hk⟩:=bL hl.right hn;obtain ⟨o,e⟩:=qZ h;rw [e];simp [Vm.lS] at o;obtain ⟨V,a1,a2,a3,a4,a5,a6,a7,a8,a9⟩:=hl.adds;obtain ⟨U,d1,d2,d3,d4,d5,d6,d7,d8⟩:=hd.adds;have l1:=hk.lt (by omega);have g0:=(Vm.Good.of hl.right).sp0;have g1:=hk.good.sp1;have e1:(cC w s b n).splits.length=w.splits.length+1:=by simp [cC]
 have e2:w.aB<=(cC w s b n).aB/\(cC w s b n).aB<=w.aB+3:=by
  simp only [cC];split<;>omega
 have e3:(cC w s b n).values.length=w.values.length:=rfl;have e4:(cC w s b n).uses.length=w.uses.length:=rfl;have e5:(cC w s b n).fails.length=w.fails.length:=rfl;have e6:(cC w s b n).steps=w.steps:=rfl;have hm:=hl.many;have t1:=hl.task1;have hfk:(if f.kids=[] then 0 else 1)<=1:=by split<;>omega
 have ek:g.kids=f.kids:=hk.kids;have em:g.many=f.many:=hk.many;have ekl:g.kids.length=f.kids.length:=by rw [ek]
 refine J9 h0 hd.wi.ws (hk.good.kid (v:=t) (d:=a.b) (by omega) o.2).right (by show 1<=g.task;rw [ht];exact hl.J8) (by show g.task<=_;rw [ht];omega) (by show g.path.length<=_;rw [hk.path];exact hl.path) (by show 0<=g.many+1/\g.many+1<=_;rw [em];omega) ?_ (V+1+U) (by omega) ?_ ?_ ?_ (by omega) (by omega) (by omega) (by omega) (by omega)
 ·intro k hk
  have hk:k∈g.kids++[(t,a.b)]:=hk
  rcases Za.1 hk with hk|hk
  ·rw [ek] at hk
   have:=hl.kids k hk;omega
  ·simp at hk;subst hk;simp only;omega
 ·show (g.kids++[(t,a.b)]).length<=_
  simp;omega
 ·show W.uses.length<=w0.uses.length+2000 * (V+1+U)+g.spent.toNat
  omega
 ·show W.splits.length+(if g.kids++[(t,a.b)]=[] then 0 else 1)<=w0.splits.length+4001 * (V+1+U)+2 * g.spent.toNat
  rw [if_neg (by simp)];omega
theorem PQ {c:Cd} {w0 w:Wd} {f g:Vm.Frame} {a:Vm.Ask} {s v ab:Int} (h0:WI c w0) (hl:Lp c w0 w f) (hn:Vm.cq c f = .ok g a) (k1:a.kind=6):Done c w0 (endW w g v s ab):=by
 obtain ⟨hao,ht,hk⟩:=bL hl.right hn;obtain ⟨V,a1,a2,a3,a4,a5,a6,a7,a8,a9⟩:=hl.adds;have x:=hl.wi;have l1:=hk.lt (by omega);have g0:=(Vm.Good.of hl.right).sp0;have g1:=hk.good.sp1;have b1:=h0.uses;have b2:=h0.splits;have b3:=h0.fails;have b4:=h0.I2;have b5:=h0.str1;have b6:=h0.st0;have b7:=h0.st1;have e1:(endW w g v s ab).splits.length<=w.splits.length+1:=by simp only [endW];split<;>simp
 have e2:(endW w g v s ab).values.length=w.values.length:=by simp [endW]
 have e3:(endW w g v s ab).uses.length=w.uses.length:=rfl;have e4:(endW w g v s ab).fails.length<=w.fails.length+1:=by simp only [endW];split<;>simp
 have e5:(endW w g v s ab).aB=w.aB:=rfl;have e6:(endW w g v s ab).steps=w.steps+g.spent:=rfl;have hfk:0<=(if f.kids=[] then 0 else 1):=by split<;>omega
 have x1:=x.I2;have x2:=x.vals;refine ⟨⟨x.cells,x.maps,x.stacks,x.chans,x.m1,x.m2,x.m3,x.many,by omega,by omega,by omega,by omega,by omega,by omega,by omega,by omega⟩,V,by omega,by omega,by omega,by omega,by omega,by omega,by omega,by omega⟩
theorem Ht {c:Cd} {w:Wd} {f:Vm.Frame} (h0:WI c w) (h64:w.values.length<64) (r:Vm.right c f=true) (t:f.task=(w.values.length:Int)+1) (p:f.path.length<=w.values.length) (m:f.many=0) (k:f.kids=[]) (s:f.spent=0):Lp c w { w with values:=w.values++[0] } f:=by
 refine J9 h0 ⟨h0.cells,h0.maps,h0.stacks,h0.chans,h0.m1,h0.m2,h0.m3,h0.many,by simp;omega⟩ r (by omega) (by simp;omega) p (by rw [m];simp;omega) (by rw [k];simp) 0 (by simp) (by rw [k];simp) (by simp) (by rw [k];simp) (by simp) (by simp) (by simp) (by simp) (by simp)
theorem fuel_lt {c:Cd} {f g f' : Vm.Frame} {a:Vm.Ask} (hr:Vm.right c f=true) (hk:Vm.Kept c (Vm.dm c f) f g a) (h:f'.spent=g.spent) (h5:a.kind=5->f'.kids=[]):ka f' < ka f:=by
 have g0:=(Vm.Good.of hr).sp0;have g1:=(Vm.Good.of hr).sp1;have g2:=hk.good.sp1;have l1:=hk.le;unfold ka;rw [h];by_cases k5:a.kind=5
 ·have h1:=hk.wait k5
  rw [hk.kids] at h1;rw [if_pos (h5 k5),if_neg h1];omega
 ·have l2:=hk.lt k5
  have q1:(if f'.kids=[] then 0 else 1)<=1:=by split<;>omega
  have q2:0<=(if f.kids=[] then 0 else 1):=by split<;>omega
  omega
theorem AU {c:Cd} {f:Vm.Frame} (hr:Vm.right c f=true):0<ka f:=by
 have g1:=(Vm.Good.of hr).sp1;unfold ka;omega
end Uw.Tryz.El
namespace Uw.Tryz.El
open Go Uw Uw.Tryz
theorem LK {P:Program} {m:bE} {st:St} {Q:az->St->Prop} (h:H5 P m st fun e s=>∃s',Weak s s'/\Q e s'):H5 P m st Q:=by
 intro S n pol code hc hdf c w0 gs a r;refine S.mono (h S n pol code hc hdf c w0 gs a r) ?_;intro e a' w' ⟨c',me,st',e1,e2,e3,e4,e5,e6⟩;obtain ⟨s',hw,hq⟩:=e6;subst e3;obtain ⟨c3,k1,k2,k3,k5,k4⟩:=e5.weak hw;refine ⟨c3,me,s',k1.trans e1,k2.trans e2,k3,?_,k4,hq⟩
 cases e<;>cases me<;>simp only [bu] at e4 ⊢<;>first|exact e4|skip
 obtain ⟨v,h1,h2⟩:=e4;refine ⟨v,h1,?_⟩;rw [k3];exact aG.keep k5 _ _ h2
theorem PR {P:Program} {Q:az->St->Prop} {α:Type} (S:α->St) (inv:α->Prop) (mu:α->Nat) (x0:α) (E:St) {m:bE} {st:St} {k:az->St->Tree} (hw:Weak st (S x0)) (h0:inv x0)
  (round:∀x,inv x->WT P (cK S inv mu x fun e s=>e = .exit 0/\Weak s E) (exec m (S x) Tree.done)) (hE:WT P Q (k (.exit 0) E)):WT P Q (.code (.loop m) st k):=by
 refine qH (LK (B9 (fun n s=>∃x,n=mu x/\inv x/\s=S x) (mu x0) (S x0) hw ⟨x0,rfl,h0,rfl⟩ ?_));rintro n s ⟨x,rfl,hx,rfl⟩;refine WT.mono ?_ _ (round x hx);intro e s hq;have hX:e = .exit 0/\Weak s E->∃s',Weak s s'/\WT P Q (k e s'):=by rintro ⟨rfl,h⟩;exact ⟨E,h,hE⟩
 cases e with
 | normal=>obtain ⟨y,h1,h2,h3⟩:=hq;exact ⟨mu y,S y,h2,h3,y,rfl,h1,rfl⟩
 | exit j=>exact hX hq
 | ret=>exact hX hq
 | panic d=>exact hX hq
variable {C1 C2 C3 C4 C5 C6 : Dat} {xc : Nat} {rc : List (List Dat)} {gm xm : Nat} {rm : List (List Dat)} {gs xs : Nat} {rs : List (List Dat)} {gc xh : Nat} {rh : List (List Dat)} {xu : Nat} {ru : List (List Dat)} {xp : Nat} {rp : List (List Dat)} {st : Int} {gv xv : Nat} {rv : List (List Dat)} {sp : Int} {gf xf : Nat} {rf : List (List Dat)}
theorem VG {c:Cd} {W:Wd} {er:Int} (f:Vm.Frame) (s ab:Int) (hrv:rv.length=xv) (hx:xv<1000000) {α:Type} (S:α->St) (inv:α->Prop) (mu:α->Nat) (x0:α)
  (hw:∀st',Weak st' (lpS (wH [.d C1,.d C2,.d C3,.d C4,.d C5,.d C6] xc rc gm xm rm gs xs rs gc xh rh xu ru xp rp st (gv+1) (xv+1) (rv.take xv++[[I 0]]) sp gf xf rf) (frC f) s 0 ab)->Weak st' (S x0)) (h0:inv x0)
  (round:∀x,inv x->WT P0 (cK S inv mu x fun e s=>e = .exit 0/\Weak s (exS (hB c W) er)) (exec ruB (S x) Tree.done)) :
  eM P0 eh [.agg (frC f),.d (I s),.d (I ab),.ptr 0 0,.ptr 1 0,.ptr 2 0] (wH [.d C1,.d C2,.d C3,.d C4,.d C5,.d C6] xc rc gm xm rm gs xs rs gc xh rh xu ru xp rp st gv xv rv sp gf xf rf) (.d (I er)) (hB c W):=by
 refine dB tX.h rfl ?_;refine aX ⟨[(9,.d (I 0)),(6,.ptr 12 0),(5,.ptr 2 0),(4,.ptr 1 0),(3,.ptr 0 0),(2,.d (I ab)),(1,.d (I s))],aM 0 (wH [.d C1,.d C2,.d C3,.d C4,.d C5,.d C6] xc rc gm xm rm gs xs rs gc xh rh xu ru xp rp st (gv+1) (xv+1) (rv.take xv++[[I 0]]) sp gf xf rf++[.var (frC f)]),13,[],12⟩ ?_ ?_
 ·repeat refine aw ?_
  exact ai (.inl ⟨rfl,by exact Uw.wM⟩)
 ·repeat refine aw ?_
  refine PR S inv mu x0 (exS (hB c W) er) (hw _ (by exact Uw.wM)) h0 round ?_
  repeat refine aw ?_
  refine dc 12 rfl rfl ?_;exact Uw.wM
end Uw.Tryz.El
namespace Uw.Tryz.El
open Go Uw Uw.Tryz
def QR (c:Cd) (R:Wd×Int):az->St->Prop:=fun e s=>e = .exit 0/\Weak s (exS (hB c R.1) R.2)
theorem I5 {c:Cd} {X R:Wd×Int} (h:X=R):rH c X (QR c R):=by subst h;exact fun s h=>⟨rfl,h⟩
def SG (c:Cd) (rec:Rec) (ab:Int) (R:Wd×Int) (w0:Wd):Wd×Vm.Frame×Int×Int->Prop:=fun (w,f,s,b)=>Lp c w0 w f/\∃n,ka f<=n/\jl c rec n w f s b ab=R
def muR:Wd×Vm.Frame×Int×Int->Nat:=fun (_,f,_,_)=>ka f
theorem yV {c:Cd} {rec:Rec} {m:Nat} {w w' : Wd} {f g:Vm.Frame} {a:Vm.Ask} {s b s' b' ab:Int} {told:List Int} (hn:Vm.cq c f = .ok g a) (hr:bp c rec w g a s b ab = .go w' told s' b') :
  jl c rec (m+1) w f s b ab=if (Vm.aU g a.kind a.b told).2≠0 then (w',(Vm.aU g a.kind a.b told).2) else jl c rec m w' (Vm.aU g a.kind a.b told).1 s' b' ab:=by
 rw [jl,hn];simp only [hr]
theorem eA {c:Cd} {rec:Rec} {m:Nat} {w w' : Wd} {f g:Vm.Frame} {a:Vm.Ask} {s b ab e:Int} (hn:Vm.cq c f = .ok g a) (hr:bp c rec w g a s b ab = .done w' e) :
  jl c rec (m+1) w f s b ab=(w',e):=by
 rw [jl,hn];simp only [hr]
theorem AV {c:Cd} {rec:Rec} {m:Nat} {w:Wd} {f:Vm.Frame} {s b ab e:Int} (hn:Vm.cq c f = .err e) :
  jl c rec (m+1) w f s b ab=(w,e):=by
 rw [jl,hn]
theorem uP (g:Vm.Frame) (k b:Int) (v:List Int):(Vm.aU g k b v).1.spent=g.spent:=by
 unfold Vm.aU Vm.ky
 repeat' split
 all_goals rfl
theorem xE {g:Vm.Frame} {b:Int} {v:List Int} (h:(Vm.aU g 5 b v).2=0):(Vm.aU g 5 b v).1.kids=[]:=by
 rw [(qZ h).2];rfl
theorem AW {c:Cd} {rec:Rec} {m:Nat} {w0 w w' : Wd} {f g:Vm.Frame} {a:Vm.Ask} {s b s' b' ab:Int} {told:List Int} {R:Wd×Int} (k:Int) (hl:Lp c w0 w f) (hn:Vm.cq c f = .ok g a) (hk:a.kind=k) (hr:bp c rec w g a s b ab = .go w' told s' b') (hf:ka f<=m+1) (hR:jl c rec (m+1) w f s b ab=R)
  (hlp:(Vm.aU g k a.b told).2=0->Lp c w0 w' (Vm.aU g k a.b told).1) (h0:(Vm.aU g k a.b told).2=0) :
  SG c rec ab R w0 (w',(Vm.aU g k a.b told).1,s',b')/\muR (w',(Vm.aU g k a.b told).1,s',b')<muR (w,f,s,b):=by
 have hkp:=(bL hl.right hn).2.2;subst hk;have hlt:ka (Vm.aU g a.kind a.b told).1<ka f:=fuel_lt hl.right hkp (uP _ _ _ _) (fun h5=>by rw [h5] at h0 ⊢;exact xE h0);rw [yV hn hr,if_neg (by simp [h0])] at hR;exact ⟨⟨hlp h0,m,by omega,hR⟩,hlt⟩
theorem AX {c:Cd} {rec:Rec} {m:Nat} {w w' : Wd} {f g:Vm.Frame} {a:Vm.Ask} {s b s' b' ab:Int} {told:List Int} {R:Wd×Int} (k:Int) (hn:Vm.cq c f = .ok g a) (hk:a.kind=k) (hr:bp c rec w g a s b ab = .go w' told s' b') (hR:jl c rec (m+1) w f s b ab=R)
  (h0:(Vm.aU g k a.b told).2≠0):rH c (w',(Vm.aU g k a.b told).2) (QR c R):=by
 subst hk;rw [yV hn hr,if_pos h0] at hR;exact I5 hR
def Hu (c:Cd) (d:Nat) (rec:Rec):Prop:=∀(w:Wd) (f:Vm.Frame) (s ab:Int),WI c w->64<=w.values.length+d->w.values.length<64->Vm.right c f=true->f.task=(w.values.length:Int)+1->f.path.length<=w.values.length->f.many=0->f.kids=[]->f.spent=0->
 eM P0 eh [.agg (frC f),.d (I s),.d (I ab),.ptr 0 0,.ptr 1 0,.ptr 2 0] (hB c w) (.d (I (rec w f s ab).2)) (hB c (rec w f s ab).1)/\((rec w f s ab).2=0->Done c w (rec w f s ab).1)
theorem I6 {c:Cd} {d:Nat} {rec:Rec} (hrec:Hu c d rec) {w0 w:Wd} {f g:Vm.Frame} {a:Vm.Ask} {s b:Int} (h0:WI c w0) (hd:64<=w0.values.length+(d+1)) (hl:Lp c w0 w f) (hn:Vm.cq c f = .ok g a) (k1:a.kind=4) (h64:w.values.length<64) (hk:(dV c w g a).2=0) :
  eM P0 eh [.agg (frC (dV c w g a).1),.d (I w.aB),.d (I (if isNamed g then b else w.aB+2)),.ptr 0 0,.ptr 1 0,.ptr 2 0] (hB c (cC w s b (isNamed g))) (.d (I (rec (cC w s b (isNamed g)) (dV c w g a).1 w.aB (if isNamed g then b else w.aB+2)).2)) (hB c (rec (cC w s b (isNamed g)) (dV c w g a).1 w.aB (if isNamed g then b else w.aB+2)).1)
  /\((rec (cC w s b (isNamed g)) (dV c w g a).1 w.aB (if isNamed g then b else w.aB+2)).2=0->Done c (cC w s b (isNamed g)) (rec (cC w s b (isNamed g)) (dV c w g a).1 w.aB (if isNamed g then b else w.aB+2)).1):=by
 obtain ⟨e1,e2⟩:=iW hk;obtain ⟨V,a1,_⟩:=hl.adds;have hkp:=(bL hl.right hn).2.2;have hp:=hl.path;refine hrec _ _ _ _ (Ko h0 hl hn k1) ?_ h64 ?_ ?_ ?_ ?_ ?_ ?_
 ·show 64<=w.values.length+d
  omega
 ·rw [e1];exact e2
 ·rw [e1];rfl
 ·rw [e1]
  show (g.path++[g.many]).length<=w.values.length;rw [hkp.path];simp;omega
 ·rw [e1];rfl
 ·rw [e1];rfl
 ·rw [e1];rfl
theorem LL {c:Cd} (hc:CO c) {d:Nat} {rec:Rec} (hrec:Hu c d rec) (ab:Int) (R:Wd×Int) {w0:Wd} (h0:WI c w0) (hd:64<=w0.values.length+(d+1)) (x:Wd×Vm.Frame×Int×Int) (hx:SG c rec ab R w0 x) :
  WT P0 (cK (SL c ab) (SG c rec ab R w0) muR x (QR c R)) (exec ruB (SL c ab x) Tree.done):=by
 obtain ⟨w,f,s,b⟩:=x;obtain ⟨hl,n,hf,hR⟩:=hx;have hp:=AU hl.right;obtain ⟨m,rfl⟩:∃m,n=m+1:=⟨n - 1,by omega⟩
 cases hn:Vm.cq c f with
 | err e=>
  rw [AV hn] at hR;exact LD c hc ab w0 w f e s b hl hn _ _ (I5 hR)
 | ok g a=>
  obtain ⟨hao,ht,hkp⟩:=bL hl.right hn;have q1:=hkp.k1;have q6:=hkp.k6;have hk:a.kind=1\/a.kind=2\/a.kind=3\/a.kind=4\/a.kind=5\/a.kind=6:=by omega
  rcases hk with k|k|k|k|k|k
  ·have hr:bp c rec w g a s b ab = .go (pz w g.path s a.a) [w.cells.getD a.a.toNat 0] s b:=by simp [bp,k]
   exact I3 c hc rec ab R w0 w f g a s b hl hn k _ _ (AW 1 hl hn k hr hf hR (EN h0 hl hn k)) (AX 1 hn k hr hR)
  ·have hr:bp c rec w g a s b ab = .go (iV w g.path s a.a a.b) [] s b:=by simp [bp,k]
   exact Hl c hc ab w0 w f g a s b hl hn k _ _ (AW 2 hl hn k hr hf hR (AP h0 hl hn k)) (AX 2 hn k hr hR)
  ·have hr0:gX (bC w g.path s (opA a))=false->bp c rec w g a s b ab = .go (bC w g.path s (opA a)) [eD w (opA a)] s b:=by intro h;simp [bp,k,h]
   have hr1:gX (bC w g.path s (opA a))=true->bp c rec w g a s b ab = .done (bC w g.path s (opA a)) 8:=by intro h;simp [bp,k,h]
   have g1:=fun h=>AW 3 hl hn k (hr0 h) hf hR (EO h0 hl hn k h);have g2:=fun h=>AX 3 hn k (hr0 h) hR;have g3:gX (bC w g.path s (opA a))=true->rH c (bC w g.path s (opA a),8) (QR c R):=fun h=>by
    rw [eA hn (hr1 h)] at hR;exact I5 hR
   have hop:=hao.op k;have hkk:ofK a.op.1=1\/ofK a.op.1=2\/ofK a.op.1=3:=by
    unfold ofK
    repeat' split
    all_goals omega
   rcases hkk with q|q|q
   ·exact Hm c hc ab w0 w f g a s b hl hn k q _ _ g1 g2 g3
   ·exact Hn c hc ab w0 w f g a s b hl hn k q _ _ g1 g2 g3
   ·exact Ho c hc ab w0 w f g a s b hl hn k q _ _ g1 g2 g3
  ·have hr:bp c rec w g a s b ab=ij c rec w g a s b:=by simp [bp,k]
   have ha:=LJ hl.right hn;have ko:=fun h64 hk=>I6 (s:=s) (b:=b) hrec h0 hd hl hn k h64 hk;have s0:64<=w.values.length->bp c rec w g a s b ab = .done w 10:=by intro h;rw [hr,ij,if_pos h]
   have s1:w.values.length<64->(dV c w g a).2≠0->bp c rec w g a s b ab = .done w (dV c w g a).2:=by
    intro h h1;rw [hr,ij,if_neg (by omega)];exact if_pos h1
   have s2:w.values.length<64->(dV c w g a).2=0->(rec (cC w s b (isNamed g)) (dV c w g a).1 w.aB (if isNamed g then b else w.aB+2)).2≠0->bp c rec w g a s b ab = .done (rec (cC w s b (isNamed g)) (dV c w g a).1 w.aB (if isNamed g then b else w.aB+2)).1 (rec (cC w s b (isNamed g)) (dV c w g a).1 w.aB (if isNamed g then b else w.aB+2)).2:=by
    intro h h1 h2;rw [hr,ij,if_neg (by omega)];exact (if_neg (by simpa using h1)).trans (if_pos h2)
   have s3:w.values.length<64->(dV c w g a).2=0->(rec (cC w s b (isNamed g)) (dV c w g a).1 w.aB (if isNamed g then b else w.aB+2)).2=0->bp c rec w g a s b ab = .go (rec (cC w s b (isNamed g)) (dV c w g a).1 w.aB (if isNamed g then b else w.aB+2)).1 [(dV c w g a).1.task] (w.aB+1) (if isNamed g then b else w.aB+2):=by
    intro h h1 h2;rw [hr,ij,if_neg (by omega)];exact (if_neg (by simpa using h1)).trans (if_neg (fun hh=>hh h2))
   refine Hq c hc ab w0 w f g a s b hl hn k (by omega) (rec (cC w s b (isNamed g)) (dV c w g a).1 w.aB (if isNamed g then b else w.aB+2)) _ _ ?_ ?_ ?_ ?_ ?_ ?_
   ·intro h;rw [eA hn (s0 h)] at hR;exact I5 hR
   ·intro h h1;rw [eA hn (s1 h h1)] at hR;exact I5 hR
   ·intro h h1;exact (ko h h1).1
   ·intro h h1 h2;rw [eA hn (s2 h h1 h2)] at hR;exact I5 hR
   ·intro h h1 h2
    refine AW 4 hl hn k (s3 h h1 h2) hf hR (fun hz=>?_);refine AQ h0 hl hn k ((ko h h1).2 h2) ?_ hz;rw [(iW h1).1];rfl
   ·intro h h1 h2
    exact AX 4 hn k (s3 h h1 h2) hR
  ·have hr:bp c rec w g a s b ab = .go (j9 w g.kids s b).1 (dL w g.kids) b b:=by
    have hne:=hkp.wait k;simp [bp,k,j9,hne]
   exact I4 c hc ab w0 w f g a s b hl hn k _ _ (AW 5 hl hn k hr hf hR (EP h0 hl hn k)) (AX 5 hn k hr hR)
  ·have hr:bp c rec w g a s b ab = .done (endW w g a.a s ab) 0:=by simp [bp,k]
   rw [eA hn hr] at hR;exact LG c hc ab w0 w f g a s b hl hn k _ _ (I5 hR)
theorem DL {c:Cd} {d:Nat} {rec:Rec} (hrec:Hu c d rec) (ab:Int) {w0:Wd} (h0:WI c w0) (hd:64<=w0.values.length+(d+1)):∀(n:Nat) (w:Wd) (f:Vm.Frame) (s b:Int),Lp c w0 w f->ka f<=n->(jl c rec n w f s b ab).2=0->Done c w0 (jl c rec n w f s b ab).1
 | 0,w,f,s,b,hl,hf,_=>by have:=AU hl.right;omega
 | n+1,w,f,s,b,hl,hf,hz=>by
  have IH:=fun w' f' s' b' hl' hf' hz'=>DL hrec ab h0 hd n w' f' s' b' hl' hf' hz'
  cases hn:Vm.cq c f with
  | err e=>
   rw [AV hn] at hz
   rcases Vm.tg hl.right with ⟨e',h1,h2⟩|⟨g,a,h1,_⟩
   ·rw [hn] at h1;injection h1 with h1;subst h1;simp only at hz;omega
   ·rw [hn] at h1;cases h1
  | ok g a=>
   obtain ⟨hao,ht,hkp⟩:=bL hl.right hn;have q1:=hkp.k1;have q6:=hkp.k6;have key:∀{w' told s' b'} (k:Int),a.kind=k->bp c rec w g a s b ab = .go w' told s' b'->((Vm.aU g k a.b told).2=0->Lp c w0 w' (Vm.aU g k a.b told).1)->Done c w0 (jl c rec (n+1) w f s b ab).1:=by
    intro w' told s' b' k hk hr hlp;subst hk;rw [yV hn hr] at hz ⊢;by_cases ht0:(Vm.aU g a.kind a.b told).2=0
    ·rw [if_neg (by simp [ht0])] at hz ⊢
     have hlt:ka (Vm.aU g a.kind a.b told).1<ka f:=fuel_lt hl.right hkp (uP _ _ _ _) (fun h5=>by rw [h5] at ht0 ⊢;exact xE ht0);exact IH _ _ _ _ (hlp ht0) (by omega) hz
    ·rw [if_pos ht0] at hz;exact absurd hz ht0
   have hk:a.kind=1\/a.kind=2\/a.kind=3\/a.kind=4\/a.kind=5\/a.kind=6:=by omega
   rcases hk with k|k|k|k|k|k
   ·exact key (w':=pz w g.path s a.a) (told:=[w.cells.getD a.a.toNat 0]) (s':=s) (b':=b) 1 k (by simp [bp,k]) (EN h0 hl hn k)
   ·exact key (w':=iV w g.path s a.a a.b) (told:=[]) (s':=s) (b':=b) 2 k (by simp [bp,k]) (AP h0 hl hn k)
   ·cases hfu:gX (bC w g.path s (opA a)) with
    | true=>
     have hr:bp c rec w g a s b ab = .done (bC w g.path s (opA a)) 8:=by simp [bp,k,hfu]
     rw [eA hn hr] at hz;simp at hz
    | false=>exact key (w':=bC w g.path s (opA a)) (told:=[eD w (opA a)]) (s':=s) (b':=b) 3 k (by simp [bp,k,hfu]) (EO h0 hl hn k hfu)
   ·have hr:bp c rec w g a s b ab=ij c rec w g a s b:=by simp [bp,k]
    by_cases h64:64<=w.values.length
    ·have s0:bp c rec w g a s b ab = .done w 10:=by rw [hr,ij,if_pos h64]
     rw [eA hn s0] at hz;simp at hz
    have h64:w.values.length<64:=by omega
    by_cases h1:(dV c w g a).2=0
    ·have ko:=I6 (s:=s) (b:=b) hrec h0 hd hl hn k h64 h1
     by_cases h2:(rec (cC w s b (isNamed g)) (dV c w g a).1 w.aB (if isNamed g then b else w.aB+2)).2=0
     ·have s3:bp c rec w g a s b ab = .go (rec (cC w s b (isNamed g)) (dV c w g a).1 w.aB (if isNamed g then b else w.aB+2)).1 [(dV c w g a).1.task] (w.aB+1) (if isNamed g then b else w.aB+2):=by
       rw [hr,ij,if_neg (by omega)];exact (if_neg (by simpa using h1)).trans (if_neg (fun hh=>hh h2))
      refine key 4 k s3 (fun hz'=>AQ h0 hl hn k (ko.2 h2) ?_ hz');rw [(iW h1).1];rfl
     ·have s2:bp c rec w g a s b ab = .done (rec (cC w s b (isNamed g)) (dV c w g a).1 w.aB (if isNamed g then b else w.aB+2)).1 (rec (cC w s b (isNamed g)) (dV c w g a).1 w.aB (if isNamed g then b else w.aB+2)).2:=by
       rw [hr,ij,if_neg (by omega)];exact (if_neg (by simpa using h1)).trans (if_pos h2)
      rw [eA hn s2] at hz;exact absurd hz h2
    ·have s1:bp c rec w g a s b ab = .done w (dV c w g a).2:=by
      rw [hr,ij,if_neg (by omega)];exact if_pos h1
     rw [eA hn s1] at hz;exact absurd hz h1
   ·have hne:=hkp.wait k
    exact key (w':=(j9 w g.kids s b).1) (told:=dL w g.kids) (s':=b) (b':=b) 5 k (by simp [bp,k,j9,hne]) (EP h0 hl hn k)
   ·have hr:bp c rec w g a s b ab = .done (endW w g a.a s ab) 0:=by simp [bp,k]
    rw [eA hn hr];exact PQ h0 hl hn k
theorem ER (c:Cd) (hc:CO c):∀d,Hu c d (Hg c d)
 | 0=>fun w f s ab _ h1 h2=>by omega
 | d+1=>by
  have ih:=ER c hc d;intro w f s ab hw h1 h2 hr ht hp hm hk hs;have hl:=Ht hw h2 hr ht hp hm hk hs;have e:Hg c (d+1) w f s ab=jl c (Hg c d) (ka f) { w with values:=w.values++[0] } f s 0 ab:=rfl;rw [e];refine ⟨?_,fun hz=>DL ih ab hw h1 _ _ _ _ _ hl (Ls _) hz⟩;have hB' : hB c { w with values:=w.values++[0] }=wH [.d (.slice 3 (c.am.map bdC) false),.d (ae c.cells),.d (I c.maps),.d (I c.stacks),.d (I c.chans),.d (I c.main)] w.cells.length (bn w.cells) w.maps.length w.maps.length (w.maps.map av) w.stacks.length w.stacks.length (w.stacks.map av) w.chans.length w.chans.length (w.chans.map av) w.uses.length (w.uses.map bA) w.splits.length (w.splits.map iz) w.aB (w.values.length+1) (w.values.length+1) ((bn w.values).take w.values.length++[[I 0]]) w.steps w.fails.length w.fails.length (c9 w.fails):=by
   have e3:(bn w.values).take w.values.length=bn w.values:=i5 (by simp [bn]);rw [e3];simp [bn]
  refine VG f s ab (by simp [bn]) (by omega) (SL c ab) (SG c (Hg c d) ab (jl c (Hg c d) (ka f) { w with values:=w.values++[0] } f s 0 ab) w) muR ({ w with values:=w.values++[0] },f,s,0) ?_ ⟨hl,_,Ls _,rfl⟩ (fun x hx=>LL hc ih ab _ hw h1 x hx);intro st' hs';show Weak st' (lpS (hB c { w with values:=w.values++[0] }) (frC f) s 0 ab);rw [hB'];exact hs'
end Uw.Tryz.El
namespace Uw.Tryz.El
open Go Uw Uw.Tryz
theorem ES (C1:Dat) (cells:List Int) (m s h:Int) (C6:Dat) (m0:0<=m) (m1:m<1000) (s0:0<=s) (s1:s<1000) (h0:0<=h) (h1:h<1000) (hc:cells.length<1000) :
  eM P0 tW [.agg [.d C1,.d (ae cells),.d (I m),.d (I s),.d (I h),.d C6]] [] (.ptr 0 0)
   (wG [.d C1,.d (ae cells),.d (I m),.d (I s),.d (I h),.d C6] cells.length (bn cells) m.toNat m.toNat (List.replicate m.toNat [I 1,ae [],ae []]) s.toNat s.toNat (List.replicate s.toNat [I 2,ae [],ae []]) h.toNat h.toNat (List.replicate h.toNat [I 3,ae [],ae []]) 0 [] 0 [] 1 0 0 [] 0 0 0 []):=by
 have hmn:((m.toNat:Nat):Int)=m:=by omega
 have hsn:((s.toNat:Nat):Int)=s:=by omega
 have hhn:((h.toNat:Nat):Int)=h:=by omega
 have N1:Ret P0 fX [I 1] (.agg [I 1,ae [],ae []]):=(kF 1).res (.agg (.cons (.refl _) (.cons (.nil _) (.cons (.nil _) (.refl _)))));have N2:Ret P0 fX [I 2] (.agg [I 2,ae [],ae []]):=(kF 2).res (.agg (.cons (.refl _) (.cons (.nil _) (.cons (.nil _) (.refl _)))));have N3:Ret P0 fX [I 3] (.agg [I 3,ae [],ae []]):=(kF 3).res (.agg (.cons (.refl _) (.cons (.nil _) (.cons (.nil _) (.refl _)))));refine dB BA.h rfl ?_;refine aX ⟨[(1,.ptr 0 0),(3,.ptr 2 0)],aM 0 [.var [.d C1,.d (ae cells),.d (I m),.d (I s),.d (I h),.d C6],.mt 1 1 (bn cells),.var [.d C1,.d (ae cells),.d (I m),.d (I s),.d (I h),.d C6,.ref 1 1 0 cells.length,.d .nil,.ref 3 0 0 0,.ref 4 0 0 0,.ref 5 0 0 0,.ref 6 0 0 0,.ref 7 0 0 0,.d (I 1),.ref 8 0 0 0,.d (I 0),.ref 9 0 0 0],.mt 3 0 [],.mt 3 0 [],.mt 3 0 [],.arr 10 [],.arr 5 [],.mt 1 0 [],.mt 1 0 []],10,[],0⟩ ?_ ?_
 ·repeat refine aw ?_
  refine ax (Vm.cr cells hc _ _) ?_;rintro _ _ _ ⟨rfl,rfl,rfl⟩
  repeat refine aw ?_
  refine ai (.inl ⟨rfl,?_⟩);exact Uw.wM
 repeat refine aw ?_
 refine dO 5 ?_;show WT P0 _ _
 repeat refine aw ?_
 refine dO 1 ?_;show WT P0 _ _
 repeat refine aw ?_
 refine gB ?_
 repeat refine aw ?_
 refine cA ?_
 repeat refine aw ?_
 refine dH m.toNat (fun j=>⟨[(26,.d (I j)),(25,.d (I m)),(5,.d (I 1)),(21,.d (I 1)),(20,.agg [.d (I 0),.d (I m),.d (I s),.d (I h)]),(3,.ptr 2 0)],aM 0 [.var [.d C1,.d (ae cells),.d (I m),.d (I s),.d (I h),.d C6],.mt 1 1 (bn cells),.var [.d C1,.d (ae cells),.d (I m),.d (I s),.d (I h),.d C6,.ref 1 1 0 cells.length,.d .nil,.ref 3 j 0 j,.ref 4 0 0 0,.ref 5 0 0 0,.ref 6 0 0 0,.ref 7 0 0 0,.d (I 1),.ref 8 0 0 0,.d (I 0),.ref 9 0 0 0],.mt 3 j (List.replicate j [I 1,ae [],ae []]),.mt 3 0 [],.mt 3 0 [],.arr 10 [],.arr 5 [],.mt 1 0 [],.mt 1 0 []],10,[],0⟩) (fun j=>True) ?_ (fun _=>?_) (fun j hj _=>?_)
 ·exact Uw.wM
 rotate_left 1
 ·have hj2:(j:Int)<m:=by omega
  have ej:(List.replicate j [I 1,ae [],ae []]).take j++[[I 1,ae [],ae []]]=List.replicate (j+1) [I 1,ae [],ae []]:=by rw [i5 (by simp),Zp]
  have ej2:(List.replicate j [I 1,ae [],ae []]).length=j:=by simp
  repeat refine aw ?_
  refine aX ⟨[(26,.d (I j)),(25,.d (I m)),(5,.d (I 1)),(21,.d (I 1)),(20,.agg [.d (I 0),.d (I m),.d (I s),.d (I h)]),(3,.ptr 2 0)],aM 0 [.var [.d C1,.d (ae cells),.d (I m),.d (I s),.d (I h),.d C6],.mt 1 1 (bn cells),.var [.d C1,.d (ae cells),.d (I m),.d (I s),.d (I h),.d C6,.ref 1 1 0 cells.length,.d .nil,.ref 3 (j+1) 0 (j+1),.ref 4 0 0 0,.ref 5 0 0 0,.ref 6 0 0 0,.ref 7 0 0 0,.d (I 1),.ref 8 0 0 0,.d (I 0),.ref 9 0 0 0],.mt 3 (j+1) (List.replicate (j+1) [I 1,ae [],ae []]),.mt 3 0 [],.mt 3 0 [],.arr 10 [],.arr 5 [],.mt 1 0 [],.mt 1 0 []],10,[],0⟩ ?_ ?_
  ·repeat refine aw ?_
   exact ai (.inl ⟨rfl,by exact Uw.wM⟩)
  repeat refine aw ?_
  exact cH j trivial (by exact Uw.wM)
 repeat refine aw ?_
 refine aS ?_
 repeat refine aw ?_
 refine cA ?_
 repeat refine aw ?_
 refine dH s.toNat (fun j=>⟨[(26,.d (I j)),(25,.d (I s)),(5,.d (I 2)),(21,.d (I 2)),(20,.agg [.d (I 0),.d (I m),.d (I s),.d (I h)]),(3,.ptr 2 0)],aM 0 [.var [.d C1,.d (ae cells),.d (I m),.d (I s),.d (I h),.d C6],.mt 1 1 (bn cells),.var [.d C1,.d (ae cells),.d (I m),.d (I s),.d (I h),.d C6,.ref 1 1 0 cells.length,.d .nil,.ref 3 m.toNat 0 m.toNat,.ref 4 j 0 j,.ref 5 0 0 0,.ref 6 0 0 0,.ref 7 0 0 0,.d (I 1),.ref 8 0 0 0,.d (I 0),.ref 9 0 0 0],.mt 3 m.toNat (List.replicate m.toNat [I 1,ae [],ae []]),.mt 3 j (List.replicate j [I 2,ae [],ae []]),.mt 3 0 [],.arr 10 [],.arr 5 [],.mt 1 0 [],.mt 1 0 []],10,[],0⟩) (fun j=>True) ?_ (fun _=>?_) (fun j hj _=>?_)
 ·exact Uw.wM
 rotate_left 1
 ·have hj2:(j:Int)<s:=by omega
  have ej:(List.replicate j [I 2,ae [],ae []]).take j++[[I 2,ae [],ae []]]=List.replicate (j+1) [I 2,ae [],ae []]:=by rw [i5 (by simp),Zp]
  have ej2:(List.replicate j [I 2,ae [],ae []]).length=j:=by simp
  repeat refine aw ?_
  refine aX ⟨[(26,.d (I j)),(25,.d (I s)),(5,.d (I 2)),(21,.d (I 2)),(20,.agg [.d (I 0),.d (I m),.d (I s),.d (I h)]),(3,.ptr 2 0)],aM 0 [.var [.d C1,.d (ae cells),.d (I m),.d (I s),.d (I h),.d C6],.mt 1 1 (bn cells),.var [.d C1,.d (ae cells),.d (I m),.d (I s),.d (I h),.d C6,.ref 1 1 0 cells.length,.d .nil,.ref 3 m.toNat 0 m.toNat,.ref 4 (j+1) 0 (j+1),.ref 5 0 0 0,.ref 6 0 0 0,.ref 7 0 0 0,.d (I 1),.ref 8 0 0 0,.d (I 0),.ref 9 0 0 0],.mt 3 m.toNat (List.replicate m.toNat [I 1,ae [],ae []]),.mt 3 (j+1) (List.replicate (j+1) [I 2,ae [],ae []]),.mt 3 0 [],.arr 10 [],.arr 5 [],.mt 1 0 [],.mt 1 0 []],10,[],0⟩ ?_ ?_
  ·repeat refine aw ?_
   exact ai (.inl ⟨rfl,by exact Uw.wM⟩)
  repeat refine aw ?_
  exact cH j trivial (by exact Uw.wM)
 repeat refine aw ?_
 refine aS ?_
 repeat refine aw ?_
 refine cA ?_
 repeat refine aw ?_
 refine dH h.toNat (fun j=>⟨[(26,.d (I j)),(25,.d (I h)),(5,.d (I 3)),(21,.d (I 3)),(20,.agg [.d (I 0),.d (I m),.d (I s),.d (I h)]),(3,.ptr 2 0)],aM 0 [.var [.d C1,.d (ae cells),.d (I m),.d (I s),.d (I h),.d C6],.mt 1 1 (bn cells),.var [.d C1,.d (ae cells),.d (I m),.d (I s),.d (I h),.d C6,.ref 1 1 0 cells.length,.d .nil,.ref 3 m.toNat 0 m.toNat,.ref 4 s.toNat 0 s.toNat,.ref 5 j 0 j,.ref 6 0 0 0,.ref 7 0 0 0,.d (I 1),.ref 8 0 0 0,.d (I 0),.ref 9 0 0 0],.mt 3 m.toNat (List.replicate m.toNat [I 1,ae [],ae []]),.mt 3 s.toNat (List.replicate s.toNat [I 2,ae [],ae []]),.mt 3 j (List.replicate j [I 3,ae [],ae []]),.arr 10 [],.arr 5 [],.mt 1 0 [],.mt 1 0 []],10,[],0⟩) (fun j=>True) ?_ (fun _=>?_) (fun j hj _=>?_)
 ·exact Uw.wM
 rotate_left 1
 ·have hj2:(j:Int)<h:=by omega
  have ej:(List.replicate j [I 3,ae [],ae []]).take j++[[I 3,ae [],ae []]]=List.replicate (j+1) [I 3,ae [],ae []]:=by rw [i5 (by simp),Zp]
  have ej2:(List.replicate j [I 3,ae [],ae []]).length=j:=by simp
  repeat refine aw ?_
  refine aX ⟨[(26,.d (I j)),(25,.d (I h)),(5,.d (I 3)),(21,.d (I 3)),(20,.agg [.d (I 0),.d (I m),.d (I s),.d (I h)]),(3,.ptr 2 0)],aM 0 [.var [.d C1,.d (ae cells),.d (I m),.d (I s),.d (I h),.d C6],.mt 1 1 (bn cells),.var [.d C1,.d (ae cells),.d (I m),.d (I s),.d (I h),.d C6,.ref 1 1 0 cells.length,.d .nil,.ref 3 m.toNat 0 m.toNat,.ref 4 s.toNat 0 s.toNat,.ref 5 (j+1) 0 (j+1),.ref 6 0 0 0,.ref 7 0 0 0,.d (I 1),.ref 8 0 0 0,.d (I 0),.ref 9 0 0 0],.mt 3 m.toNat (List.replicate m.toNat [I 1,ae [],ae []]),.mt 3 s.toNat (List.replicate s.toNat [I 2,ae [],ae []]),.mt 3 (j+1) (List.replicate (j+1) [I 3,ae [],ae []]),.arr 10 [],.arr 5 [],.mt 1 0 [],.mt 1 0 []],10,[],0⟩ ?_ ?_
  ·repeat refine aw ?_
   exact ai (.inl ⟨rfl,by exact Uw.wM⟩)
  repeat refine aw ?_
  exact cH j trivial (by exact Uw.wM)
 repeat refine aw ?_
 refine aS ?_
 repeat refine aw ?_
 refine cA ?_
 repeat refine aw ?_
 refine gB ?_
 repeat refine aw ?_
 refine dc 0 rfl rfl (Weak.ofR [(0,2),(1,1),(2,3),(3,4),(4,5),(5,6),(6,7),(7,8),(8,9)] ?_ ?_ rfl rfl ?_ rfl rfl rfl)
 ·exact ⟨⟨_,rfl,.inl ⟨rfl,rfl⟩⟩,trivial⟩
 ·refine ⟨⟨.inl ⟨_,rfl,qK rfl rfl⟩,rfl⟩,⟨.inl ⟨_,rfl,⟨rfl,rfl,rfl⟩⟩,rfl⟩,⟨.inl ⟨_,rfl,⟨rfl,rfl,rfl⟩⟩,rfl⟩,⟨.inl ⟨_,rfl,⟨rfl,rfl,rfl⟩⟩,rfl⟩,⟨.inl ⟨_,rfl,⟨rfl,rfl,rfl⟩⟩,rfl⟩,⟨.inl ⟨_,rfl,⟨rfl,rfl⟩⟩,rfl⟩,⟨.inl ⟨_,rfl,⟨rfl,rfl⟩⟩,rfl⟩,⟨.inl ⟨_,rfl,⟨rfl,rfl,rfl⟩⟩,rfl⟩,⟨.inl ⟨_,rfl,⟨rfl,rfl,rfl⟩⟩,rfl⟩,trivial⟩
 ·trivial
end Uw.Tryz.El
namespace Uw.Tryz.El
open Go Uw Uw.Tryz
variable {C1 C2 C3 C4 C5 C6 : Dat} {xc : Nat} {rc : List (List Dat)} {gm xm : Nat} {rm : List (List Dat)} {gs xs : Nat} {rs : List (List Dat)} {gc xh : Nat} {rh : List (List Dat)} {xu : Nat} {ru : List (List Dat)} {xp : Nat} {rp : List (List Dat)} {st : Int} {gv xv : Nat} {rv : List (List Dat)} {sp : Int} {gf xf : Nat} {rf rf' : List (List Dat)}
abbrev I7 (gf xf:Nat) (rf rf' : List (List Dat)):Prop:=eM P0 oR [.ref 0 gf 0 xf,.d (.func cv)] [.mt 1 gf rf] (.tuple []) [.mt 1 gf rf']
theorem VH (v:Int) (hv:0<xv) (hrv:rv.length=xv) (e1:rv[0]? = some [I v]) (hs:I7 gf xf rf rf') :
  eM P0 nP [.ptr 0 0] (wG [.d C1,.d C2,.d C3,.d C4,.d C5,.d C6] xc rc gm xm rm gs xs rs gc xh rh xu ru xp rp st gv xv rv sp gf xf rf)
   (.agg [.d (I 0),.d (I v),.ref 1 1 0 xc,.ref 2 gm 0 xm,.ref 3 gs 0 xs,.ref 4 gc 0 xh,.ref 5 0 0 xu,.ref 6 0 0 xp,.d (I sp),.d (I (xv:Nat)),.ref 8 gf 0 xf])
   (wG [.d C1,.d C2,.d C3,.d C4,.d C5,.d C6] xc rc gm xm rm gs xs rs gc xh rh xu ru xp rp st gv xv rv sp gf xf rf'):=by
 refine dB uC.h rfl ?_;refine eE 10 [8] hs ?_
 repeat refine aw ?_
 refine dc 9 rfl rfl ?_;exact Uw.wM
end Uw.Tryz.El
namespace Uw.Tryz.El
open Go Uw Uw.Tryz
def cG (c:Cd):Wd:=⟨c.cells,List.replicate c.maps.toNat ⟨1,[],[]⟩,List.replicate c.stacks.toNat ⟨2,[],[]⟩,List.replicate c.chans.toNat ⟨3,[],[]⟩,[],[],1,[],0,[]⟩
def LM (e:Int):Dat:=.agg [I e,I 0,.nil,.nil,.nil,.nil,.nil,.nil,I 0,I 0,.nil]
def DN (w:Wd) (fails:List (List Int)):Dat:=.agg [I 0,I (w.values.getD 0 0),ae w.cells,.slice 3 (w.maps.map av) false,.slice 3 (w.stacks.map av) false,.slice 3 (w.chans.map av) false,.slice 10 (w.uses.map bA) false,.slice 5 (w.splits.map iz) false,I w.steps,I (w.values.length:Nat),.slice 1 (c9 fails) false]
theorem wn (c:Cd) (hright:Ret P0 dU [cdD c] (.bool false)):Ret P0 dI [cdD c] (LM 1):=by
 refine wc oN.h rfl ?_
 repeat refine aw ?_
 exact ai ⟨_,.inl rfl,.inr rfl,rfl,_,_,rfl,rfl,rfl,rfl⟩
theorem ET (c:Cd) (hc:CO c) (hright:Ret P0 dU [cdD c] (.bool true)) (he:(Vm.c6 c c.main [] 1 []).2≠0):Ret P0 dI [cdD c] (LM (Vm.c6 c c.main [] 1 []).2):=by
 have hSt:=(Vm.s12 c c.main [] 1 [] hc.am hc.pK (by simp) (by simp)).args (ds:=[cdD c,I c.main,.nil,I 1,.nil]) (.cons (.refl _) (.cons (.refl _) (.cons (.nil 1) (.cons (.refl _) (.cons (.nil 1) (.refl _))))));have hB:=ES (.slice 3 (c.am.map bdC) false) c.cells c.maps c.stacks c.chans (I c.main) hc.maps.1 (by have:=hc.maps;omega) hc.stacks.1 (by have:=hc.stacks;omega) hc.chans.1 (by have:=hc.chans;omega) hc.cells;generalize Vm.c6 c c.main [] 1 []=K at *;obtain ⟨K1,K2⟩:=K;simp only at he;refine wc oN.h rfl ?_
 repeat refine aw ?_
 refine eE 2 [] hB ?_
 repeat refine aw ?_
 exact ai ⟨_,.inl rfl,.inr rfl,rfl,_,_,rfl,rfl,rfl,rfl⟩
theorem Hv {c:Cd} (hc:CO c):WI c (cG c):=by
 have h1:=hc.maps;have h2:=hc.stacks;have h3:=hc.chans;have mz:∀(n:Nat) (x:Cont),x.vals=[]->bB (List.replicate n x)=0:=by
  intro n x hx;unfold bB;rw [aan,hx]
  induction n with
  | zero=>rfl
  | succ n ih=>rw [ZJ,List.sum_cons,ih];rfl
 have rk:∀(n:Nat) (k:Int),(k=1\/k=2\/k=3)->∀x∈List.replicate n (⟨k,[],[]⟩:Cont),gw k x:=by
  intro n k hk x hx;rw [Ze hx]
  rcases hk with rfl|rfl|rfl<;>exact ⟨by rfl,rfl⟩
 refine ⟨rfl,?_,?_,?_,rk _ 1 (.inl rfl),rk _ 2 (.inr (.inl rfl)),rk _ 3 (.inr (.inr rfl)),?_,by simp [cG],by simp [cG],by simp [cG],by simp [cG],by simp [cG],by simp [cG],by simp [cG],by simp [cG]⟩
 ·simp [cG];omega
 ·simp [cG];omega
 ·simp [cG];omega
 ·simp only [cG]
  rw [mz _ _ rfl,mz _ _ rfl,mz _ _ rfl];omega
abbrev fc (c:Cd):Wd×Int:=Hg c 64 (cG c) (Vm.c6 c c.main [] 1 []).1 0 0
theorem tj (c:Cd) (hc:CO c) (he:(Vm.c6 c c.main [] 1 []).2=0) :
  eM P0 eh [.agg (frC (Vm.c6 c c.main [] 1 []).1),.d (I 0),.d (I 0),.ptr 0 0,.ptr 1 0,.ptr 2 0] (hB c (cG c)) (.d (I (fc c).2)) (hB c (fc c).1)/\((fc c).2=0->Done c (cG c) (fc c).1):=by
 obtain ⟨e1,e2⟩:=iW he;refine ER c hc 64 (cG c) _ 0 0 (Hv hc) (by simp [cG]) (by simp [cG]) ?_ ?_ ?_ ?_ ?_ ?_
 ·rw [e1];exact e2
 ·rw [e1];rfl
 ·rw [e1];simp [Vm.gq]
 ·rw [e1];rfl
 ·rw [e1];rfl
 ·rw [e1];rfl
theorem Hw (c:Cd):hB c (cG c)=wH [.d (.slice 3 (c.am.map bdC) false),.d (ae c.cells),.d (I c.maps),.d (I c.stacks),.d (I c.chans),.d (I c.main)] c.cells.length (bn c.cells) c.maps.toNat c.maps.toNat (List.replicate c.maps.toNat [I 1,ae [],ae []]) c.stacks.toNat c.stacks.toNat (List.replicate c.stacks.toNat [I 2,ae [],ae []]) c.chans.toNat c.chans.toNat (List.replicate c.chans.toNat [I 3,ae [],ae []]) 0 [] 0 [] 1 0 0 [] 0 0 0 []:=by
 simp [cG,bn,c9,av]
theorem EU (c:Cd) (hc:CO c) (hright:Ret P0 dU [cdD c] (.bool true)) (he:(Vm.c6 c c.main [] 1 []).2=0) (hr:(fc c).2≠0):Ret P0 dI [cdD c] (LM (fc c).2):=by
 have hSt:=(Vm.s12 c c.main [] 1 [] hc.am hc.pK (by simp) (by simp)).args (ds:=[cdD c,I c.main,.nil,I 1,.nil]) (.cons (.refl _) (.cons (.refl _) (.cons (.nil 1) (.cons (.refl _) (.cons (.nil 1) (.refl _))))));have hB0:=ES (.slice 3 (c.am.map bdC) false) c.cells c.maps c.stacks c.chans (I c.main) hc.maps.1 (by have:=hc.maps;omega) hc.stacks.1 (by have:=hc.stacks;omega) hc.chans.1 (by have:=hc.chans;omega) hc.cells;have hrun:=(tj c hc he).1;rw [Hw c] at hrun;generalize fc c=R at *;obtain ⟨W,e⟩:=R;simp only at hrun hr;generalize Vm.c6 c c.main [] 1 []=K at *;obtain ⟨K1,K2⟩:=K;simp only at he hrun;subst he;refine wc oN.h rfl ?_
 repeat refine aw ?_
 refine eE 2 [] hB0 ?_
 repeat refine aw ?_
 refine eE 14 [11,0,12,2,3,4,5,6,7,8,9,10] hrun ?_
 repeat refine aw ?_
 exact ai ⟨_,.inl rfl,.inr rfl,rfl,_,_,rfl,rfl,rfl,rfl⟩
theorem oz {α:Type} {l:List α} {n:Nat} (h:l.length=n):(l.drop 0).take n=l:=by
 subst h;rw [YY];exact ZE
theorem wo (c:Cd) (hc:CO c) (hright:Ret P0 dU [cdD c] (.bool true)) (he:(Vm.c6 c c.main [] 1 []).2=0) (hr:(fc c).2=0) (fails:List (List Int)) (hfl:fails.length=(fc c).1.fails.length) (hsort:I7 (fc c).1.fails.length (fc c).1.fails.length (c9 (fc c).1.fails) (c9 fails)):Ret P0 dI [cdD c] (DN (fc c).1 fails):=by
 have hSt:=(Vm.s12 c c.main [] 1 [] hc.am hc.pK (by simp) (by simp)).args (ds:=[cdD c,I c.main,.nil,I 1,.nil]) (.cons (.refl _) (.cons (.refl _) (.cons (.nil 1) (.cons (.refl _) (.cons (.nil 1) (.refl _))))));have hB0:=ES (.slice 3 (c.am.map bdC) false) c.cells c.maps c.stacks c.chans (I c.main) hc.maps.1 (by have:=hc.maps;omega) hc.stacks.1 (by have:=hc.stacks;omega) hc.chans.1 (by have:=hc.chans;omega) hc.cells;have hrun:=(tj c hc he).1;have hdone:=(tj c hc he).2 hr;rw [Hw c] at hrun;generalize fc c=R at *;obtain ⟨W,e⟩:=R;simp only at hrun hr hdone hsort hfl;subst hr;generalize Vm.c6 c c.main [] 1 []=K at *;obtain ⟨K1,K2⟩:=K;simp only at he hrun;subst he;obtain ⟨n0,hV,_⟩:=hdone.adds;have hv0:0<W.values.length:=by omega
 have e1:(bn W.values)[0]? = some [I (W.values.getD 0 0)]:=by simp [bn,hv0]
 have hT:=VH (C1:=.slice 3 (c.am.map bdC) false) (C2:=ae c.cells) (C3:=I c.maps) (C4:=I c.stacks) (C5:=I c.chans) (C6:=I c.main) (xc:=W.cells.length) (rc:=bn W.cells) (gm:=W.maps.length) (xm:=W.maps.length) (rm:=W.maps.map av) (gs:=W.stacks.length) (xs:=W.stacks.length) (rs:=W.stacks.map av) (gc:=W.chans.length) (xh:=W.chans.length) (rh:=W.chans.map av) (xu:=W.uses.length) (ru:=W.uses.map bA) (xp:=W.splits.length) (rp:=W.splits.map iz) (st:=W.aB) (gv:=W.values.length) (sp:=W.steps) (W.values.getD 0 0) hv0 (by simp [bn]) e1 hsort;have d1:((bn W.cells).drop 0).take W.cells.length=bn W.cells:=oz (by simp [bn]);have d2:((W.maps.map av).drop 0).take W.maps.length=W.maps.map av:=oz (by simp);have d3:((W.stacks.map av).drop 0).take W.stacks.length=W.stacks.map av:=oz (by simp);have d4:((W.chans.map av).drop 0).take W.chans.length=W.chans.map av:=oz (by simp);have d5:((W.uses.map bA).drop 0).take W.uses.length=W.uses.map bA:=oz (by simp);have d6:((W.splits.map iz).drop 0).take W.splits.length=W.splits.map iz:=oz (by simp);have d7:((c9 fails).drop 0).take W.fails.length=c9 fails:=oz (by simp [c9,hfl]);refine wc oN.h rfl ?_
 repeat refine aw ?_
 refine eE 2 [] hB0 ?_
 repeat refine aw ?_
 refine eE 14 [11,0,12,2,3,4,5,6,7,8,9,10] hrun ?_
 repeat refine aw ?_
 refine eE 14 [2,3,4,5,6,7,8,9,10] hT ?_
 repeat refine aw ?_
 refine ai ⟨⟨[(2,.ptr 1 0)],[(1,.var [.d (I 0),.d (I (W.values.getD 0 0)),.ref 3 1 0 W.cells.length,.ref 4 W.maps.length 0 W.maps.length,.ref 5 W.stacks.length 0 W.stacks.length,.ref 6 W.chans.length 0 W.chans.length,.ref 7 0 0 W.uses.length,.ref 8 0 0 W.splits.length,.d (I W.steps),.d (I (W.values.length:Nat)),.ref 10 W.fails.length 0 W.fails.length]),(3,.mt 1 1 (bn W.cells)),(4,.mt 3 W.maps.length (W.maps.map av)),(5,.mt 3 W.stacks.length (W.stacks.map av)),(6,.mt 3 W.chans.length (W.chans.map av)),(7,.arr 10 (W.uses.map bA)),(8,.arr 5 (W.splits.map iz)),(10,.mt 1 W.fails.length (c9 fails))],14,[],0⟩,.inr (by exact Uw.wM),.inr rfl,rfl,_,_,rfl,rfl,?_,?_⟩
 ·simp [tq,V.cur,V.cur.go,look]
 ·show Dat.agg [I 0,I (W.values.getD 0 0),.slice 1 (((bn W.cells).drop 0).take W.cells.length) false,.slice 3 (((W.maps.map av).drop 0).take W.maps.length) false,.slice 3 (((W.stacks.map av).drop 0).take W.stacks.length) false,.slice 3 (((W.chans.map av).drop 0).take W.chans.length) false,.slice 10 (((W.uses.map bA).drop 0).take W.uses.length) false,.slice 5 (((W.splits.map iz).drop 0).take W.splits.length) false,I W.steps,I (W.values.length:Nat),.slice 1 (((c9 fails).drop 0).take W.fails.length) false]=DN W fails
  rw [d1,d2,d3,d4,d5,d6,d7];rfl
end Uw.Tryz.El
namespace Go.Proofs
open Go.Shelf Go.RowKit Go.Lib
def bT:List Int->List Int->Bool
 | [],[]=>false
 | [],_::_=>true
 | _::_,[]=>false
 | x::xs,y::ys=>if x≠y then decide (x<y) else bT xs ys
theorem drop_at {l:List Int} {k:Nat} (h:k<l.length):l.drop k=l.getD k 0::l.drop (k+1):=by
 rw [List.drop_eq_getElem_cons h,List.getD_eq_getElem?_getD,List.getElem?_eq_getElem h];rfl
theorem I8 {xs ys:List Int} {k:Nat} (h1:k<xs.length) (h2:k<ys.length) (h:xs.getD k 0=ys.getD k 0):bT (xs.drop k) (ys.drop k)=bT (xs.drop (k+1)) (ys.drop (k+1)):=by
 rw [drop_at h1,drop_at h2,bT,if_neg (fun e=>e h)]
theorem PT {xs ys:List Int} {k:Nat} (h1:k<xs.length) (h2:k<ys.length) (h:xs.getD k 0≠ys.getD k 0):bT (xs.drop k) (ys.drop k)=decide (xs.getD k 0<ys.getD k 0):=by
 rw [drop_at h1,drop_at h2,bT,if_pos h]
theorem DO {xs ys:List Int} {k:Nat} (h1:k<=xs.length) (h2:k<=ys.length) (h:¬(k<xs.length/\k<ys.length)):bT (xs.drop k) (ys.drop k)=decide (xs.length<ys.length):=by
 by_cases hx:k<xs.length
 ·have hy:¬k<ys.length:=fun e=>h ⟨hx,e⟩
  rw [drop_at hx,List.drop_eq_nil_of_le (by omega:ys.length<=k)];simp [bT];omega
 ·rw [List.drop_eq_nil_of_le (by omega:xs.length<=k)]
  by_cases hy:k<ys.length
  ·rw [drop_at hy];simp [bT];omega
  ·rw [List.drop_eq_nil_of_le (by omega:ys.length<=k)];simp [bT];omega
theorem Tryz.LN (b1 o1 c1 b2 o2 c2:Nat) (xs ys:List Int) (w:World) (hbig:xs.length<1000000) (hbig2:ys.length<1000000) (hc1:∀j,j<xs.length->w.cell? ⟨b1,o1+j,none⟩=some (.int .i64 (xs.getD j 0))) (hc2:∀j,j<ys.length->w.cell? ⟨b2,o2+j,none⟩=some (.int .i64 (ys.getD j 0))) :
  Calls Tryz.prog Uw.Tryz.gC #[.slice (some ⟨b1,o1,none⟩) xs.length c1,.slice (some ⟨b2,o2,none⟩) ys.length c2] w fun e w'=>e = .returned (.bool (bT xs ys))/\∃q,w' = w.drewN q:=by
 go_enter Tryz.func16,Tryz.ntmps16
 go_wp2
 go_loopg [11] (min xs.length ys.length) (fun g s11 wr=>∃k q:Nat,k<=xs.length/\k<=ys.length/\min xs.length ys.length - k<=g/\s11 = .int .i64 k/\wr=w.drewN q/\bT xs ys=bT (xs.drop k) (ys.drop k))
 case atStart=>exact ⟨0,0,Nat.zero_le _,Nat.zero_le _,by omega,rfl,rfl,rfl⟩
 case round=>
  obtain ⟨k,q,hk1,hk2,hg,rfl,rfl,heq⟩:=hrel;by_cases hlt:k<xs.length/\k<ys.length
  ·have g1:w.cell? ⟨b1,o1+k,none⟩=some (.int .i64 (xs.getD k 0)):=hc1 k hlt.1
   have g2:w.cell? ⟨b2,o2+k,none⟩=some (.int .i64 (ys.getD k 0)):=hc2 k hlt.2;have A:Aside (bT xs ys=bT (xs.drop k) (ys.drop k)):=heq;clear heq hc1 hc2;generalize hxk:xs.getD k 0=x at g1;generalize hyk:ys.getD k 0=y at g2;have B:Aside (xs.getD k 0=x/\ys.getD k 0=y):=⟨hxk,hyk⟩
   clear hxk hyk;obtain ⟨hl1,hl2⟩:=hlt;have hm:(k:Int)<min (xs.length:Int) (ys.length:Int):=by omega
   have i1:(k:Int)<xs.length:=by omega
   have i2:(k:Int)<ys.length:=by omega
   by_cases hxy:x=y
   ·subst hxy
    go_wp2_with fail
    go_region
    go_wp2
    go_roundg (min xs.length ys.length - (k+1))
    case measure=>omega
    case rel=>
     refine ⟨k+1,q+1,by omega,by omega,by omega,by go_num,rfl,?_⟩;rw [A.out];exact I8 hl1 hl2 (by rw [B.out.1,B.out.2])
   ·go_wp2_with fail
    go_region
    go_wp2_with fail
    go_region
    go_wp2
    go_ret
    refine ⟨?_,q+2,rfl⟩;rw [A.out,PT hl1 hl2 (by rw [B.out.1,B.out.2];exact hxy),B.out.1,B.out.2];rfl
  ·clear hc1 hc2
   go_wp2
   go_ret
   refine ⟨?_,q,rfl⟩;rw [heq,DO hk1 hk2 hlt];rfl
theorem Tryz.PU (a1 a2:Option Addr) (n c1 m c2:Nat) (w:World) (hbig:n<1000000) (hbig2:m<1000000) (h:n=0\/m=0) :
  Calls Tryz.prog Uw.Tryz.gC #[.slice a1 n c1,.slice a2 m c2] w fun e w'=>e = .returned (.bool (decide (n<m)))/\∃q,w' = w.drewN q:=by
 have hm:¬(0:Int)<min (n:Int) (m:Int):=by omega
 go_enter Tryz.func16,Tryz.ntmps16
 go_wp2
 go_loopg [11] 0 (fun _ s11 wr=>s11 = .int .i64 0/\wr=w)
 case atStart=>exact ⟨rfl,rfl⟩
 case round=>
  obtain ⟨rfl,rfl⟩:=hrel
  go_wp2
  go_ret
  exact ⟨rfl,0,rfl⟩
def oC (w:World) (v:Value) (xs:List Int):Prop:=
 (∃a c,v = .slice a 0 c/\xs=[])\/∃b o c,v = .slice (some ⟨b,o,none⟩) xs.length c/\∀j,j<xs.length->w.cell? ⟨b,o+j,none⟩=some (.int .i64 (xs.getD j 0))
theorem oC.drew {w:World} {v:Value} {xs:List Int} (h:oC w v xs) (q:Nat):oC (w.drewN q) v xs:=h
theorem oC.sl {w:World} {v:Value} {xs:List Int} (h:oC w v xs):∃a c,v = .slice a xs.length c:=by
 rcases h with ⟨a,c,rfl,rfl⟩|⟨b,o,c,rfl,_⟩
 ·exact ⟨_,_,rfl⟩
 ·exact ⟨_,_,rfl⟩
theorem LO {xs ys:List Int} (h:xs.length=0\/ys.length=0):bT xs ys=decide (xs.length<ys.length):=by
 have:=DO (xs:=xs) (ys:=ys) (k:=0) (Nat.zero_le _) (Nat.zero_le _) (by omega);simpa using this
theorem Tryz.Hy (w:World) (v u:Value) (xs ys:List Int) (h1:oC w v xs) (h2:oC w u ys) (hbig:xs.length<1000000) (hbig2:ys.length<1000000) :
  Calls Tryz.prog Uw.Tryz.gC #[v,u] w fun e w'=>e = .returned (.bool (bT xs ys))/\∃q,w' = w.drewN q:=by
 by_cases hz:xs.length=0\/ys.length=0
 ·obtain ⟨a,c,rfl⟩:=h1.sl
  obtain ⟨a',c',rfl⟩:=h2.sl;rw [LO hz];exact Tryz.PU a a' _ c _ c' w hbig hbig2 hz
 ·rcases h1 with ⟨a,c,rfl,rfl⟩|⟨b,o,c,rfl,e1⟩
  ·simp at hz
  rcases h2 with ⟨a,c,rfl,rfl⟩|⟨b',o',c',rfl,e2⟩
  ·simp at hz
  exact Tryz.LN b o c b' o' c' xs ys w hbig hbig2 e1 e2
def BF (xs ys:List Int):Int:=if bT xs ys then -1 else if bT ys xs then 1 else 0
theorem Tryz.Pn (w:World) (v u:Value) (xs ys:List Int) (h1:oC w v xs) (h2:oC w u ys) (hbig:xs.length<1000000) (hbig2:ys.length<1000000) :
  Calls Tryz.prog Uw.Tryz.cv #[v,u] w fun e w'=>e = .returned (.int .i64 (BF xs ys))/\∃q,w' = w.drewN q:=by
 have hA:=Tryz.Hy w v u xs ys h1 h2 hbig hbig2;have hB:=fun q=>Tryz.Hy (w.drewN q) u v ys xs (h2.drew q) (h1.drew q) hbig2 hbig;clear h1 h2;unfold BF;generalize bT xs ys=p at hA ⊢;generalize bT ys xs=p' at hB ⊢
 go_enter Tryz.func63,Tryz.ntmps63
 have eg:Uw.Tryz.gC=16:=rfl;rw [eg] at hA hB
 cases p
 ·go_wp2_with fail
  go_at_call 16
  refine hA.mono ?_;clear hA;rintro e w' ⟨rfl,q,rfl⟩;have hB:=hB q
  go_wp2_with fail
  go_at_call 16
  refine hB.mono ?_;clear hB;rintro e w' ⟨rfl,q2,rfl⟩
  cases p'
  ·go_wp2
   go_ret
   exact ⟨rfl,q+q2,rfl⟩
  ·go_wp2
   go_ret
   exact ⟨rfl,q+q2,rfl⟩
 ·go_wp2_with fail
  go_at_call 16
  refine hA.mono ?_;clear hA hB;rintro e w' ⟨rfl,q,rfl⟩
  go_wp2
  go_ret
  exact ⟨rfl,q,rfl⟩
end Go.Proofs
namespace Go.Proofs
open Go.Shelf
def Tryz.LP:Go.Shelf.Ren:=⟨fun|6=>62|15=>108|14=>107|28=>154|29=>155|20=>146|21=>147|22=>148|23=>149|24=>150|25=>151|26=>152|27=>153|46=>178|47=>179|48=>180|49=>181|50=>182|57=>200|n=>n,fun|22=>32|24=>23|25=>127|3=>3|39=>152|0=>0|53=>205|55=>207|4=>4|46=>199|45=>198|50=>153|5=>5|9=>9|66=>227|70=>231|76=>243|77=>192|n=>n,fun|n=>n⟩
theorem Tryz.TF:Go.Proofs.SlLaysF.n6 Tryz.prog Tryz.LP:={
 mixed:=by kernel_rfl
 f6:=⟨Tryz.f62.name,by decide,Tryz.func62.trans (congrArg some (by kernel_rfl))⟩
 f14:=⟨Tryz.f107.name,by decide,Tryz.func107.trans (congrArg some (by kernel_rfl))⟩
 f15:=Tryz.func108.trans (congrArg some (by kernel_rfl))
 f20:=⟨Tryz.f146.name,by decide,Tryz.func146.trans (congrArg some (by kernel_rfl))⟩
 f21:=⟨Tryz.f147.name,by decide,Tryz.func147.trans (congrArg some (by kernel_rfl))⟩
 f22:=⟨Tryz.f148.name,by decide,Tryz.func148.trans (congrArg some (by kernel_rfl))⟩
 f23:=⟨Tryz.f149.name,by decide,Tryz.func149.trans (congrArg some (by kernel_rfl))⟩
 f24:=⟨Tryz.f150.name,by decide,Tryz.func150.trans (congrArg some (by kernel_rfl))⟩
 f25:=⟨Tryz.f151.name,by decide,Tryz.func151.trans (congrArg some (by kernel_rfl))⟩
 f26:=⟨Tryz.f152.name,by decide,Tryz.func152.trans (congrArg some (by kernel_rfl))⟩
 f27:=⟨Tryz.f153.name,by decide,Tryz.func153.trans (congrArg some (by kernel_rfl))⟩
 f28:=Tryz.func154.trans (congrArg some (by kernel_rfl))
 f29:=Tryz.func155.trans (congrArg some (by kernel_rfl))
 f46:=⟨Tryz.f178.name,by decide,Tryz.func178.trans (congrArg some (by kernel_rfl))⟩
 f47:=Tryz.func179.trans (congrArg some (by kernel_rfl))
 f48:=Tryz.func180.trans (congrArg some (by kernel_rfl))
 f49:=⟨Tryz.f181.name,by decide,Tryz.func181.trans (congrArg some (by kernel_rfl))⟩
 f50:=⟨Tryz.f182.name,by decide,Tryz.func182.trans (congrArg some (by kernel_rfl))⟩
 f57:=⟨Tryz.f200.name,by decide,Tryz.func200.trans (congrArg some (by kernel_rfl))⟩
 t0:=Tryz.underlying0
 a0:=Tryz.isAgg0
 z0:=Tryz.sizeOf0
 v0:=Tryz.zeroValue0
 t3:=Tryz.underlying3
 a3:=Tryz.isAgg3
 z3:=Tryz.sizeOf3
 v3:=Tryz.zeroValue3
 t4:=Tryz.underlying4
 a4:=Tryz.isAgg4
 z4:=Tryz.sizeOf4
 v4:=Tryz.zeroValue4
 t5:=Tryz.underlying5
 a5:=Tryz.isAgg5
 z5:=Tryz.sizeOf5
 v5:=Tryz.zeroValue5
 t9:=Tryz.underlying9
 a9:=Tryz.isAgg9
 z9:=Tryz.sizeOf9
 v9:=Tryz.zeroValue9
 t22:=Tryz.underlying32
 a22:=Tryz.isAgg32
 z22:=Tryz.sizeOf32
 v22:=Tryz.zeroValue32
 a24:=Tryz.isAgg23
 z24:=Tryz.sizeOf23
 t25:=Tryz.underlying127
 a25:=Tryz.isAgg127
 z25:=Tryz.sizeOf127
 v25:=Tryz.zeroValue127
 t39:=Tryz.underlying152
 a39:=Tryz.isAgg152
 z39:=Tryz.sizeOf152
 v39:=Tryz.zeroValue152
 t45:=Tryz.underlying198
 a45:=Tryz.isAgg198
 z45:=Tryz.sizeOf198
 v45:=Tryz.zeroValue198
 t46:=Tryz.underlying199
 a46:=Tryz.isAgg199
 z46:=Tryz.sizeOf199
 v46:=Tryz.zeroValue199
 t50:=Tryz.underlying153
 a50:=Tryz.isAgg153
 z50:=Tryz.sizeOf153
 v50:=Tryz.zeroValue153
 t53:=Tryz.underlying205
 a53:=Tryz.isAgg205
 z53:=Tryz.sizeOf205
 v53:=Tryz.zeroValue205
 t55:=Tryz.underlying207
 a55:=Tryz.isAgg207
 z55:=Tryz.sizeOf207
 v55:=Tryz.zeroValue207
 t66:=Tryz.underlying227
 a66:=Tryz.isAgg227
 z66:=Tryz.sizeOf227
 v66:=Tryz.zeroValue227
 t70:=Tryz.underlying231
 a70:=Tryz.isAgg231
 z70:=Tryz.sizeOf231
 v70:=Tryz.zeroValue231
 t76:=Tryz.underlying243
 a76:=Tryz.isAgg243
 z76:=Tryz.sizeOf243
 v76:=Tryz.zeroValue243
 t77:=Tryz.underlying192
 a77:=Tryz.isAgg192
 z77:=Tryz.sizeOf192
 v77:=Tryz.zeroValue192 }
end Go.Proofs
namespace Go.Proofs
open Go.Sort
theorem q9:∀xs,bT xs xs=false
 | []=>rfl
 | x::xs=>by rw [bT,if_neg (by simp)];exact q9 xs
theorem pA:∀xs ys zs,bT xs ys=true->bT ys zs=true->bT xs zs=true
 | [],[],_,h,_=>by simp [bT] at h
 | [],y::ys,[],_,h=>by simp [bT] at h
 | [],y::ys,z::zs,_,_=>rfl
 | x::xs,[],_,h,_=>by simp [bT] at h
 | x::xs,y::ys,[],_,h=>by simp [bT] at h
 | x::xs,y::ys,z::zs,h1,h2=>by
  have ih:=pA xs ys zs;simp only [bT] at h1 h2 ⊢;by_cases e1:x=y
  ·subst e1
   simp only [ne_eq,not_true_eq_false,if_false] at h1;by_cases e2:x=z
   ·subst e2
    simp only [ne_eq,not_true_eq_false,if_false] at h2 ⊢;exact ih h1 h2
   ·simp only [ne_eq,e2,not_false_eq_true,if_true] at h2 ⊢;exact h2
  ·simp only [ne_eq,e1,not_false_eq_true,if_true,decide_eq_true_eq] at h1
   by_cases e2:y=z
   ·subst e2
    simp only [ne_eq,e1,not_false_eq_true,if_true,decide_eq_true_eq];exact h1
   ·simp only [ne_eq,e2,not_false_eq_true,if_true,decide_eq_true_eq] at h2
    have e3:¬x=z:=by omega
    simp only [ne_eq,e3,not_false_eq_true,if_true,decide_eq_true_eq];omega
theorem xF:∀xs ys,bT xs ys=false->bT ys xs=false->xs=ys
 | [],[],_,_=>rfl
 | [],y::ys,h,_=>by simp [bT] at h
 | x::xs,[],_,h=>by simp [bT] at h
 | x::xs,y::ys,h1,h2=>by
  have ih:=xF xs ys;simp only [bT] at h1 h2;by_cases e1:x=y
  ·subst e1
   simp only [ne_eq,not_true_eq_false,if_false] at h1 h2;rw [ih h1 h2]
  ·have e2:¬y=x:=fun e=>e1 e.symm
   simp only [ne_eq,e1,e2,not_false_eq_true,if_true,decide_eq_false_iff_not] at h1 h2;omega
theorem kJ (xs ys:List Int):ltOf BF xs ys=bT xs ys:=by
 unfold ltOf BF
 cases h:bT xs ys with
 | true=>rfl
 | false=>cases bT ys xs<;>rfl
theorem wq:SWO (ltOf BF) where
 irrefl x:=by rw [kJ];exact q9 x
 trans x y z h1 h2:=by rw [kJ] at *;exact pA x y z h1 h2
 ntrans x y z h1 h2:=by
  rw [kJ] at *
  cases h:bT x z with
  | false=>rfl
  | true=>
   cases h3:bT y x with
   | true=>rw [pA y x z h3 h] at h2;cases h2
   | false=>rw [xF x y h1 h3] at h;rw [h] at h2;cases h2
end Go.Proofs
namespace Uw.Tryz.El
open Go Uw Uw.Tryz Go.Proofs
theorem xG {w:World} {J:Nat->Nat->Prop} {b:Nat}:∀(xs:List Int) (o:Nat),bU w J b 1 o (xs.map fun i=>[I i])->∀j,j<xs.length->w.cell? ⟨b,o+j,none⟩=some (.int .i64 (xs.getD j 0))
 | [],o,_,j,h=>by simp at h
 | x::xs,o,hr,j,h=>by
  rw [ZD,bU] at hr;obtain ⟨_,hc,hr⟩:=hr
  cases j with
  | zero=>
   rw [du] at hc;obtain ⟨⟨v,h1,_,_,h2⟩,_⟩:=hc;rw [aG] at h2;subst h2;exact h1
  | succ j=>
   have:=xG xs (o+1) hr j (by simpa using h);have e:o+(j+1)=o+1+j:=by omega
   rw [e];exact this
theorem LQ {w:World} {J:Nat->Nat->Prop} {xs:List Int} {v:Value} (h:aG w J (ae xs) v):oC w v xs:=by
 unfold ae at h;rw [aG] at h
 rcases h with ⟨⟨x,rfl,_⟩,h⟩|⟨b,o,cap,rfl,_,_,hr⟩
 ·exact .inl ⟨x,0,rfl,by simpa using h⟩
 ·exact .inr ⟨b,o,cap,by simp,xG xs o hr⟩
end Uw.Tryz.El
namespace Uw.Tryz.El
open Go Uw Uw.Tryz Go.Proofs Go.Sort Go.Lib
theorem AY {α:Type} [Inhabited α] (enc:α->Value) (w:World) (blk off m:Nat) (dk:Array α) (os:Array Obj) (a:Addr) (h:a.block≠blk) (hb:a.block<w.heap.size):(sortWorld enc w blk off m dk os).cell? a=w.cell? a:=by
 unfold sortWorld;rw [cell?_grow _ _ _ (by rw [Go.Sort.size_putRow];exact hb),cell?_putRow_other _ _ _ _ _ _ (.inl h)];rfl
def yW (w:World) (blk:Nat) (v:Value) (xs:List Int):Prop:=
 (∃a c,v = .slice a 0 c/\xs=[])\/∃b o c,v = .slice (some ⟨b,o,none⟩) xs.length c/\b≠blk/\b<w.heap.size/\∀j,j<xs.length->w.cell? ⟨b,o+j,none⟩=some (.int .i64 (xs.getD j 0))
theorem yW.at {α:Type} [Inhabited α] {enc:α->Value} {w:World} {blk off m:Nat} {dk:Array α} {os:Array Obj} {v:Value} {xs:List Int} (h:yW w blk v xs):oC (sortWorld enc w blk off m dk os) v xs:=by
 rcases h with h|⟨b,o,c,h1,h2,h3,h4⟩
 ·exact .inl h
 ·exact .inr ⟨b,o,c,h1,fun j hj=>by rw [AY _ _ _ _ _ _ _ _ h2 h3];exact h4 j hj⟩
theorem LR {α:Type} [Inhabited α] (enc:α->Value) (l:α->List Int) (w:World) (blk off size:Nat) (h:∀x,yW w blk (enc x) (l x)/\(l x).length<1000000) :
  CmpReads Tryz.prog cv #[] enc (fun x y=>BF (l x) (l y)) blk off size w:=by
 intro m os dk hs x y;exact Tryz.Pn _ _ _ (l x) (l y) (h x).1.at (h y).1.at (h x).2 (h y).2
end Uw.Tryz.El
namespace Uw.Tryz.El
open Go Uw Uw.Tryz Go.Proofs Go.Sort Go.Lib
def j0 (l:List (List Int)):List (List Int):=l.mergeSort fun x y=>!bT y x
theorem Hz {x y:List Int} (h:bT x y=true):bT y x=false:=by
 cases h2:bT y x with
 | false=>rfl
 | true=>have:=pA x y x h h2;rw [q9] at this;cases this
theorem EV {x y z:List Int} (h1:bT x y=false) (h2:bT y z=false):bT x z=false:=by
 have:=wq.ntrans x y z;rw [kJ,kJ,kJ] at this;exact this h1 h2
theorem PV (l:List (List Int)):(j0 l).Pairwise fun x y=>bT y x=false:=by
 have h:=List.pairwise_mergeSort (le:=fun x y=>!bT y x) (fun a b c h1 h2=>by
  simp only [ZC] at h1 h2 ⊢;exact EV h2 h1) (fun a b=>by
  cases h:bT b a with
  | false=>simp
  | true=>simp [Hz h]) l
 exact h.imp fun h=>by simpa using h
theorem AZ (l:List (List Int)):(j0 l).Perm l:=List.mergeSort_perm _ _
theorem EW {l l' : List (List Int)} (hp:l'.Perm l) (hs:l'.Pairwise fun x y=>bT y x=false):l' = j0 l:=by
 refine List.Perm.eq_of_pairwise (le:=fun x y=>bT y x=false) ?_ hs (PV l) (hp.trans (AZ l).symm);intro a b _ _ h1 h2;exact xF a b h2 h1
abbrev Sb (w:World) (J:Nat->Nat->Prop):={p:List Int×Value // aG w J (ae p.1) p.2/\p.1.length<1000000}
theorem Xu {w:World} {J:Nat->Nat->Prop}:∀(l:List (List Int)) (vs:List Value),aQ w J (l.map ae) vs->(∀x∈l,x.length<1000000)->∃d:List (Sb w J),d.map (fun p=>p.1.1)=l/\d.map (fun p=>p.1.2)=vs
 | [],vs,h,_=>by rw [List.map_nil,aQ] at h;exact ⟨[],rfl,h.symm⟩
 | x::l,vs,h,hb=>by
  rw [ZD,aQ] at h;obtain ⟨v,vs',rfl,h1,h2⟩:=h;obtain ⟨d,e1,e2⟩:=Xu l vs' h2 fun y hy=>hb y (by simp [hy]);exact ⟨⟨(x,v),h1,hb x (by simp)⟩::d,by simp [e1],by simp [e2]⟩
theorem Xv {w:World} {J:Nat->Nat->Prop}:∀(d:List (Sb w J)),aQ w J ((d.map fun p=>p.1.1).map ae) (d.map fun p=>p.1.2)
 | []=>by simp [aQ]
 | x::d=>by
  simp only [ZD,aQ];exact ⟨_,_,rfl,x.2.1,Xv d⟩
theorem DR (l:List (List Int)):(c9 l).flatten=l.map ae:=by
 induction l with
 | nil=>rfl
 | cons x l ih=>simp only [c9,ZD,Zk] at ih ⊢;rw [ih];rfl
theorem SH {c:Cx} {w0:World} {nx:Nat} (hr:cz c w0 nx) {id k ver:Nat} {ys:List (List Dat)} (hl:look c.heap id=some (.mt k ver ys)) (hcap:0<(c.pl id).cap) {xs:List Int} {v:Value} (h:aG c.w (Imm c) (ae xs) v):yW c.w (c.pl id).gb v xs:=by
 have h0:=LQ h;unfold ae at h;rw [aG] at h
 rcases h with ⟨⟨x,rfl,_⟩,h⟩|⟨b,o,cap,rfl,_,_,hr1⟩
 ·exact .inl ⟨x,0,rfl,by simpa using h⟩
 ·cases xs with
  | nil=>exact .inl ⟨_,_,rfl,rfl⟩
  | cons x xs=>
   have hrr:=hr1;rw [ZD,bU] at hr1;obtain ⟨_,hc,_⟩:=hr1;rw [du] at hc;obtain ⟨⟨u,_,hJ,_,_⟩,_⟩:=hc;refine .inr ⟨b,o,cap,by simp,?_,hr.zd hJ,xG _ _ hrr⟩;intro e;subst e
   rcases hJ with hJ|⟨_,_,g⟩
   ·exact hr.ge id _ hl hcap hJ.1
   ·obtain ⟨_,_,hh,_⟩:=g id _ hl hcap rfl;cases hh
section
variable {α : Type} [Inhabited α]
theorem DT (enc:α->Value) (w:World) (blk off n:Nat) (d:Array α) (os:Array Obj) (k:Nat) (hk:k<w.heap.size) (hne:k≠blk):(sortWorld enc w blk off n d os).heap[k]? = w.heap[k]?:=by
 unfold sortWorld;rw [heap_grow_old _ _ (by rw [Go.Sort.size_putRow];exact hk)];simp only [putRow,mapBlock,aaB];rw [if_neg fun e=>hne e.symm];rfl
theorem EX (enc:α->Value) (w:World) (blk off n:Nat) (d:Array α) (os:Array Obj) {cs:Array Value} {e:TypeId} {fr:Nat×Nat} (hb:w.heap[blk]? = some (.cells cs e fr)):(sortWorld enc w blk off n d os).heap[blk]? = some (.cells (putCells enc off d cs) e fr):=by
 have hk:blk<w.heap.size:=by
  rcases ZG blk w.heap.size with h|h
  ·exact h
  ·rw [ZI h] at hb;cases hb
 unfold sortWorld;rw [heap_grow_old _ _ (by rw [Go.Sort.size_putRow];exact hk)];simp only [putRow,mapBlock,aaB,if_true];show (w.heap[blk]?).map _=_;rw [hb];rfl
theorem I9 (enc:α->Value) (w:World) (blk off n:Nat) (d:Array α) (os:Array Obj) (B:Nat) (h:B<=blk) (hB:B<=w.heap.size):Go.RowKit.Below B w (sortWorld enc w blk off n d os):=by
 refine ⟨rfl,rfl,rfl,?_,fun k hk=>DT enc w blk off n d os k (by omega) (by omega)⟩;simp [sortWorld,grow,putRow,mapBlock,Go.Sort.ahead]
end
theorem HA {P:Program} {f:FuncId} (h:mV P f):∀args w,(callFunc f args).run P w = .ok (.enter f args) w:=by
 obtain ⟨fn,hf,hb,hn⟩:=h;obtain ⟨c,hc⟩:=aa9.1 hb;exact Go.Proofs.enters_of hf hn hc
theorem Sb.swo (w:World) (J:Nat->Nat->Prop):SWO (ltOf fun (x y:Sb w J)=>BF x.1.1 y.1.1):=
 ⟨fun x=>wq.irrefl x.1.1,fun x y z=>wq.trans x.1.1 y.1.1 z.1.1,fun x y z=>wq.ntrans x.1.1 y.1.1 z.1.1⟩
theorem TG {v:Value} {w:World} {J:Nat->Nat->Prop} {xs:List Int} (h:aG w J (ae xs) v):v.oneCell' = true/\one v=true:=by
 unfold ae at h;rw [aG] at h
 rcases h with ⟨⟨x,rfl,_⟩,h⟩|⟨b,o,cap,rfl,_,_,hr1⟩<;>exact ⟨rfl,rfl⟩
theorem Kp (fails:List (List Int)) (hl:∀x∈fails,x.length<1000000) (hn:fails.length<1000000):I7 fails.length fails.length (c9 fails) (c9 (j0 fails)):=by
 refine ⟨vA.h.body,?_⟩;intro c w0 F gvs hh hr hK hp hv;obtain ⟨v1,YP,rfl,hv1,hv2⟩:=hv;obtain ⟨v2,Ys,rfl,hv2,hv3⟩:=hv2;have hv3:Ys=[]:=hv3;subst hv3;have hv2:v2 = .func (.func cv) #[] #[]:=hv2;subst hv2;have hlk:look c.heap 0=some (.mt 1 fails.length (c9 fails)):=by rw [hh];rfl
 have hrl:(c9 fails).length=fails.length:=by simp [c9]
 simp only [aD,hlk] at hv1;obtain ⟨_,_,hv1⟩:=hv1;obtain ⟨hlen,hv1⟩:=hv1 rfl;obtain ⟨b1,b2,b3⟩:=hr.blk 0 _ hlk;rw [hrl] at b1;by_cases h0:fails=[]
 ·subst h0
  have hx:∃x cp,v1 = .slice x 0 cp:=by
   rcases hv1 with ⟨e,_⟩|⟨b,o,e,_⟩
   ·exact ⟨_,_,e⟩
   ·exact ⟨_,_,e⟩
  obtain ⟨x,cp,rfl⟩:=hx;refine (AnyF.slices_SortFunc_none { Tryz.TF with } x cp _ c.w).mono ?_;rintro e w' ⟨rfl,rfl⟩;exact ⟨c,.val (.tuple []),_,rfl,rfl,rfl,hr,Ls _,hp,⟨[],rfl,rfl⟩,rfl,by rw [hh];simp [j0],rfl⟩
 have hpos:0<fails.length:=aaj.2 h0;have hcap:0<(c.pl 0).cap:=by omega
 obtain ⟨vs,e0,g1,g2,g3,g4⟩:=b3 hcap
 rcases hv1 with ⟨_,e,_⟩|⟨b,o,rfl,hbo⟩
 ·omega
 obtain ⟨rfl,rfl⟩:=hbo (by omega);rw [hrl,Nat.mul_one] at g3 g4;rw [DR] at g3;obtain ⟨d,d1,d2⟩:=Xu fails _ g3 hl;have hdl:d.length=fails.length:=by rw [<- d1,ZZ]
 have hge:=hr.ge 0 _ hlk hcap;have hgb:=hr.geB hlk hcap;have hlt:(c.pl 0).gb<c.w.heap.size:=hr.i6 hlk hcap
 letI:Inhabited (Sb c.w (Imm c)):=⟨d[0]'(by omega)⟩
 have hds:d.toArray.size=fails.length:=by simp [hdl]
 have hcell:∀j,j<fails.length->vs[j]? = some (d.toArray[j]!).1.2:=by
  intro j hj;have h1:(vs.toList.take fails.length)[j]? = (d.map fun p=>p.1.2)[j]?:=by rw [d2]
  rw [ON,if_pos hj,Zd] at h1;rw [<- Zx,h1,getElem!_pos d.toArray j (by omega)];simp [show j<d.length by omega]
 have hH:Holds (fun p:Sb c.w (Imm c)=>p.1.2) c.w (c.pl 0).gb 0 d.toArray:=by
  intro j hj;rw [hds] at hj;refine ⟨?_,?_⟩
  ·show c.w.cell? ⟨(c.pl 0).gb,0+j,none⟩=_
   rw [<- hcell j hj,Y9];simp [World.cell?,g1]
  ·simp [World.frozen?,g1]
 have hcmp:CmpReads Tryz.prog cv #[] (fun p:Sb c.w (Imm c)=>p.1.2) (fun x y=>BF x.1.1 y.1.1) (c.pl 0).gb 0 d.toArray.size c.w:=
  LR _ (fun p:Sb c.w (Imm c)=>p.1.1) c.w _ _ _ fun x=>⟨SH hr hlk hcap x.2.1,x.2.2⟩
 have hS:=Any.slices_SortFunc Tryz.TF (fun p:Sb c.w (Imm c)=>p.1.2) (fun x=>(TG x.2.1).1) (fun x y=>BF x.1.1 y.1.1) (Sb.swo _ _) cv #[] (c.pl 0).gb 0 ((c.pl 0).cap - 0) d.toArray c.w (HA rX.h.body) hcmp.lays hH hlt (by omega);rw [hds] at hS;refine Calls.mono hS ?_;rintro e w' ⟨rfl,d',n,os,hP,hSo,rfl⟩;obtain ⟨p1,_,p3⟩:=hP;rw [hds] at p1;have ex1:d'.extract 0 fails.length=d':=by rw [<- p1];exact Array.extract_size
 have ex2:d.toArray.extract 0 fails.length=d.toArray:=by rw [<- hds];exact Array.extract_size
 rw [ex1,ex2] at p3;have hfl:d'.toList.map (fun p=>p.1.1)=j0 fails:=by
  refine EW ?_ ?_
  ·rw [<- d1];exact p3.map _
  ·rw [ZL]
   intro i j hi hj hij;have hi' : i<d'.size:=by simpa using hi
   have hj' : j<d'.size:=by simpa using hj
   have:=hSo i j (ZN _) hij (by omega);rw [getElem!_pos d' j hj',getElem!_pos d' i hi'] at this;have h2:ltOf BF d'[j].1.1 d'[i].1.1=false:=this;rw [kJ] at h2;simpa using h2
 have hother:∀k,k<c.w.heap.size->(Ph (c.pl 0) (.mt 1 fails.length (c9 fails))->k≠(c.pl 0).gb)->(sortWorld (fun p:Sb c.w (Imm c)=>p.1.2) c.w (c.pl 0).gb 0 n d' os).heap[k]? = c.w.heap[k]?:=
  fun k hk hne=>DT _ _ _ _ _ _ _ k hk (hne hcap)
 have hbel:=I9 (fun p:Sb c.w (Imm c)=>p.1.2) c.w (c.pl 0).gb 0 n d' os c.B hgb (by omega);have hat:=EX (fun p:Sb c.w (Imm c)=>p.1.2) c.w (c.pl 0).gb 0 n d' os g1;generalize sortWorld (fun p:Sb c.w (Imm c)=>p.1.2) c.w (c.pl 0).gb 0 n d' os=w' at *;have hrl2:(c9 (j0 fails)).length=fails.length:=by rw [<- hfl];simp [c9,p1]
 have hev:Evo c (c.aH 0 (.mt 1 fails.length (c9 (j0 fails))) (c.pl 0) w'):=by
  refine Evo.aH hr hlk hother hbel.size (.inl ⟨rfl,fun _=>hcap⟩) ?_ ⟨rfl,Ls _,fun _=>⟨rfl,by rw [hrl2,hrl]⟩⟩;intro _ o' hi;exfalso
  rcases hi with hi|⟨_,_,g3⟩
  ·exact hge hi.1
  ·obtain ⟨_,_,hh,_⟩:=g3 0 _ hlk hcap rfl;cases hh
 have htk:(putCells (fun p:Sb c.w (Imm c)=>p.1.2) 0 d' vs).toList.take fails.length=d'.toList.map fun p=>p.1.2:=by
  apply ZW;intro k;rw [ON,Zd]
  split
  ·rename_i hk
   rw [Zx];simp only [putCells,Array.getElem?_mapIdx];obtain ⟨v,hv⟩:∃v,vs[k]? = some v:=⟨_,hcell k hk⟩
   rw [hv,aay,if_pos ⟨ZN _,by omega⟩];simp only [aaM];rw [getElem!_pos d' k (by omega),Zx,aa8 (by omega)];rfl
  ·rename_i hk
   rw [Zx,ZI (by omega)];rfl
 have hH:cz (c.aH 0 (.mt 1 fails.length (c9 (j0 fails))) (c.pl 0) w') w0 1:=by
  refine hr.aH hlk hev hother hbel (.inl ⟨rfl,fun _=>hcap⟩) ?_;refine ⟨by rw [af.2,hrl2];exact b1,?_,fun _=>⟨_,e0,by rw [af.2];exact hat,?_,?_,?_⟩⟩
  ·intro x hx
   simp only [c9,aaQ] at hx;obtain ⟨y,_,rfl⟩:=hx;rfl
  ·rw [af.2];simpa [putCells] using g2
  ·refine aQ.keep hev.keeps _ _ ?_
   rw [hrl2,Nat.mul_one,htk,DR,<- hfl];exact Xv _
  ·intro u hu
   rw [hrl2,Nat.mul_one,htk,aaQ] at hu;obtain ⟨p,_,rfl⟩:=hu;exact (TG p.2.1).2
 have hhq:∀i,look (aM 0 [.mt 1 fails.length (c9 (j0 fails))]) i=look (c.aH 0 (.mt 1 fails.length (c9 (j0 fails))) (c.pl 0) w').heap i:=by
  intro i;simp only [Cx.aH,hh,aM,aE]
  split<;>rfl
 have hev2:=Evo.heq hhq;exact ⟨{ c.aH 0 (.mt 1 fails.length (c9 (j0 fails))) (c.pl 0) w' with heap:=aM 0 [.mt 1 fails.length (c9 (j0 fails))] },.val (.tuple []),1,rfl,rfl,rfl,hH.heq hhq,Ls _,F.ok _ _ (hev2.toK _) (F.ok _ _ (hev.toK _) hp),⟨[],rfl,rfl⟩,rfl,rfl,rfl⟩
end Uw.Tryz.El
namespace Uw.Tryz.El
open Go Uw Uw.Tryz
abbrev bD (w:Wd) (g:Vm.Frame) (b:Int):Int:=if isNamed g then b else w.aB+2
structure Ind (c:Cd) (pre:Wd->Vm.Frame->Int->Int->Prop) (lp:Wd->Vm.Frame->Int->Int->Wd->Vm.Frame->Int->Int->Prop) (dn:Wd->Vm.Frame->Int->Int->Wd->Prop):Prop where
 start:∀{w f s ab},WI c w->Vm.right c f=true->f.task=(w.values.length:Int)+1->f.many=0->f.kids=[]->f.spent=0->pre w f s ab->lp w f s ab { w with values:=w.values++[0] } f s 0
 load:∀{w0 f0 s0 ab w f s b g a},WI c w0->Lp c w0 w f->lp w0 f0 s0 ab w f s b->Vm.cq c f = .ok g a->a.kind=1->(Vm.aU g 1 a.b [w.cells.getD a.a.toNat 0]).2=0->lp w0 f0 s0 ab (pz w g.path s a.a) (Vm.ky g 1 a.b [w.cells.getD a.a.toNat 0]) s b
 store:∀{w0 f0 s0 ab w f s b g a},WI c w0->Lp c w0 w f->lp w0 f0 s0 ab w f s b->Vm.cq c f = .ok g a->a.kind=2->(Vm.aU g 2 a.b []).2=0->lp w0 f0 s0 ab (iV w g.path s a.a a.b) (Vm.ky g 2 a.b []) s b
 call:∀{w0 f0 s0 ab w f s b g a},WI c w0->Lp c w0 w f->lp w0 f0 s0 ab w f s b->Vm.cq c f = .ok g a->a.kind=3->(Vm.aU g 3 a.b [eD w (opA a)]).2=0->lp w0 f0 s0 ab (bC w g.path s (opA a)) (Vm.ky g 3 a.b [eD w (opA a)]) s b
 kid:∀{w0 f0 s0 ab w f s b g a},WI c w0->Lp c w0 w f->lp w0 f0 s0 ab w f s b->Vm.cq c f = .ok g a->a.kind=4->(dV c w g a).2=0->pre (cC w s b (isNamed g)) (dV c w g a).1 w.aB (bD w g b)
 spawn:∀{w0 f0 s0 ab w f s b g a W},WI c w0->Lp c w0 w f->lp w0 f0 s0 ab w f s b->Vm.cq c f = .ok g a->a.kind=4->(dV c w g a).2=0->Done c (cC w s b (isNamed g)) W->dn (cC w s b (isNamed g)) (dV c w g a).1 w.aB (bD w g b) W->lp w0 f0 s0 ab W (Vm.ky g 4 a.b [(w.values.length:Int)+1]) (w.aB+1) (bD w g b)
 sync:∀{w0 f0 s0 ab w f s b g a},WI c w0->Lp c w0 w f->lp w0 f0 s0 ab w f s b->Vm.cq c f = .ok g a->a.kind=5->(Vm.aU g 5 a.b (dL w g.kids)).2=0->lp w0 f0 s0 ab { w with splits:=w.splits++[⟨3,s,0,0,b⟩] } (Vm.ky g 5 a.b (dL w g.kids)) b b
 fin:∀{w0 f0 s0 ab w f s b g a},WI c w0->Lp c w0 w f->lp w0 f0 s0 ab w f s b->Vm.cq c f = .ok g a->a.kind=6->dn w0 f0 s0 ab (endW w g a.a s ab)
section
variable {c : Cd} {pre : Wd -> Vm.Frame -> Int -> Int -> Prop} {lp : Wd -> Vm.Frame -> Int -> Int -> Wd -> Vm.Frame -> Int -> Int -> Prop} {dn : Wd -> Vm.Frame -> Int -> Int -> Wd -> Prop}
def Xw (c:Cd) (pre:Wd->Vm.Frame->Int->Int->Prop) (dn:Wd->Vm.Frame->Int->Int->Wd->Prop) (d:Nat) (rec:Rec):Prop:=∀(w:Wd) (f:Vm.Frame) (s ab:Int),WI c w->64<=w.values.length+d->w.values.length<64->Vm.right c f=true->f.task=(w.values.length:Int)+1->f.path.length<=w.values.length->f.many=0->f.kids=[]->f.spent=0->pre w f s ab->(rec w f s ab).2=0->dn w f s ab (rec w f s ab).1
theorem Ind.loop (I:Ind c pre lp dn) {d:Nat} {rec:Rec} (hrec:Hu c d rec) (hp:Xw c pre dn d rec) (ab:Int) {w0:Wd} {f0:Vm.Frame} {s0:Int} (h0:WI c w0) (hd:64<=w0.values.length+(d+1)):∀(n:Nat) (w:Wd) (f:Vm.Frame) (s b:Int),Lp c w0 w f->lp w0 f0 s0 ab w f s b->ka f<=n->(jl c rec n w f s b ab).2=0->dn w0 f0 s0 ab (jl c rec n w f s b ab).1
 | 0,w,f,s,b,hl,hi,hf,_=>by have:=AU hl.right;omega
 | n+1,w,f,s,b,hl,hi,hf,hz=>by
  have IH:=fun w' f' s' b' hl' hi' hf' hz'=>Ind.loop (f0:=f0) (s0:=s0) I hrec hp ab h0 hd n w' f' s' b' hl' hi' hf' hz'
  cases hn:Vm.cq c f with
  | err e=>
   rw [AV hn] at hz
   rcases Vm.tg hl.right with ⟨e',h1,h2⟩|⟨g,a,h1,_⟩
   ·rw [hn] at h1;injection h1 with h1;subst h1;simp only at hz;omega
   ·rw [hn] at h1;cases h1
  | ok g a=>
   obtain ⟨hao,ht,hkp⟩:=bL hl.right hn;have q1:=hkp.k1;have q6:=hkp.k6;have key:∀{w' told s' b'} (k:Int),a.kind=k->bp c rec w g a s b ab = .go w' told s' b'->((Vm.aU g k a.b told).2=0->Lp c w0 w' (Vm.aU g k a.b told).1/\lp w0 f0 s0 ab w' (Vm.ky g k a.b told) s' b')->dn w0 f0 s0 ab (jl c rec (n+1) w f s b ab).1:=by
    intro w' told s' b' k hk hr hlp;subst hk;rw [yV hn hr] at hz ⊢;by_cases ht0:(Vm.aU g a.kind a.b told).2=0
    ·rw [if_neg (by simp [ht0])] at hz ⊢
     have hlt:ka (Vm.aU g a.kind a.b told).1<ka f:=fuel_lt hl.right hkp (uP _ _ _ _) (fun h5=>by rw [h5] at ht0 ⊢;exact xE ht0);have e:=(qZ ht0).2;exact IH _ _ _ _ (hlp ht0).1 (by rw [e];exact (hlp ht0).2) (by omega) hz
    ·rw [if_pos ht0] at hz;exact absurd hz ht0
   have hk:a.kind=1\/a.kind=2\/a.kind=3\/a.kind=4\/a.kind=5\/a.kind=6:=by omega
   rcases hk with k|k|k|k|k|k
   ·exact key (w':=pz w g.path s a.a) (told:=[w.cells.getD a.a.toNat 0]) (s':=s) (b':=b) 1 k (by simp [bp,k]) (fun h=>⟨EN h0 hl hn k h,I.load h0 hl hi hn k h⟩)
   ·exact key (w':=iV w g.path s a.a a.b) (told:=[]) (s':=s) (b':=b) 2 k (by simp [bp,k]) (fun h=>⟨AP h0 hl hn k h,I.store h0 hl hi hn k h⟩)
   ·cases hfu:gX (bC w g.path s (opA a)) with
    | true=>
     have hr:bp c rec w g a s b ab = .done (bC w g.path s (opA a)) 8:=by simp [bp,k,hfu]
     rw [eA hn hr] at hz;simp at hz
    | false=>exact key (w':=bC w g.path s (opA a)) (told:=[eD w (opA a)]) (s':=s) (b':=b) 3 k (by simp [bp,k,hfu]) (fun h=>⟨EO h0 hl hn k hfu h,I.call h0 hl hi hn k h⟩)
   ·have hr:bp c rec w g a s b ab=ij c rec w g a s b:=by simp [bp,k]
    by_cases h64:64<=w.values.length
    ·have s0:bp c rec w g a s b ab = .done w 10:=by rw [hr,ij,if_pos h64]
     rw [eA hn s0] at hz;simp at hz
    have h64:w.values.length<64:=by omega
    by_cases h1:(dV c w g a).2=0
    ·have ko:=I6 (s:=s) (b:=b) hrec h0 hd hl hn k h64 h1
     by_cases h2:(rec (cC w s b (isNamed g)) (dV c w g a).1 w.aB (bD w g b)).2=0
     ·have s3:bp c rec w g a s b ab = .go (rec (cC w s b (isNamed g)) (dV c w g a).1 w.aB (bD w g b)).1 [(dV c w g a).1.task] (w.aB+1) (bD w g b):=by
       rw [hr,ij,if_neg (by omega)];exact (if_neg (by simpa using h1)).trans (if_neg (fun hh=>hh h2))
      obtain ⟨e1,e2⟩:=iW h1;have et:(dV c w g a).1.task=(w.values.length:Int)+1:=by rw [e1];rfl
      obtain ⟨V,a1,_⟩:=hl.adds;have hpt:=hl.path;have hdn:=hp _ _ _ _ (Ko (b:=b) (s:=s) (n:=isNamed g) h0 hl hn k) (by show 64<=w.values.length+d;omega) h64 (by rw [e1];exact e2) et (by
       rw [e1];show (g.path++[g.many]).length<=w.values.length;rw [hkp.path];simp;omega) (by rw [e1];rfl) (by rw [e1];rfl) (by rw [e1];rfl) (I.kid h0 hl hi hn k h1) h2
      have hdone:=ko.2 h2;refine key 4 k s3 (fun hz'=>⟨AQ h0 hl hn k hdone et hz',?_⟩);rw [et];exact I.spawn h0 hl hi hn k h1 hdone hdn
     ·have s2:bp c rec w g a s b ab = .done (rec (cC w s b (isNamed g)) (dV c w g a).1 w.aB (bD w g b)).1 (rec (cC w s b (isNamed g)) (dV c w g a).1 w.aB (bD w g b)).2:=by
       rw [hr,ij,if_neg (by omega)];exact (if_neg (by simpa using h1)).trans (if_pos h2)
      rw [eA hn s2] at hz;exact absurd hz h2
    ·have s1:bp c rec w g a s b ab = .done w (dV c w g a).2:=by
      rw [hr,ij,if_neg (by omega)];exact if_pos h1
     rw [eA hn s1] at hz;exact absurd hz h1
   ·have hne:=hkp.wait k
    have ej:(j9 w g.kids s b).1={ w with splits:=w.splits++[⟨3,s,0,0,b⟩] }:=by simp [j9,hne]
    exact key (w':=(j9 w g.kids s b).1) (told:=dL w g.kids) (s':=b) (b':=b) 5 k (by simp [bp,k,j9,hne]) (fun h=>⟨EP h0 hl hn k h,by rw [ej];exact I.sync h0 hl hi hn k h⟩)
   ·have hr:bp c rec w g a s b ab = .done (endW w g a.a s ab) 0:=by simp [bp,k]
    rw [eA hn hr];exact I.fin h0 hl hi hn k
theorem Ind.run (hc:CO c) (I:Ind c pre lp dn):∀d,Xw c pre dn d (Hg c d)
 | 0=>fun w f s ab _ h1 h2=>by omega
 | d+1=>fun w f s ab hw h1 h2 hr ht hp hm hk hs hpre hz=>
  Ind.loop I (ER c hc d) (Ind.run hc I d) ab hw h1 _ _ _ _ _ (Ht hw h2 hr ht hp hm hk hs) (I.start hw hr ht hm hk hs hpre) (Ls _) hz
end
end Uw.Tryz.El
namespace Uw.Tryz.El
open Go Uw Uw.Tryz
theorem step_ret {c:Cd} {b:Bd} {f g:Vm.Frame} {i:In4} {a:Vm.Ask} (hv:Vm.dX f) (hs:Vm.stepS c b f i=some (g,a)):a.kind=6->g.kids=[]/\Vm.isVal a.a=true:=by
 have fin:∀{op},Vm.aV op f=some (g,a)->a.kind=6->g.kids=[]/\Vm.isVal a.a=true:=by
  intro op hs;simp only [Vm.aV] at hs
  split at hs
  ·simp at hs;obtain ⟨rfl,rfl⟩:=hs;simp [Vm.aI]
  ·simp at hs
 revert hs
 refine Vm.kG (fun o=>o=some (g,a)->a.kind=6->g.kids=[]/\Vm.isVal a.a=true) ?_ ?_ ?_ ?_ ?_ (fun _=>fin) (fun _=>fin) (fun _=>fin) (fun _=>fin) (fun _=>fin) ?_ ?_ ?_ ?_ ?_ ?_ ?_ ?_ (fun _=>fin) ?_
 all_goals intro ho hs
 ·simp only [Vm.kt] at hs;split at hs<;>simp at hs;obtain ⟨rfl,rfl⟩:=hs;simp [Vm.aI]
 ·simp only [Vm.fM] at hs;repeat' split at hs
  all_goals first|(simp at hs;done)|(simp at hs;obtain ⟨rfl,rfl⟩:=hs;simp [Vm.aI])
 ·simp only [Vm.rG] at hs;repeat' split at hs
  all_goals first|(simp at hs;done)|(simp at hs;obtain ⟨rfl,rfl⟩:=hs;simp [Vm.aI])
 ·simp only [Vm.pq] at hs;split at hs<;>simp at hs;obtain ⟨rfl,rfl⟩:=hs;simp [Vm.aI]
 ·simp only [Vm.ig] at hs;split at hs<;>simp at hs;obtain ⟨rfl,rfl⟩:=hs;simp [Vm.aI]
 ·simp only [Vm.fR] at hs;split at hs<;>simp at hs;obtain ⟨rfl,rfl⟩:=hs;simp [Vm.aI]
 ·simp only [Vm.pv] at hs;split at hs<;>simp at hs;obtain ⟨rfl,rfl⟩:=hs;simp [Vm.aI]
 ·simp only [Vm.cM] at hs;split at hs
  ·simp at hs;obtain ⟨rfl,rfl⟩:=hs;simp [Vm.aI]
  ·simp at hs
 ·simp only [Vm.jW] at hs;split at hs<;>simp at hs<;>obtain ⟨rfl,rfl⟩:=hs<;>simp [Vm.aI]
 ·simp only [Vm.px] at hs;split at hs<;>simp at hs;obtain ⟨rfl,rfl⟩:=hs;simp [Vm.aI]
 ·simp only [Vm.ku] at hs;repeat' split at hs
  all_goals first|(simp at hs;done)|(simp at hs;obtain ⟨rfl,rfl⟩:=hs;simp [Vm.aI])
 ·simp only [Vm.tC] at hs
  split at hs
  ·rename_i hk
   split at hs
   ·simp at hs
   ·rename_i hst
    simp at hs;obtain ⟨rfl,rfl⟩:=hs;intro _;refine ⟨hk,?_⟩;show Vm.isVal (f.stack.getLastD 0)=true;have hm:f.stack.getLastD 0∈f.stack:=by
     rw [aa6,List.getLast?_eq_some_getLast hst];exact List.getLast_mem hst
    exact YW.1 hv.stack _ hm
  ·simp at hs;obtain ⟨rfl,rfl⟩:=hs;simp [Vm.aI]
 ·simp only [Vm.dD] at hs;split at hs<;>simp at hs;obtain ⟨rfl,rfl⟩:=hs;simp [Vm.aI]
 ·simp at hs
theorem Kq (c:Cd) (b:Bd):∀(n:Nat) (f:Vm.Frame),Vm.Good c b f->∀g a,Vm.runN c b n f = .ok g a->a.kind=6->g.kids=[]/\Vm.isVal a.a=true
 | 0,f,h=>by simp [Vm.runN]
 | n+1,f,h=>by
  intro g a hr;rw [Vm.runN] at hr
  split at hr
  ·simp at hr
  split at hr
  ·simp at hr
  rename_i hsp hpc;have dE : 0<=f.pc/\f.pc<b.ins.length:=by simpa [Vm.below] using hpc
  have hsp' : f.spent<2000:=by have:=h.sp1;omega
  cases hs:Vm.stepS c b f (Vm.cm b f) with
  | none=>rw [hs] at hr;simp at hr
  | some p=>
   obtain ⟨g1,a1⟩:=p;rw [hs] at hr;have hg:=h.step dE.2 hsp' hs;simp only [] at hr;by_cases hk:a1.kind=0
   ·rw [if_pos hk] at hr
    exact Kq c b n g1 hg g a hr
   ·rw [if_neg hk] at hr
    simp at hr;obtain ⟨rfl,rfl⟩:=hr;exact step_ret h.vals hs
theorem PW {c:Cd} {f g:Vm.Frame} {a:Vm.Ask} (hr:Vm.right c f=true) (h:Vm.cq c f = .ok g a) (k:a.kind=6):g.kids=[]/\Vm.isVal a.a=true:=by
 have hn:Vm.runN c (Vm.dm c f) (Vm.cn f) f = .ok g a:=by
  rw [Vm.cq,if_pos hr] at h;exact h
 exact Kq c _ _ f (Vm.Good.of hr) g a hn k
structure Yt (w:Wd):Prop where
 vals:∀v∈w.values,Vm.isVal v=true
 short:∀p∈w.fails,p.length<=64
structure LpB (w0:Wd) (f0:Vm.Frame) (w:Wd) (f:Vm.Frame):Prop where
 vals:∀v∈w.values,Vm.isVal v=true
 short:∀p∈w.fails,p.length<=64
 path:f.path=f0.path
 fails:∃L,w.fails=w0.fails++L/\L.Nodup/\∀p∈L,∃m,f0.path++[m] <+: p/\m<f.many
 uses:(w.uses.length:Int)<=w0.uses.length+(w.steps - w0.steps)+f.spent
 steps:w0.steps<=w.steps
structure DnB (w0:Wd) (f0:Vm.Frame) (w:Wd):Prop where
 vals:∀v∈w.values,Vm.isVal v=true
 short:∀p∈w.fails,p.length<=64
 fails:∃L,w.fails=w0.fails++L/\L.Nodup/\∀p∈L,f0.path <+: p
 uses:(w.uses.length:Int)<=w0.uses.length+(w.steps - w0.steps)
 steps:w0.steps+1<=w.steps
theorem LpB.one {w0 w w' : Wd} {f0 f g f' : Vm.Frame} (h:LpB w0 f0 w f) (e1:w'.values=w.values) (e2:w'.fails=w.fails) (e3:f'.path=f.path) (e4:f'.many=f.many) (e5:w'.steps=w.steps) (e6:w'.uses.length<=w.uses.length+1) (e7:f.spent<f'.spent):LpB w0 f0 w' f':=by
 obtain ⟨a1,a2,a3,a4,a5,a6⟩:=h;refine ⟨by rw [e1];exact a1,by rw [e2];exact a2,e3.trans a3,by rw [e2,e4];exact a4,by rw [e5];omega,by rw [e5];exact a6⟩
theorem Ja (w:Wd) (p:List Int) (s:Int) (o:Op4):(bC w p s o).values=w.values/\(bC w p s o).fails=w.fails/\(bC w p s o).steps=w.steps/\(bC w p s o).splits=w.splits/\(bC w p s o).aB=w.aB/\(bC w p s o).cells=w.cells:=by
 unfold bC nA
 repeat' split
 all_goals exact ⟨rfl,rfl,rfl,rfl,rfl,rfl⟩
theorem pre_eq {α:Type} {l l' p:List α} {a b:α} (h1:l++[a] <+: p) (h2:l++[b] <+: p):a=b:=by
 have:=List.prefix_of_prefix_length_le h1 h2 (by simp);have:=this.eq_of_length (by simp);simpa using this
theorem Jb (c:Cd):Ind c (fun w f s ab=>Yt w) (fun w0 f0 s0 ab w f s b=>LpB w0 f0 w f) (fun w0 f0 s0 ab w=>DnB w0 f0 w) where
 start {w f s ab} hw hr ht hm hk hs hp:=by
  refine ⟨?_,hp.short,rfl,⟨[],by simp,aa2,by simp⟩,?_,aar _⟩
  ·intro v hv
   rcases Za.1 hv with h|h
   ·exact hp.vals v h
   ·simp at h;subst h;rfl
  ·show (w.uses.length:Int)<=w.uses.length+(w.steps - w.steps)+f.spent
   omega
 load {w0 f0 s0 ab w f s b g a} h0 hl hi hn k ht:=by
  obtain ⟨_,_,hk⟩:=bL hl.right hn;exact hi.one (g:=g) rfl rfl hk.path hk.many rfl (by simp [pz]) (hk.lt (by omega))
 store {w0 f0 s0 ab w f s b g a} h0 hl hi hn k ht:=by
  obtain ⟨_,_,hk⟩:=bL hl.right hn;exact hi.one (g:=g) rfl rfl hk.path hk.many rfl (by simp [iV]) (hk.lt (by omega))
 call {w0 f0 s0 ab w f s b g a} h0 hl hi hn k ht:=by
  obtain ⟨_,_,hk⟩:=bL hl.right hn;obtain ⟨c1,c2,c3,_⟩:=Ja w g.path s (opA a);exact hi.one (g:=g) c1 c2 hk.path hk.many c3 (by simp [bC]) (hk.lt (by omega))
 kid {w0 f0 s0 ab w f s b g a} h0 hl hi hn k hz:=⟨hi.vals,hi.short⟩
 spawn {w0 f0 s0 ab w f s b g a W} h0 hl hi hn k hz hD hd:=by
  obtain ⟨_,_,hk⟩:=bL hl.right hn;obtain ⟨L,l1,l2,l3⟩:=hi.fails;obtain ⟨M,m1,m2,m3⟩:=hd.fails;have hp:(dV c w g a).1.path=f0.path++[f.many]:=by
   rw [(iW hz).1];show g.path++[g.many]=_;rw [hk.path,hk.many,hi.path]
  rw [hp] at m3;have u1:=hd.uses;have u2:=hi.uses;have s1:=hd.steps;have s2:=hi.steps;have hl2:=hk.lt (by omega);refine ⟨hd.vals,hd.short,hk.path.trans hi.path,⟨L++M,?_,?_,?_⟩,?_,?_⟩
  ·rw [m1];show w.fails++M=_;rw [l1,ZP]
  ·rw [aaP]
   refine ⟨l2,m2,fun x hx y hy e=>?_⟩;subst e;obtain ⟨m,q1,q2⟩:=l3 x hx;have:=pre_eq (l':=[]) q1 (m3 x hy);omega
  ·intro p hp
   show ∃m,_/\m<g.many+1;rw [hk.many]
   rcases Za.1 hp with h|h
   ·obtain ⟨m,q1,q2⟩:=l3 p h
    exact ⟨m,q1,by omega⟩
   ·exact ⟨f.many,m3 p h,by omega⟩
  ·show (W.uses.length:Int)<=w0.uses.length+(W.steps - w0.steps)+g.spent
   have u1:(W.uses.length:Int)<=w.uses.length+(W.steps - w.steps):=u1;omega
  ·have s1:w.steps+1<=W.steps:=s1
   omega
 sync {w0 f0 s0 ab w f s b g a} h0 hl hi hn k ht:=by
  obtain ⟨_,_,hk⟩:=bL hl.right hn;have h1:=hk.le;have h2:=hi.uses;refine ⟨hi.vals,hi.short,hk.path.trans hi.path,?_,?_,hi.steps⟩
  ·show ∃L,w.fails=_/\_/\∀p∈L,∃m,_/\m<g.many
   rw [hk.many];exact hi.fails
  ·show (w.uses.length:Int)<=w0.uses.length+(w.steps - w0.steps)+g.spent
   omega
 fin {w0 f0 s0 ab w f s b g a} h0 hl hi hn k:=by
  obtain ⟨_,_,hk⟩:=bL hl.right hn;obtain ⟨r1,r2⟩:=PW hl.right hn k;have h1:=hk.lt (by omega);have h2:=hi.uses;have h3:=(Vm.Good.of hl.right).sp0;have h4:=hi.steps;have hpl:f.path.length<=64:=by have:=hl.path;have:=h0.vals;omega
  obtain ⟨L,l1,l2,l3⟩:=hi.fails;refine ⟨?_,?_,?_,?_,?_⟩
  ·intro v hv
   rcases Zh hv with h|h
   ·exact hi.vals v h
   ·rw [h];exact r2
  ·show ∀p∈(if g.fail then w.fails++[g.path] else w.fails),_
   intro p hp
   split at hp
   ·rcases Za.1 hp with h|h
    ·exact hi.short p h
    ·simp at h;rw [h,hk.path];exact hpl
   ·exact hi.short p hp
  ·show ∃L,(if g.fail then w.fails++[g.path] else w.fails)=_/\_
   split
   ·refine ⟨L++[g.path],by rw [l1,ZP],?_,?_⟩
    ·rw [aaP]
     refine ⟨l2,by simp,fun x hx y hy e=>?_⟩;simp at hy;subst e hy;obtain ⟨m,q1,_⟩:=l3 _ hx;have:=q1.length_le;rw [hk.path,hi.path] at this;simp at this;omega
    ·intro p hp
     rcases Za.1 hp with h|h
     ·obtain ⟨m,q1,_⟩:=l3 p h
      exact (List.prefix_append _ _).trans q1
     ·simp at h;rw [h,hk.path,hi.path];exact List.prefix_refl _
   ·refine ⟨L,l1,l2,fun p hp=>?_⟩
    obtain ⟨m,q1,_⟩:=l3 p hp;exact (List.prefix_append _ _).trans q1
  ·show (w.uses.length:Int)<=w0.uses.length+(w.steps+g.spent - w0.steps)
   omega
  ·show w0.steps+1<=w.steps+g.spent
   omega
end Uw.Tryz.El
namespace Uw.Tryz
open Go Uw
def fN (i:In4):Int×Int:=
 if i.op=1\/i.op=2\/i.op=4 then (0,1)
 else if i.op=3\/i.op=5\/i.op=12\/i.op=16\/i.op=17\/i.op=18 then (1,0)
 else if (6<=i.op/\i.op<=10)\/i.op=19 then (2,1)
 else if i.op=11 then (i.c,1)
 else if i.op=13 then (i.b,0)
 else (0,0)
def onI (i:In4) (k:Int):List Int:=if i.op=15 then [i.a] else if i.op=16 then [k+1,i.a] else if i.op=17 then [] else [k+1]
def hTo (n:Nat) (v:Int):List Int->List Int->List Int->Option (List Int×List Int)
 | [],hi,td=>some (hi,td)
 | t::r,hi,td=>
  if t<0\/(n:Int)<=t then none
  else if hi.getD t.toNat 0 = -1 then hTo n v r (hi.set t.toNat v) (td++[t])
  else if hi.getD t.toNat 0=v then hTo n v r hi td
  else none
def sP (ins:List In4):Nat->List Int->List Int->Option (List Int)
 | 0,_,_=>none
 | f+1,hi,td=>match td.getLast? with
  | none=>some hi
  | some k=>
   let i:=ins.getD k.toNat default
   if (fN i).1<0\/hi.getD k.toNat 0<(fN i).1 then none
   else match hTo ins.length (hi.getD k.toNat 0 - (fN i).1+(fN i).2) (onI i k) hi td.dropLast with
    | none=>none
    | some s=>sP ins f s.1 s.2
def sQ (ins:List In4):List Int:=
 if ins=[] then [] else if ins.any fun i=>decide (i.op<1)||decide (19<i.op) then []
 else (sP ins (2 * ins.length+2) (0::List.replicate (ins.length - 1) (-1)) [0]).getD []
def kb (c:Cd) (f:Int):List Int:=if f<0\/(c.am.length:Int)<=f then [] else sQ (c.am.getD f.toNat default).ins
def bM (n m:Int):Bool:=decide (0<=n)&&decide (n<m)
def iH (c:Cd) (i:In4):Bool:=
 let o:=if i.a=1\/i.a=3\/i.a=2 then c.maps else if i.a=4\/i.a=5 then c.stacks else if i.a=6\/i.a=7 then c.chans else 0
 let t:=if i.a=2 then 2 else if i.a=5\/i.a=7 then 0 else 1
 bM i.b o&&decide (i.c=t)
def gx (c:Cd) (f:Bd) (i:In4):Bool:=
 if i.op=1 then bM i.a 4294967296
 else if i.op=2\/i.op=3 then bM i.a f.locals
 else if i.op=4\/i.op=5 then bM i.a (c.cells.length:Nat)
 else if i.op=11 then iH c i
 else if i.op=13 then bM i.a (c.am.length:Nat)&&decide (i.b=(c.am.getD i.a.toNat default).args)&&(decide (i.c = -1)||bM i.c f.locals)
 else true
def kc (c:Cd) (f:Bd):Bool:=
 !(decide (f.args<0)||decide (f.locals<f.args)||decide (16<f.locals))&&!(decide (f.ins.length<1)||decide (400<f.ins.length)||decide ((sQ f.ins).length=0))&&f.ins.all (gx c f)
def sR (c:Cd):Bool:=
 !(decide (c.am.length<1)||decide (32<c.am.length)||!bM c.main (c.am.length:Nat))&&!(!decide ((c.am.getD c.main.toNat default).args=0)||decide (16<c.cells.length))&&(c.cells.all fun v=>bM v 4294967296)
 &&bM c.maps 9&&bM c.stacks 9&&bM c.chans 9&&c.am.all (kc c)
structure YQ (ins:List In4) (H:Nat->Int):Prop where
 ops:∀i∈ins,1<=i.op/\i.op<=19
 zero:H 0=0
 pos:∀k,0<=H k
 step:∀(k:Nat) (h:k<ins.length),0<=(fN ins[k]).1/\(fN ins[k]).1<=H k/\∀t∈onI ins[k] (k:Int),0<=t/\t<ins.length/\H t.toNat=H k - (fN ins[k]).1+(fN ins[k]).2
structure YR (n:Nat) (H:Nat->Int) (hi td:List Int):Prop where
 len:hi.length=n
 val:∀(k:Nat),k<n->hi.getD k 0 = -1\/hi.getD k 0=H k
 todo:∀t∈td,0<=t/\t<n/\hi.getD t.toNat 0=H t.toNat
end Uw.Tryz
namespace Uw.Tryz
open Go Uw
theorem xH (i:In4):Ret P0 eR [.agg (in4 i)] (.tuple [I (fN i).1,I (fN i).2]):=by
 obtain ⟨o,a,b,c⟩:=i;show Ret P0 eR [.agg [I o,I a,I b,I c]] (.tuple [I (fN ⟨o,a,b,c⟩).1,I (fN ⟨o,a,b,c⟩).2]);by_cases k1:o=1
 ·subst k1;refine aj aY.h rfl ?_;repeat refine aw ?_
  exact ag rfl rfl rfl rfl rfl
 by_cases k2:o=2
 ·subst k2;refine aj aY.h rfl ?_;repeat refine aw ?_
  exact ag rfl rfl rfl rfl rfl
 by_cases k4:o=4
 ·subst k4;refine aj aY.h rfl ?_;repeat refine aw ?_
  exact ag rfl rfl rfl rfl rfl
 by_cases k3:o=3
 ·subst k3;refine aj aY.h rfl ?_;repeat refine aw ?_
  exact ag rfl rfl rfl rfl rfl
 by_cases k5:o=5
 ·subst k5;refine aj aY.h rfl ?_;repeat refine aw ?_
  exact ag rfl rfl rfl rfl rfl
 by_cases k12:o=12
 ·subst k12;refine aj aY.h rfl ?_;repeat refine aw ?_
  exact ag rfl rfl rfl rfl rfl
 by_cases k16:o=16
 ·subst k16;refine aj aY.h rfl ?_;repeat refine aw ?_
  exact ag rfl rfl rfl rfl rfl
 by_cases k17:o=17
 ·subst k17;refine aj aY.h rfl ?_;repeat refine aw ?_
  exact ag rfl rfl rfl rfl rfl
 by_cases k18:o=18
 ·subst k18;refine aj aY.h rfl ?_;repeat refine aw ?_
  exact ag rfl rfl rfl rfl rfl
 by_cases k6:o=6
 ·subst k6;refine aj aY.h rfl ?_;repeat refine aw ?_
  exact ag rfl rfl rfl rfl rfl
 by_cases k7:o=7
 ·subst k7;refine aj aY.h rfl ?_;repeat refine aw ?_
  exact ag rfl rfl rfl rfl rfl
 by_cases k8:o=8
 ·subst k8;refine aj aY.h rfl ?_;repeat refine aw ?_
  exact ag rfl rfl rfl rfl rfl
 by_cases k9:o=9
 ·subst k9;refine aj aY.h rfl ?_;repeat refine aw ?_
  exact ag rfl rfl rfl rfl rfl
 by_cases k10:o=10
 ·subst k10;refine aj aY.h rfl ?_;repeat refine aw ?_
  exact ag rfl rfl rfl rfl rfl
 by_cases k19:o=19
 ·subst k19;refine aj aY.h rfl ?_;repeat refine aw ?_
  exact ag rfl rfl rfl rfl rfl
 by_cases k11:o=11
 ·subst k11;refine aj aY.h rfl ?_;repeat refine aw ?_
  exact ag rfl rfl rfl rfl rfl
 by_cases k13:o=13
 ·subst k13;refine aj aY.h rfl ?_;repeat refine aw ?_
  exact ag rfl rfl rfl rfl rfl
 have e:fN ⟨o,a,b,c⟩=(0,0):=by
  rw [fN,if_neg (by simp only;omega),if_neg (by simp only;omega),if_neg (by simp only;omega),if_neg (by simp only;omega),if_neg (by simp only;omega)]
 rw [e];refine aj aY.h rfl ?_;repeat refine aw ?_
 exact ag rfl rfl rfl rfl rfl
theorem xI (i:In4) (k:Int) (hk:0<=k/\k<1000000):Ret P0 eS [.agg (in4 i),I k] (ae (onI i k)):=by
 obtain ⟨o,a,b,c⟩:=i;show Ret P0 eS [.agg [I o,I a,I b,I c],I k] (ae (onI ⟨o,a,b,c⟩ k));by_cases k15:o=15
 ·subst k15
  refine Ret.res (r:=.slice 1 [[I a]] true) ?_ (.slice (.refl _));refine aj eo.h rfl ?_;repeat refine aw ?_
  exact ag rfl rfl rfl rfl rfl
 by_cases k16:o=16
 ·subst k16
  refine Ret.res (r:=.slice 1 [[I (k+1)],[I a]] true) ?_ (.slice (.refl _));refine aj eo.h rfl ?_;repeat refine aw ?_
  exact ag rfl rfl rfl rfl rfl
 by_cases k17:o=17
 ·subst k17
  refine Ret.res (r:=.nil) ?_ (.nil 1);refine aj eo.h rfl ?_;repeat refine aw ?_
  exact ag rfl rfl rfl rfl rfl
 have e:onI ⟨o,a,b,c⟩ k=[k+1]:=by rw [onI,if_neg k15,if_neg k16,if_neg k17]
 rw [e];refine Ret.res (r:=.slice 1 [[I (k+1)]] true) ?_ (.slice (.refl _));refine aj eo.h rfl ?_;repeat refine aw ?_
 exact ag rfl rfl rfl rfl rfl
theorem bJ (n m:Int):Ret P0 iF [I n,I m] (.bool (bM n m)):=by
 by_cases h:0<=n
 ·have e:bM n m=decide (n<m):=by rw [bM,decide_eq_true h,Zb]
  rw [e];refine aj iG.h rfl ?_;repeat refine aw ?_
  exact ag rfl rfl rfl rfl rfl
 ·have e:bM n m=false:=by rw [bM,decide_eq_false h,Y3]
  rw [e];refine aj iG.h rfl ?_;repeat refine aw ?_
  exact ag rfl rfl rfl rfl rfl
end Uw.Tryz
namespace Uw.Tryz
open Go Uw
theorem oD {st S S' : St} [Glob] (h:S=S') (hw:Weak st S'):Weak st S:=by rw [h];exact hw
end Uw.Tryz
namespace Uw.Tryz
open Go Uw
abbrev rw1 (l:List Int):List (List Dat):=l.map fun i=>[I i]
abbrev BG (c:Cd):Blk:=.var [.d (.slice 3 (c.am.map bdC) false),.d (ae c.cells),.d (I c.maps),.d (I c.stacks),.d (I c.chans),.d (I c.main)]
abbrev Xx (c:Cd) (f:Int) (ins:List (List Dat)) (n:Nat) (R:Nat->List (List Dat)) (j:Nat):St:=⟨[(46,.d (I j)),(45,.d (I (ins.length:Nat))),(44,.d (.slice 4 ins false)),(6,.ref 1 0 0 n),(5,.d (.slice 4 ins false)),(4,.d .nil),(2,.ptr 0 0)],[(1,.mt 1 0 (R j)),(0,BG c)],2,[],0⟩
structure HtX where
 hi:List Int
 td:List Int
 v:Nat
 jk:List (List Dat)
def Xy (c:Cd) (ins:List (List Dat)) (n:Nat):HtX->St
 | ⟨hi,td,v,jk⟩=>⟨[(9,.ref 2 v 0 (rw1 td).length),(6,.ref 1 0 0 n),(5,.d (.slice 4 ins false)),(4,.d .nil),(2,.ptr 0 0)],[(2,.mt 1 v (rw1 td++jk)),(1,.mt 1 0 (rw1 hi)),(0,BG c)],3,[],0⟩
def VI (c:Cd) (ins:List (List Dat)) (n:Nat) (k w:Int) (on:List Int):Nat×HtX->St
 | (j,⟨hi,td,v,jk⟩)=>⟨[(113,.d (I j)),(112,.d (I ((rw1 on).length:Nat))),(111,.d (ae on)),(13,.d (I w)),(10,.d (I k)),(9,.ref 2 v 0 (rw1 td).length),(6,.ref 1 0 0 n),(5,.d (.slice 4 ins false)),(4,.d .nil),(2,.ptr 0 0)],[(2,.mt 1 v (rw1 td++jk)),(1,.mt 1 0 (rw1 hi)),(0,BG c)],3,[],0⟩
structure HtI (n:Nat) (x:HtX):Prop where
 len:x.hi.length=n
 val:∀h∈x.hi,-1<=h/\h+(x.hi.count (-1):Nat)<=(n:Int)
 td:∀t∈x.td,0<=t/\t<(n:Int)/\0<=x.hi.getD t.toNat 0
def lK (x:HtX):Nat:=2 * x.hi.count (-1)+x.td.length
theorem Jc {l:List Int} {i:Nat} (h:i<l.length) (e:l.getD i 0 = -1) {v:Int} (hv:v≠-1):(l.set i v).count (-1)+1=l.count (-1):=by
 have hg:l[i] = -1:=by simpa [List.getD,h] using e
 have hpos:0<l.count (-1):=List.count_pos_iff.2 (hg ▸ YX h);rw [List.count_set h];simp [hg,hv];omega
theorem uQ {l:List Int} {t:Int} (h0:0<=t) (h:t<(l.length:Int)):(rw1 l)[0+t.toNat]? = some [I (l.getD t.toNat 0)]:=by
 have hl:t.toNat<l.length:=by omega
 rw [Y9,Zd,AN hl,List.getD,AN hl];rfl
theorem wu (l:List Int) (t:Nat) (v w:Int):(rw1 l).set (0+t) (setAt [I w] 0 [I v])=rw1 (l.set t v):=by
 simp [rw1,Zr,setAt]
theorem HtI.push {n:Nat} {x:HtX} (h:HtI n x) {t v:Int} (h1:0<=t) (h2:t<(n:Int)) (e:x.hi.getD t.toNat 0 = -1) (hv:0<=v) (hc:v+(x.hi.count (-1):Nat)<=(n:Int)+1) (w:Nat) :
  HtI n ⟨x.hi.set t.toNat v,x.td++[t],w,[]⟩/\lK ⟨x.hi.set t.toNat v,x.td++[t],w,[]⟩<lK x/\((x.hi.set t.toNat v).count (-1):Nat)<=(x.hi.count (-1):Nat):=by
 have hl:t.toNat<x.hi.length:=by rw [h.len];omega
 have hct:=Jc hl e (show v≠-1 by omega);refine ⟨⟨by rw [ZU];exact h.len,fun a ha=>?_,fun u hu=>?_⟩,?_,by omega⟩
 ·rcases Zh ha with ha|rfl
  ·have:=h.val a ha
   refine ⟨this.1,?_⟩;simp only at *;omega
  ·refine ⟨by omega,?_⟩
   simp only at *;omega
 ·simp only at hu ⊢
  have hg:∀k:Nat,(x.hi.set t.toNat v).getD k 0=if k=t.toNat then v else x.hi.getD k 0:=fun k=>by
   simp only [List.getD,aap];by_cases hkt:t.toNat=k
   ·rw [if_pos hkt,if_pos hkt.symm,if_pos hl];rfl
   ·rw [if_neg hkt,if_neg (fun h=>hkt h.symm)]
  rcases Za.1 hu with hu|hu
  ·obtain ⟨a1,a2,a3⟩:=h.td u hu
   refine ⟨a1,a2,?_⟩;rw [hg];split
   ·exact hv
   ·exact a3
  ·simp only [aam] at hu;subst hu
   exact ⟨h1,h2,by rw [hg,if_pos rfl];exact hv⟩
 ·simp only [lK,Zs,aac];omega
theorem HB (i:In4):(fN i).2=0\/(fN i).2=1:=by
 unfold fN
 repeat' split
 all_goals simp
theorem PX (i:In4) (k:Int):(onI i k).length<=2:=by
 unfold onI
 repeat' split
 all_goals simp
def SI (n:Nat) (v:Int) (on:List Int) (HR:Option (List Int×List Int)) (M:Nat) (y:Nat×HtX):Prop:=
 y.1<=on.length/\HtI n y.2/\hTo n v (on.drop y.1) y.2.hi y.2.td=HR/\lK y.2<=M/\v+(y.2.hi.count (-1):Nat)<=(n:Int)+1
def PY (ins:List In4) (R:Option (List Int)) (x:HtX):Prop:=(HtI ins.length x/\lK x<=1000000)/\∃fu,lK x<fu/\sP ins fu x.hi x.td=R
theorem ra (c:Cd) (f:Nat) (ba bl:Int) (ins:List In4) (D:Dat) (hb:c.am[f]? = some ⟨ba,bl,ins⟩) (hpos:0<ins.length) (hfew:ins.length<=100000) (hbad:(ins.any fun i=>decide (i.op<1)||decide (19<i.op))=true->D = .nil)
  (hgood:(ins.any fun i=>decide (i.op<1)||decide (19<i.op))=false->∀R,sP ins (2 * ins.length+2) (0::List.replicate (ins.length - 1) (-1)) [0]=R->(R=none->D = .nil)/\∀hi,R=some hi->D = .slice 1 (rw1 hi) false):Ret P0 eK [cdD c,I (f:Nat)] D:=by
 have hfl:=(Zc.1 hb).1;have hfi:(f:Int)<((c.am.map bdC).length:Nat):=by rw [ZZ];omega
 have hel:(c.am.map bdC)[(f:Int).toNat]? = some [I ba,I bl,.slice 4 (ins.map in4) false]:=by simp [hb,bdC]
 have hnl:(ins.map in4).length=ins.length:=by simp
 have hinl:∀(j:Nat) (h:j<ins.length),(ins.map in4)[(j:Int).toNat]? = some (in4 ins[j]):=fun j h=>by simp [h]
 obtain ⟨R,hR⟩:∃R:Nat->List (List Dat),∀j,R j=rw1 (List.replicate j (-1)++List.replicate (ins.length - j) 0):=⟨_,fun _=>rfl⟩
 have hR0:R 0=List.replicate (((ins.map in4).length:Nat):Int).toNat [Dat.int .i64 0]:=by rw [hR];simp [rw1]
 have VJ:∀(j:Nat),j<ins.length->(R j)[0+(j:Int).toNat]? = some [I 0]/\(R j).set (0+(j:Int).toNat) (setAt [I 0] 0 [I (-1)])=R (j+1):=fun j h=>by
  have hjl:((j:Nat):Int)<((List.replicate j (-1:Int)++List.replicate (ins.length - j) 0).length:Nat):=by simp;omega
  refine ⟨?_,?_⟩
  ·rw [hR,uQ (by omega) hjl]
   simp [List.getD,List.getElem?_append,abg,show 0<ins.length - j by omega]
  ·rw [hR,wu,hR,aaq]
   obtain ⟨m,hm⟩:∃m,ins.length - j=m+1:=⟨ins.length - j - 1,by omega⟩
   have e:((List.replicate j (-1:Int))++0::List.replicate m 0).set j (-1)=List.replicate j (-1)++-1::List.replicate m 0:=by
    have:j=(List.replicate j (-1:Int)).length:=by simp
    conv=>lhs;arg 2;rw [this]
    rw [List.set_append_right _ _ (Ls _),aaN];rfl
   rw [hm,ZJ,e,show ins.length - (j+1)=m by omega,Zp (n:=j)];simp
 have hRn:(R ins.length)[0+(0:Int).toNat]? = some [I (-1)]/\(R ins.length).set (0+(0:Int).toNat) (setAt [I (-1)] 0 [I 0])=rw1 (0::List.replicate (ins.length - 1) (-1)):=by
  obtain ⟨m,hm⟩:∃m,ins.length=m+1:=⟨ins.length - 1,by omega⟩
  rw [hR,hm,aaN];refine ⟨rfl,?_⟩;show (rw1 _).set (0+0) _=_;rw [wu];simp [ZJ]
 clear hR;refine aj dR.h rfl ?_
 repeat (first|refine aw ?_|refine f1 ?_|refine m1 ?_)
 refine dH ins.length (Xx c f (ins.map in4) ins.length R) (fun j=>∀h:j<ins.length,¬(ins[j].op<1\/19<ins[j].op)) (oD (by rw [Xx,hR0]) ?_) (fun hgo=>?_) (fun j hj hpre=>?_)
 ·exact Uw.wM
 rotate_left 1
 ·have he:=hinl j hj
  obtain ⟨r1,r2⟩:=VJ j hj;have hb1:(ins[j].op<1\/19<ins[j].op)->D = .nil:=fun h=>hbad (aad.2 ⟨ins[j],YX hj,by simpa using h⟩);have hg1:¬(ins[j].op<1\/19<ins[j].op)->∀h:j<ins.length,¬(ins[j].op<1\/19<ins[j].op):=fun h _=>h;clear hbad hgood hinl VJ hRn;generalize ins[j]=i at *;obtain ⟨io,ia,ib,ic⟩:=i;have he:(ins.map in4)[(j:Int).toNat]? = some [I io,I ia,I ib,I ic]:=he;simp only at hb1 hg1;by_cases q1:io<1
  ·obtain rfl:=hb1 (.inl q1)
   repeat (first|refine aw ?_|refine f1 ?_)
   exact aW (ag rfl rfl rfl rfl rfl)
  by_cases q2:19<io
  ·obtain rfl:=hb1 (.inr q2)
   repeat (first|refine aw ?_|refine f1 ?_)
   exact aW (ag rfl rfl rfl rfl rfl)
  have hg1:=hg1 (by omega)
  repeat (first|refine aw ?_|refine f1 ?_)
  exact cH j hg1 (by exact Uw.wM)
 obtain ⟨hgn,hgs⟩:=hgood (Z2.2 fun i hi=>by
  obtain ⟨j,hj,rfl⟩:=Zq.1 hi;have:=hgo j hj hj;simpa using this) _ rfl
 obtain ⟨rn1,rn2⟩:=hRn;clear hbad hgood VJ hgo;have hx0:PY ins (sP ins (2 * ins.length+2) (0::List.replicate (ins.length - 1) (-1)) [0]) ⟨0::List.replicate (ins.length - 1) (-1),[0],0,[]⟩:=by
  have hcn:(0::List.replicate (ins.length - 1) (-1:Int)).count (-1)=ins.length - 1:=by rw [List.count_cons,List.count_replicate];simp
  refine ⟨⟨⟨by simp;omega,fun h hh=>?_,fun t ht=>?_⟩,?_⟩,_,?_,rfl⟩
  ·simp only [hcn]
   rcases Zj.1 hh with rfl|hh
   ·omega
   ·obtain ⟨_,rfl⟩:=List.mem_replicate.1 hh;omega
  ·simp at ht;subst ht;exact ⟨by omega,by omega,by simp⟩
  ·rw [lK];simp only [hcn,aac];omega
  ·rw [lK];simp only [hcn,aac];omega
 generalize sP ins (2 * ins.length+2) (0::List.replicate (ins.length - 1) (-1)) [0]=HR at *
 repeat (first|refine aw ?_|refine f1 ?_)
 refine aS ?_
 repeat (first|refine aw ?_|refine f1 ?_)
 refine cX (Xy c (ins.map in4) ins.length) (PY ins HR) lK ⟨0::List.replicate (ins.length - 1) (-1),[0],0,[]⟩ (oD (by rw [Xy,<- rn2]) ?_) hx0 ?_
 ·exact Uw.wM
 clear hx0 rn1 rn2 hpos hel hfi hfl hb;rintro ⟨hi,td,v,jk⟩ ⟨⟨hI,hmu⟩,fu,hfu,hRR⟩;obtain ⟨fu,rfl⟩:∃k,fu=k+1:=⟨fu - 1,by omega⟩
 have hl:=hI.len;simp only at hRR hl;have hrl:(rw1 hi).length=hi.length:=by simp
 have Yu:(rw1 td).length=td.length:=by simp
 rcases List.eq_nil_or_concat td with rfl|⟨td',k,rfl⟩
 ·have hRR:some hi=HR:=hRR
  have hD:=hgs hi hRR.symm;have e:((rw1 hi).drop 0).take ins.length=rw1 hi:=by rw [YY,i5 (by rw [hrl,hl];exact Ls _)]
  rw [<- e] at hD;rw [hD]
  repeat (first|refine aw ?_|refine f1 ?_)
  refine aS ?_
  repeat (first|refine aw ?_|refine f1 ?_)
  exact ag rfl rfl rfl rfl rfl
 rw [List.concat_eq_append] at *;obtain ⟨k0,kn,kh⟩:=hI.td k (by simp);have hlast:(rw1 (td'++[k])++jk)[0+((((rw1 (td'++[k])).length:Nat):Int) - 1).toNat]? = some [I k]:=by
  have e:0+((((rw1 (td'++[k])).length:Nat):Int) - 1).toNat=(rw1 td').length:=by simp
  rw [e,rw1,Z7,ZP];simp
 have hlen1:(rw1 (td'++[k])).length=(rw1 td').length+1:=by simp
 have hrow:rw1 td'++[I k]::jk=rw1 (td'++[k])++jk:=by simp [rw1]
 have hkl:k.toNat<ins.length:=by omega
 have hek:(ins.map in4)[k.toNat]? = some (in4 (ins.getD k.toNat default)):=by simp [List.getD,hkl]
 have hrk:=uQ (l:=hi) k0 (by rw [hl];exact kn);have hq:(if (fN (ins.getD k.toNat default)).1<0\/hi.getD k.toNat 0<(fN (ins.getD k.toNat default)).1 then none
   else match hTo ins.length (hi.getD k.toNat 0 - (fN (ins.getD k.toNat default)).1+(fN (ins.getD k.toNat default)).2) (onI (ins.getD k.toNat default) k) hi td' with
    | none=>none
    | some s=>sP ins fu s.1 s.2)=HR:=by
  rw [sP] at hRR;simp only [List.getLast?_append,List.getLast?_singleton,Option.some_or,List.dropLast_concat] at hRR;exact hRR
 have heff:=xH (ins.getD k.toNat default);have hon:=xI (ins.getD k.toNat default) k ⟨k0,by omega⟩;have hpu:=HB (ins.getD k.toNat default);have hol:=PX (ins.getD k.toNat default) k;have hh : -1<=hi.getD k.toNat 0/\hi.getD k.toNat 0+(hi.count (-1):Nat)<=(ins.length:Int):=by
  have hkl2:k.toNat<hi.length:=by rw [hl];exact hkl
  have:hi.getD k.toNat 0∈hi:=by rw [List.getD,AN hkl2];exact YX hkl2
  exact hI.val _ this
 have hI' : HtI ins.length ⟨hi,td',v,[I k]::jk⟩:=⟨hI.len,hI.val,fun t ht=>hI.td t (by simp [ht])⟩
 have Yv : lK ⟨hi,td',v,[I k]::jk⟩+1=lK ⟨hi,td'++[k],v,jk⟩:=by simp [lK];omega
 have YE:(ins.map in4).length=ins.length:=by simp
 clear hRR hI;simp only at kh;generalize onI (ins.getD k.toNat default) k=on at *;generalize (fN (ins.getD k.toNat default)).1=tk at *;generalize (fN (ins.getD k.toNat default)).2=pu at *;generalize ins.getD k.toNat default=i0 at *;obtain ⟨io,ia,ib,ic⟩:=i0;have hek:(ins.map in4)[k.toNat]? = some [I io,I ia,I ib,I ic]:=hek;have heff:Ret P0 eR [.agg [I io,I ia,I ib,I ic]] (.tuple [I tk,I pu]):=heff;have hon:Ret P0 eS [.agg [I io,I ia,I ib,I ic],I k] (ae on):=hon;obtain ⟨h,hh0⟩:∃h,hi.getD k.toNat 0=h:=⟨_,rfl⟩
 rw [hh0] at hrk hq hh kh;have hvv:Nat.beq v v=true:=ZQ v;have hp0:(0:Int)<((rw1 (td'++[k])).length:Nat):=by omega
 have htl:td'.length<=1000000:=by have:=hmu;simp only [lK,Zs,aac] at this;omega
 have hin:inR .i64 ((((rw1 (td'++[k])).length:Nat):Int) - 1)=true:=by simp [inR];omega
 by_cases q1:tk<0
 ·have hq:none=HR:=by rw [if_pos (.inl q1)] at hq;exact hq
  obtain rfl:=hgn hq.symm
  repeat (first|refine aw ?_|refine f1 ?_)
  exact aW (ag rfl rfl rfl rfl rfl)
 by_cases q2:h<tk
 ·have hq:none=HR:=by rw [if_pos (.inr q2)] at hq;exact hq
  obtain rfl:=hgn hq.symm
  repeat (first|refine aw ?_|refine f1 ?_)
  exact aW (ag rfl rfl rfl rfl rfl)
 rw [if_neg (by omega)] at hq;obtain ⟨w,hw⟩:∃w,h - tk+pu=w:=⟨_,rfl⟩
 have hw0:0<=w/\w+(hi.count (-1):Nat)<=(ins.length:Int)+1:=by omega
 have hwn:¬w = -1:=by omega
 rw [hw] at hq;have hTn:hTo ins.length w on hi td' = none->D = .nil:=fun e=>by rw [e] at hq;exact hgn hq.symm
 have hTs:∀s,hTo ins.length w on hi td' = some s->sP ins fu s.1 s.2=HR:=fun s e=>by rw [e] at hq;exact hq
 have Xz:SI ins.length w on (hTo ins.length w on hi td') (lK ⟨hi,td',v,[I k]::jk⟩) (0,⟨hi,td',v,[I k]::jk⟩):=⟨ZN _,hI',rfl,Ls _,hw0.2⟩
 have hrl2:(rw1 on).length=on.length:=by simp
 have hin2:inR .i64 (h - tk)=true:=by simp [inR];omega
 have Yw:inR .i64 (h - tk+pu)=true:=by simp [inR];omega
 clear hq;generalize hTo ins.length w on hi td' = HT at *;have hM:lK ⟨hi,td',v,[I k]::jk⟩<1000000:=by omega
 have hfu2:lK ⟨hi,td',v,[I k]::jk⟩<fu:=by omega
 have hM2:lK ⟨hi,td',v,[I k]::jk⟩<lK ⟨hi,td'++[k],v,jk⟩:=by omega
 clear Yv hmu hfu hI' hgn;generalize hMM:lK ⟨hi,td',v,[I k]::jk⟩=M at *
 repeat (first|refine aw ?_|refine f1 ?_)
 refine cX (VI c (ins.map in4) ins.length k w on) (SI ins.length w on HT M) (fun y=>on.length - y.1) (0,⟨hi,td',v,[I k]::jk⟩) (oD (by rw [VI,hrow,<- hw]) ?_) Xz ?_
 ·exact Uw.wM
 clear Xz hrow hlast hlen1 hek hrk hh heff hon hpu hp0 hin hvv hw hin2 Yw hrl hl Yu;rintro ⟨j,hi2,td2,v2,jk2⟩ ⟨g1,g2,g3,g4,g5⟩;have g2:HtI ins.length ⟨hi2,td2,v2,jk2⟩:=g2;have g4:lK ⟨hi2,td2,v2,jk2⟩<=M:=g4;simp only at g1 g3 g5;have hl2:=g2.len;simp only at hl2;have hvv:Nat.beq v2 v2=true:=ZQ v2;have YS:td2.length<=1000000:=by have:=g4;simp only [lK] at this;omega
 have YT:(rw1 td2).length=td2.length:=by simp
 rcases ZG j on.length with hj|hj
 rotate_left 1
 ·have hjn:j=on.length:=Nat.le_antisymm g1 hj
  subst hjn;have hend:some (hi2,td2)=HT:=by rw [aaU,hTo] at g3;exact g3
  have hnext:=hTs _ hend.symm;have hjj:¬(on.length:Int)<((rw1 on).length:Nat):=by omega
  have hinv:PY ins HR ⟨hi2,td2,v2,jk2⟩:=⟨⟨g2,by omega⟩,fu,by omega,hnext⟩
  have hmm:lK ⟨hi2,td2,v2,jk2⟩<lK ⟨hi,td'++[k],v,jk⟩:=by omega
  repeat (first|refine aw ?_|refine f1 ?_)
  refine aS ?_
  repeat (first|refine aw ?_|refine f1 ?_)
  refine aN ⟨hi2,td2,v2,jk2⟩ hinv hmm ?_;exact Uw.wM
 have hjj:(j:Int)<((rw1 on).length:Nat):=by omega
 have heo:(rw1 on)[(j:Int).toNat]? = some [I on[j]]:=by simp [hj]
 rw [Zo hj,hTo] at g3;generalize on[j]=t at *;by_cases t1:t<0
 ·rw [if_pos (.inl t1)] at g3
  obtain rfl:=hTn g3.symm
  repeat (first|refine aw ?_|refine f1 ?_)
  exact aW (aW (ag rfl rfl rfl rfl rfl))
 by_cases t2:(ins.length:Int)<=t
 ·rw [if_pos (.inr t2)] at g3
  obtain rfl:=hTn g3.symm;have t3:(((ins.map in4).length:Nat):Int)<=t:=by omega
  repeat (first|refine aw ?_|refine f1 ?_)
  exact aW (aW (ag rfl rfl rfl rfl rfl))
 rw [if_neg (by omega)] at g3;have t3:¬(((ins.map in4).length:Nat):Int)<=t:=by omega
 have hrt:=uQ (l:=hi2) (show 0<=t by omega) (by omega);by_cases e1:hi2.getD t.toNat 0 = -1
 ·rw [if_pos e1] at g3
  obtain ⟨p1,p2,p3⟩:=g2.push (show 0<=t by omega) (by omega) e1 hw0.1 g5 (v2+1);have p2:lK ⟨hi2.set t.toNat w,td2++[t],v2+1,[]⟩<lK ⟨hi2,td2,v2,jk2⟩:=p2;simp only at p3;have hinv:SI ins.length w on HT M (j+1,⟨hi2.set t.toNat w,td2++[t],v2+1,[]⟩):=⟨hj,p1,g3,by show lK ⟨hi2.set t.toNat w,td2++[t],v2+1,[]⟩<=M;omega,by simp only;omega⟩
  have hmm:on.length - (j+1)<on.length - j:=by omega
  rw [e1] at hrt;have hset:=wu hi2 t.toNat w (-1);obtain ⟨w2,hw2⟩:∃w2,w2=w:=⟨_,rfl⟩
  have PZ:((rw1 hi2).set (0+t.toNat) (setAt [I (-1)] 0 [I w]))[0+t.toNat]? = some [I w2]:=by
   rw [hw2];have:t.toNat<hi2.length:=by omega
   simp [aap,setAt,this]
  have hrow2:rw1 (td2++[t])++([]:List (List Dat))=(rw1 td2++jk2).take (rw1 td2).length++((((List.replicate 1 [Dat.int .i64 0]).set 0 [I t]).drop 0).take 1):=by
   rw [aa0];simp [rw1]
  have hby:decide (((rw1 td2).length+1) * 8<=70368744177664)=true:=by rw [decide_eq_true_eq];omega
  clear p1 p2 p3 g2 g3 e1
  repeat (first|refine aw ?_|refine f1 ?_)
  refine aN (j+1,⟨hi2.set t.toNat w,td2++[t],v2+1,[]⟩) hinv hmm (oD (by rw [VI,hrow2,<- hset]) ?_);exact Uw.wM
 rw [if_neg e1] at g3;obtain ⟨h2,hh2⟩:∃h,hi2.getD t.toNat 0=h:=⟨_,rfl⟩
 rw [hh2] at g3 e1 hrt;by_cases e2:h2=w
 ·rw [if_pos e2] at g3
  have hinv:SI ins.length w on HT M (j+1,⟨hi2,td2,v2,jk2⟩):=⟨hj,g2,g3,g4,g5⟩
  have hmm:on.length - (j+1)<on.length - j:=by omega
  clear g2 g3
  repeat (first|refine aw ?_|refine f1 ?_)
  refine aN (j+1,⟨hi2,td2,v2,jk2⟩) hinv hmm ?_;exact Uw.wM
 ·rw [if_neg e2] at g3
  obtain rfl:=hTn g3.symm
  repeat (first|refine aw ?_|refine f1 ?_)
  exact aW (aW (ag rfl rfl rfl rfl rfl))
end Uw.Tryz
