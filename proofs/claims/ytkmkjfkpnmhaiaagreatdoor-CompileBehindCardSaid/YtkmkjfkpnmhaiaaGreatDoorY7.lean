/- Y7: Xb Xc Xd Xe Xf Xg Xh Xi Xj Xm Qa Ca Cd Ce Cf Cb Da Db Ck Cg Ch Ci Cj Cl Cm Ck0 Fa Fb Fd Fe (merged by merge2.py from the working texts). -/
import Derived.Test.YtkmkjfkpnmhaiaaGreatDoorY6
import Derived.Test.YtkmkjfkpnmhaiaaGreatDoorY5
import Derived.Test.YtkmkjfkpnmhaiaaGreatDoorY4
import Derived.Test.YtkmkjfkpnmhaiaaGreatDoorYs
import Derived.Lib.AtoiErrMem
import Derived.Test.YtkmkjfkpnmhaiaaGreatDoorY3
import Derived.RangeFuncBound
import Derived.Shelf.Abstract
import Derived.OwnWalkIn
import Derived.TacticsInMore
import Derived.LoopNIn
import Derived.LoopIn
set_option maxRecDepth 100000
set_option maxHeartbeats 4000000
set_option linter.unusedSimpArgs false
set_option linter.unnecessarySimpa false
set_option linter.unusedVariables false
set_option linter.unusedSectionVars false
namespace Uw.Tryz
open Go Uw
end Uw.Tryz
namespace Uw.Tryz
open Go Uw
def endOf (r:List UInt8):Nat:=
 match r with
 | []=>0
 | c::t=>if cls c=5 then (if c.toNat=61/\eqq t=true then 2 else 1)
  else if cls c=1 then 1+(t.takeWhile nameB).length else 1+(t.takeWhile dz).length
theorem mS (c:UInt8) (t:List UInt8) (h:cls c=5):endOf (c::t)=if c.toNat=61/\eqq t=true then 2 else 1:=by
 rw [endOf,if_pos h]
theorem vP {α:Type} (p:α->Bool) (l:List α) (k:Nat) (h:k<=l.length) (h1:∀(j:Nat) (hj:j<l.length),j<k->p l[j]=true) (h2:∀b,l[k]? = some b->p b=false):(l.takeWhile p).length=k:=by
 have e:l=l.take k++l.drop k:=by simp
 have h1' : ∀a∈l.take k,p a=true:=by
  intro a ha;rw [aad] at ha;obtain ⟨j,hj,rfl⟩:=ha;exact h1 j (by omega) (by omega)
 rw [e,List.takeWhile_append_of_pos h1'];have:(l.drop k).takeWhile p=[]:=by
  cases hd:l.drop k with
  | nil=>rfl
  | cons b r=>
   have hb:l[k]? = some b:=by
    have:=congrArg (fun l=>l[0]?) hd;simpa using this
   rw [XZ,h2 b hb];rfl
 rw [this];simp;omega
end Uw.Tryz
namespace Uw.Tryz
open Go Uw
theorem uA {b:UInt8} (h:dz b=true):48<=b.toNat/\b.toNat<=57:=by
 simp only [dz,decide_eq_true_eq] at h;unfold cls at h
 repeat' split at h
 all_goals first|omega|cases h
def yj (w:List UInt8):Int:=if 10<w.length\/(w.head? = some 48/\1<w.length) then -1 else if 4294967296<=qP w then -1 else ((qP w:Nat):Int)
theorem Jk (w:List UInt8) (h:0<w.length):(w.head? = some 48)<->w[0].toNat=48:=by
 cases w with
 | nil=>simp at h
 | cons b r=>
  simp only [List.head?_cons,XP,YW];constructor
  ·intro e;rw [e];rfl
  ·intro e;exact ZO.1 e
end Uw.Tryz
namespace Uw.Tryz
open Go Uw
theorem kJ (c:UInt8) (t:List UInt8) (h:cls c=1):bz (c::t)=if endOf (c::t)<=12 then some (1,endOf (c::t),0) else none:=by
 have e:endOf (c::t)=1+(t.takeWhile nameB).length:=by simp [endOf,h]
 rw [bz,if_pos h,e]
theorem kK (c:UInt8) (t:List UInt8) (h:cls c=5):bz (c::t)=some (3,endOf (c::t),0):=by
 rw [bz,if_neg (by omega),if_neg (by omega),if_pos h,mS c t h]
 split<;>rfl
theorem ij (c:UInt8) (t:List UInt8) (h:cls c≠1) (h2:cls c≠2) (h3:cls c≠5):bz (c::t)=none:=by
 rw [bz,if_neg h,if_neg h2,if_neg h3]
theorem wV (c:UInt8) (t:List UInt8) (h:cls c=2):endOf (c::t)=1+(t.takeWhile dz).length:=by simp [endOf,h]
theorem rT {α:Type} (p:α->Bool):∀(l:List α),l.drop (l.takeWhile p).length=l.dropWhile p
 | []=>rfl
 | y::r=>by
  rw [XZ,Ze]
  split
  ·rw [Xt,ZV,rT p r]
  ·rfl
theorem take_takeWhile {α:Type} (p:α->Bool):∀(l:List α),l.take (l.takeWhile p).length=l.takeWhile p
 | []=>rfl
 | y::r=>by
  rw [XZ]
  split
  ·rw [Xt,Yu,take_takeWhile p r]
  ·rfl
theorem vQ (c:UInt8) (t:List UInt8) (h:cls c=2):(c::t).take (endOf (c::t))=c::t.takeWhile dz:=by
 rw [wV c t h,Zc,Yu,take_takeWhile]
theorem M7 (c:UInt8) (t:List UInt8) (h:cls c=2):(c::t).drop (endOf (c::t))=t.dropWhile dz:=by
 rw [wV c t h,Zc,ZV,rT]
theorem all_takeWhile {α:Type} (p:α->Bool) (l:List α):(l.takeWhile p).all p=true:=by
 induction l with
 | nil=>rfl
 | cons y r ih=>
  rw [XZ]
  split
  ·rename_i h;simp [h]
  ·rfl
theorem Jl (c:UInt8) (t:List UInt8) (h:cls c=2):((c::t).take (endOf (c::t))).all dz=true:=by
 rw [vQ c t h,ZG,all_takeWhile];simp [dz,h]
theorem mT (c:UInt8) (t:List UInt8) (h:cls c=2):bz (c::t)=if 0<=yj ((c::t).take (endOf (c::t)))/\sU ((c::t).drop (endOf (c::t)))=false then some (2,endOf (c::t),yj ((c::t).take (endOf (c::t)))) else none:=by
 rw [bz,if_neg (by omega),if_pos h,vQ c t h,M7 c t h,wV c t h];have hc:(c.toNat=48)<->((c::t.takeWhile dz).head? = some 48):=by rw [Jk _ (by simp)];rfl
 have n1:(10<(t.takeWhile dz).length+1\/c.toNat=48/\1<(t.takeWhile dz).length+1)->yj (c::t.takeWhile dz) = -1:=fun h=>by
  rw [yj,if_pos (by rw [<- hc];exact h)]
 have n2:¬(10<(t.takeWhile dz).length+1\/c.toNat=48/\1<(t.takeWhile dz).length+1)->yj (c::t.takeWhile dz)=if 4294967296<=qP (c::t.takeWhile dz) then -1 else ((qP (c::t.takeWhile dz):Nat):Int):=fun h=>by
  rw [yj,if_neg (by rw [<- hc];exact h)]
 generalize yj (c::t.takeWhile dz)=R at n1 n2;by_cases h1:1+(t.takeWhile dz).length<=10/\¬(1<1+(t.takeWhile dz).length/\c.toNat=48)
 ·have n2:=n2 (by omega)
  by_cases h2:qP (c::t.takeWhile dz)<4294967296
  ·rw [if_neg (by omega)] at n2
   by_cases h3:sU (t.dropWhile dz)=false
   ·rw [if_pos ⟨h1.1,h1.2,h2,h3⟩,if_pos ⟨by omega,h3⟩,n2]
   ·rw [if_neg (fun h=>h3 h.2.2.2),if_neg (fun h=>h3 h.2)]
  ·rw [if_pos (by omega)] at n2
   rw [if_neg (fun h=>h2 h.2.2.1),if_neg (fun h=>by have:=h.1;omega)]
 ·have n1:=n1 (by omega)
  rw [if_neg (fun h=>h1 ⟨h.1,h.2.1⟩),if_neg (fun h=>by have:=h.1;omega)]
theorem Gk (c:UInt8) (t:List UInt8):1<=endOf (c::t)/\endOf (c::t)<=t.length+1:=by
 have h1:=lP nameB t;have h2:=lP dz t;rw [endOf]
 split
 ·split
  ·rename_i h
   cases t with
   | nil=>simp [eqq] at h
   | cons b r=>simp
  ·omega
 ·split<;>omega
def Read (s:List UInt8) (a:Nat) (out:List Tok):Prop:=fy s 0=(fy (s.drop a) (a:Int)).map (out++·)
theorem Read.init (s:List UInt8):Read s 0 []:=by
 rw [Read,XX];simp
theorem Read.blank {s:List UInt8} {a:Nat} {out:List Tok} (h:Read s a out) (ha:a<s.length) (hb:cls s[a]=4):Read s (a+1) out:=by
 rw [Read,XY ha,jW _ _ _ hb] at h;rw [Read,h];rfl
theorem Read.none {s:List UInt8} {a:Nat} {out:List Tok} (h:Read s a out) (ha:a<s.length) (hb:cls s[a]≠4) (ht:bz (s.drop a)=none):fy s 0=none:=by
 rw [Read] at h;rw [h];rw [XY ha] at ht ⊢;rw [oW _ _ _ hb ht];rfl
theorem Read.tok {s:List UInt8} {a:Nat} {out:List Tok} (h:Read s a out) (ha:a<s.length) (hb:cls s[a]≠4) {k:Int} {n:Nat} {v:Int} (ht:bz (s.drop a)=some (k,n,v)) :
  Read s (a+n) (out++[⟨k,(s.drop a).take n,v,a⟩]):=by
 rw [Read,h];rw [XY ha] at ht ⊢;rw [rB _ _ _ hb ht,<- XY ha,YU];rw [show ((a:Int)+(n:Int))=((a+n:Nat):Int) by omega]
 cases fy (s.drop (a+n)) ((a+n:Nat):Int) with
 | none=>rfl
 | some l=>simp
theorem Read.end {s:List UInt8} {a:Nat} {out:List Tok} (h:Read s a out) (ha:s.length<=a):fy s 0=some out:=by
 rw [Read] at h;rw [h,X8 ha,zo];simp
def Bi (s:List UInt8):Dat:=if 4000<s.length then .tuple [.nil,I 2] else match fy s 0 with|none=>.tuple [.nil,I 3]|some l=>.tuple [vd l,I 0]
theorem PN (s:List UInt8):DLe (Bi s) (MZ (dA s)):=by
 rw [Bi,dA];by_cases h:4000<s.length
 ·rw [if_pos h,if_pos h];exact .tuple (.cons (.nil 4) (.refl _))
 ·rw [if_neg h,if_neg h]
  cases fy s 0 with
  | none=>exact .tuple (.cons (.nil 4) (.refl _))
  | some l=>exact .refl _
theorem PO {s:List UInt8} {a n:Nat} (h:a+n<=s.length):((s.drop a).take n).length=n:=by simp;omega
end Uw.Tryz
namespace Uw.Tryz
open Go Uw
def tp (r:Int):Bool:=decide ((97<=r/\r<=122)\/(65<=r/\r<=90))
def wX (r:Int):Bool:=decide (48<=r/\r<=57)
def zL (r:Int):Bool:=decide (r=9\/r=10\/r=32)
theorem qj (r:Int):Ret P0 lS [.int .i32 r] (.bool (tp r)):=by
 refine bf tK rfl ?_
 repeat' first|refine aw ?_|refine bw (fun _=>?_) fun _=>?_
 all_goals
  refine aC (P:=P0) rfl rfl rfl rfl ?_;exact congrArg Dat.bool (Yo.2 (by simp only [decide_eq_true_eq,X6,tp,wX,zL,eq_self,true_iff,XO,false_iff];omega))
theorem xR (r:Int):Ret P0 nQ [.int .i32 r] (.bool (wX r)):=by
 refine bf vH rfl ?_
 repeat' first|refine aw ?_|refine bw (fun _=>?_) fun _=>?_
 all_goals
  refine aC (P:=P0) rfl rfl rfl rfl ?_;exact congrArg Dat.bool (Yo.2 (by simp only [decide_eq_true_eq,X6,tp,wX,zL,eq_self,true_iff,XO,false_iff];omega))
theorem Gl (r:Int):Ret P0 xP [.int .i32 r] (.bool (zL r)):=by
 refine bf D4 rfl ?_
 repeat' first|refine aw ?_|refine bw (fun _=>?_) fun _=>?_
 all_goals
  refine aC (P:=P0) rfl rfl rfl rfl ?_;exact congrArg Dat.bool (Yo.2 (by simp only [decide_eq_true_eq,X6,tp,wX,zL,eq_self,true_iff,XO,false_iff];omega))
theorem Ea (r:Int):Ret P0 lT [.int .i32 r] (.bool (tp r||wX r||decide (r=95))):=by
 have h1:=qj r;have h2:=xR r;refine bf tL rfl ?_
 repeat' first|refine aw ?_|refine bw (fun _=>?_) fun _=>?_
 all_goals
  refine aC (P:=P0) rfl rfl rfl rfl ?_;exact congrArg Dat.bool (Yo.2 (by simp only [decide_eq_true_eq,X6,tp,wX,zL,eq_self,true_iff,XO,false_iff];omega))
theorem zM (r:Int):Ret P0 jA [.int .i32 r] (.bool (tp r||decide (r=95))):=by
 have h1:=qj r;refine bf qN rfl ?_
 repeat' first|refine aw ?_|refine bw (fun _=>?_) fun _=>?_
 all_goals
  refine aC (P:=P0) rfl rfl rfl rfl ?_;exact congrArg Dat.bool (Yo.2 (by simp only [decide_eq_true_eq,X6,tp,wX,zL,eq_self,true_iff,XO,false_iff];omega))
theorem qk (f:FuncId) (p:Int->Bool) (hb:nr P0 f) (hf:∀r,Ret P0 f [.int .i32 r] (.bool (p r))) (hp:∀r,128<=r->p r=false) (s:List UInt8) (hs:s.length<1000000):Ret P0 j0 [.str s,.func f] (I ((s.takeWhile (fun b=>p (b.toNat:Int))).length:Nat)):=by
 refine bf F9 rfl ?_
 repeat' first|refine aw ?_|refine bw (fun _=>?_) fun _=>?_
 refine dK (fun k:Nat=>⟨[(8,.hnd 0),(0,.d (.str s)),(1,.d (.func f))],[(0,.iter s k)],1,[],0⟩)
  (fun k=>k<=s.length/\∀(i:Nat) (hi:i<s.length),i<k->p (s[i].toNat:Int)=true) (fun k=>s.length - k) 0 (by exact Uw.wW) ⟨by omega,by intros;omega⟩ ?_
 rintro k ⟨h1,h2⟩;by_cases hk:k<s.length
 ·have hk' : s[k]? = some s[k]:=by simp [hk]
  have stop:p (s[k].toNat:Int)=false->(s.takeWhile (fun b=>p (b.toNat:Int))).length=k:=fun h=>vP _ s k h1 h2 (fun b hb=>by rw [hk'] at hb;injection hb with hb;rw [<- hb];exact h);by_cases hlow:s[k].toNat<128
  ·have hr:=ud s k s[k] hk' hlow
   have hr1:((bN s k).1:Int)=s[k].toNat:=by rw [hr]
   have hr2:(bN s k).2=1:=by rw [hr]
   have hfr:=hf ((bN s k).1:Int);rw [show p ((bN s k).1:Int)=p (s[k].toNat:Int) by rw [hr1]] at hfr;have hk1:k+(bN s k).2=k+1:=by rw [hr2]
   clear hr hr1
   cases hpk:p (s[k].toNat:Int) with
   | false=>
    rw [hpk] at hfr;have hst:=stop hpk;clear stop h2
    repeat' first|refine aw ?_|refine bw (fun _=>?_) fun _=>?_
    refine hP _ hb rfl hfr ?_
    repeat' first|refine aw ?_|refine bw (fun _=>?_) fun _=>?_
    exact aC (P:=P0) rfl rfl rfl rfl (by rw [hst];rfl)
   | true=>
    rw [hpk] at hfr;have h3:∀(i:Nat) (hi:i<s.length),i<k+(bN s k).2->p (s[i].toNat:Int)=true:=by
     intro i hi hik;by_cases e:i=k
     ·subst e;exact hpk
     ·exact h2 i hi (by omega)
    clear stop h2
    repeat' first|refine aw ?_|refine bw (fun _=>?_) fun _=>?_
    refine hP _ hb rfl hfr ?_
    repeat' first|refine aw ?_|refine bw (fun _=>?_) fun _=>?_
    exact cM (k+(bN s k).2) ⟨by omega,h3⟩ (by omega) (by exact Uw.wW)
  ·obtain ⟨a1,a2,a3,a4,a5⟩:=xG s k s[k] hk' (by omega)
   have hfr:=hf ((bN s k).1:Int);rw [hp _ (by omega)] at hfr;have hst:=stop (hp _ (by omega));clear stop h2 a5
   repeat' first|refine aw ?_|refine bw (fun _=>?_) fun _=>?_
   refine hP _ hb rfl hfr ?_
   repeat' first|refine aw ?_|refine bw (fun _=>?_) fun _=>?_
   exact aC (P:=P0) rfl rfl rfl rfl (by rw [hst];rfl)
 ·have hst:(s.takeWhile (fun b=>p (b.toNat:Int))).length=s.length:=by
   have e:k=s.length:=by omega
   exact vP _ s s.length (Xn _) (fun j hj _=>h2 j hj (by omega)) (fun b hb=>by rw [Xz (Xn _)] at hb;cases hb)
  clear h2
  repeat' first|refine aw ?_|refine bw (fun _=>?_) fun _=>?_
  exact aC (P:=P0) rfl rfl rfl rfl (by rw [hst];rfl)
end Uw.Tryz
namespace Uw.Tryz
open Go Uw Go.Proofs Go.RowKit
theorem xT:∀(l:List UInt8) (n:Nat),l.all dz=true->Lib.decFrom n l=some (l.foldl (fun n b=>10 * n+(b.toNat - 48)) n)
 | [],n,_=>rfl
 | b::r,n,h=>by
  rw [ZG,Xo] at h;have hb:=uA h.1;rw [Lib.decFrom,Lib.digitVal,if_pos hb];simp only;rw [xT r _ h.2,YI,Nat.mul_comm]
theorem M8 (l:List UInt8) (h0:l≠[]) (h:l.all dz=true):Lib.atoi l=some (qP l:Nat):=by
 cases l with
 | nil=>exact absurd rfl h0
 | cons b r=>
  have hb:=uA (by rw [ZG,Xo] at h;exact h.1);have h1:(b == 45)=false:=by
   rw [beq_eq_false_iff_ne];intro e;subst e;simp at hb
  have h2:(b == 43)=false:=by
   rw [beq_eq_false_iff_ne];intro e;subst e;simp at hb
  rw [Lib.atoi,h1,h2];simp only [XO,if_false];rw [Lib.decNat,xT _ _ h];rfl
theorem zN (l:List UInt8) (h0:l≠[]) (h:l.all dz=true) (hl:l.length<=18):Ret P0 zz [.str l] (.tuple [I (qP l:Nat),.nilIface]):=by
 intro w J vs hG hr;obtain ⟨v,vs',rfl,hv,hr⟩:=hr;simp only [aO] at hr;subst hr;simp only [aD] at hv;subst hv;refine (Tryz.strconv_Atoi ⟨l.toArray⟩ (qP l:Nat) (by simpa [ByteArray.size] using hl) (by simpa using M8 l h0 h) w).mono ?_;rintro e w' ⟨rfl,t,rfl⟩;exact ⟨_,rfl,⟨[_,_],rfl,⟨_,_,rfl,rfl,⟨_,_,rfl,rfl,rfl⟩⟩⟩,Lib.bytesWorld_below _ _ _⟩
theorem tq (s p:List UInt8):Ret P0 sV [.str s,.str p] (.bool (Lib.hasPrefix s p)):=by
 intro w J vs hG hr;obtain ⟨v,vs',rfl,hv,u,vs'',rfl,hu,hr⟩:=hr;simp only [aO] at hr;subst hr;simp only [aD] at hv hu;subst hv hu;refine (Tryz.strings_HasPrefix ⟨s.toArray⟩ ⟨p.toArray⟩ w).mono ?_;rintro e w' ⟨rfl,rfl⟩;exact ⟨_,rfl,rfl,Below.refl _ _⟩
theorem tr (s:List UInt8) (c:UInt8):Ret P0 sW [.str s,.int .u8 (c.toNat:Int)] (I (Lib.indexByte s c)):=by
 intro w J vs hG hr;obtain ⟨v,vs',rfl,hv,u,vs'',rfl,hu,hr⟩:=hr;simp only [aO] at hr;subst hr;simp only [aD] at hv hu;subst hv hu;refine (Tryz.strings_IndexByte ⟨s.toArray⟩ (c.toNat:Int) w).mono ?_;rintro e w' ⟨rfl,rfl⟩;refine ⟨_,rfl,?_,Below.refl _ _⟩;simp [aD]
theorem xU (l:List UInt8) (h0:l≠[]) (h:l.all dz=true) (hl:l.length<=18):Ret P0 xQ [.str l] (I (qP l:Nat)):=by
 have ha:=zN l h0 h hl;clear h h0;refine bf D8 rfl ?_
 repeat' first|refine aw ?_|refine bw (fun _=>?_) fun _=>?_
 exact aC (P:=P0) rfl rfl rfl rfl rfl
end Uw.Tryz
namespace Uw.Tryz
open Go Uw Go.Proofs Go.RowKit
theorem zO (b:UInt8):tp (b.toNat:Int)=decide (cls b=1):=by
 refine Yo.2 ?_;simp only [tp,decide_eq_true_eq];unfold cls;constructor
 ·intro h;rw [if_pos (by omega)]
 ·intro h
  split at h
  ·omega
  ·repeat' split at h
   all_goals omega
theorem Gn (b:UInt8):wX (b.toNat:Int)=decide (cls b=2):=by
 refine Yo.2 ?_;simp only [wX,decide_eq_true_eq];unfold cls;constructor
 ·intro h;rw [if_neg (by omega),if_pos (by omega)]
 ·intro h
  repeat' split at h
  all_goals omega
theorem Jm (b:UInt8):decide ((b.toNat:Int)=95)=decide (cls b=3):=by
 refine Yo.2 ?_;simp only [decide_eq_true_eq];unfold cls;constructor
 ·intro h;rw [if_neg (by omega),if_neg (by omega),if_pos (by omega)]
 ·intro h
  repeat' split at h
  all_goals omega
theorem M9 (b:UInt8):zL (b.toNat:Int)=decide (cls b=4):=by
 refine Yo.2 ?_;simp only [zL,decide_eq_true_eq];unfold cls;constructor
 ·intro h;rw [if_neg (by omega),if_neg (by omega),if_neg (by omega),if_pos (by omega)]
 ·intro h
  repeat' split at h
  all_goals omega
theorem KA (s:List UInt8) (hs:s.length<1000000):Ret P0 j0 [.str s,.func lS] (I ((s.takeWhile (fun b=>decide (cls b=1))).length:Nat)):=by
 have:=qk lS tp tK.body qj (fun r hr=>by simp [tp];omega) s hs;simpa only [zO] using this
theorem Na (s:List UInt8) (hs:s.length<1000000):Ret P0 j0 [.str s,.func nQ] (I ((s.takeWhile dz).length:Nat)):=by
 have:=qk nQ wX vH.body xR (fun r hr=>by simp [wX];omega) s hs;simp only [Gn] at this;exact this
theorem PP (s:List UInt8) (hs:s.length<1000000):Ret P0 j0 [.str s,.func lT] (I ((s.takeWhile nameB).length:Nat)):=by
 have:=qk lT (fun r=>tp r||wX r||decide (r=95)) tL.body Ea (fun r hr=>by simp [tp,wX];omega) s hs;simp only [zO,Gn,Jm] at this;exact this
theorem KB (s:List UInt8) (hs:s.length<1000000):Ret P0 j0 [.str s,.func jA] (I ((s.takeWhile (fun b=>decide (cls b=1)||decide (cls b=3))).length:Nat)):=by
 have:=qk jA (fun r=>tp r||decide (r=95)) qN.body zM (fun r hr=>by simp [tp];omega) s hs;simp only [zO,Jm] at this;exact this
def iZ (r:List UInt8):Nat:=match bz r with|some (k,n,_)=>if k=1 then n else 0|none=>0
def jS (r:List UInt8):Nat:=match bz r with|some (k,n,_)=>if k=2 then n else 0|none=>0
def mU (r:List UInt8):Nat:=match bz r with|some (k,n,_)=>if k=3 then n else 0|none=>0
theorem KC (c:UInt8) (t:List UInt8) (h:cls c≠1):iZ (c::t)=0:=by
 rw [iZ];by_cases h2:cls c=2
 ·rw [mT c t h2];split
  ·rename_i h3;split at h3
   ·simp at h3;simp [<- h3.1]
   ·cases h3
  ·rfl
 ·by_cases h5:cls c=5
  ·rw [kK c t h5];rfl
  ·rw [ij c t h h2 h5]
theorem H6 (c:UInt8) (t:List UInt8) (h:cls c=1):iZ (c::t)=if endOf (c::t)<=12 then endOf (c::t) else 0:=by
 rw [iZ,kJ c t h];by_cases h2:endOf (c::t)<=12
 ·rw [if_pos h2,if_pos h2];rfl
 ·rw [if_neg h2,if_neg h2]
theorem H7 (c:UInt8) (t:List UInt8) (hs:(c::t).length<1000000):Ret P0 gJ [.str (c::t)] (I (iZ (c::t))):=by
 have h1:=KA (c::t) hs;have h2:=PP (c::t) hs;by_cases h:cls c=1
 ·have e1:0<((c::t).takeWhile (fun b=>decide (cls b=1))).length:=by rw [XZ,if_pos (by simp [h])];simp
  have e2:((c::t).takeWhile nameB).length=endOf (c::t):=by rw [XZ,if_pos (by simp [nameB,h])];simp [endOf,h];omega
  have e3:=H6 c t h;rw [e2] at h2;generalize endOf (c::t)=E at *;generalize ((c::t).takeWhile (fun b=>decide (cls b=1))).length=A at *;generalize iZ (c::t)=R at *;clear e2;generalize c::t=s at *;by_cases hE:E<=12
  ·rw [if_pos hE] at e3
   subst e3;refine bf ky rfl ?_
   repeat' first|refine aw ?_|refine bw (fun _=>?_) fun _=>?_
   exact aC (P:=P0) rfl rfl rfl rfl rfl
  ·rw [if_neg hE] at e3
   subst e3;refine bf ky rfl ?_
   repeat' first|refine aw ?_|refine bw (fun _=>?_) fun _=>?_
   exact aC (P:=P0) rfl rfl rfl rfl rfl
 ·have e1:((c::t).takeWhile (fun b=>decide (cls b=1))).length=0:=by rw [XZ,if_neg (by simp [h])];rfl
  rw [e1] at h1;have e3:=KC c t h;rw [e3];clear h2 e1 e3 h;generalize c::t=s at *;refine bf ky rfl ?_
  repeat' first|refine aw ?_|refine bw (fun _=>?_) fun _=>?_
  exact aC (P:=P0) rfl rfl rfl rfl rfl
theorem Nb (c:UInt8) (t:List UInt8) (h:cls c≠2):jS (c::t)=0:=by
 rw [jS];by_cases h2:cls c=1
 ·rw [kJ c t h2];split
  ·rename_i h3;split at h3
   ·simp at h3;simp [<- h3.1]
   ·cases h3
  ·rfl
 ·by_cases h5:cls c=5
  ·rw [kK c t h5];rfl
  ·rw [ij c t h2 h h5]
theorem KD (c:UInt8) (t:List UInt8) (h:cls c=2):jS (c::t)=if 0<=yj ((c::t).take (endOf (c::t)))/\sU ((c::t).drop (endOf (c::t)))=false then endOf (c::t) else 0:=by
 rw [jS,mT c t h];by_cases h2:0<=yj ((c::t).take (endOf (c::t)))/\sU ((c::t).drop (endOf (c::t)))=false
 ·rw [if_pos h2,if_pos h2];rfl
 ·rw [if_neg h2,if_neg h2]
theorem PR (r:List UInt8):sU r=decide (0<(r.takeWhile (fun b=>decide (cls b=1)||decide (cls b=3))).length):=by
 cases r with
 | nil=>rfl
 | cons b t=>
  rw [sU,XZ]
  cases decide (cls b=1)||decide (cls b=3)<;>simp
theorem Eb (c:UInt8) (t:List UInt8) (hs:(c::t).length<1000000):Ret P0 eO [.str (c::t)] (I (jS (c::t))):=by
 have h1:=Na (c::t) hs;by_cases h:cls c=2
 ·have e1:((c::t).takeWhile dz).length=endOf (c::t):=by rw [XZ,if_pos (by simp [dz,h])];simp [endOf,h];omega
  have hall:=Jl c t h;have hle:=Gk c t;have e3:=KD c t h;rw [e1] at h1;have hl0:(c::t).length=t.length+1:=rfl;have hc0:∀hp:0<(c::t).length,(c::t)[0]'hp=c:=fun _=>rfl;have hhd:((c::t).take (endOf (c::t))).head? = some 48<->c.toNat=48:=by
   rw [vQ c t h,Jk _ (by simp)];rfl
  have h0:0<(c::t).length:=by simp
  generalize endOf (c::t)=E at *;clear e1;generalize jS (c::t)=R at *;generalize c::t=s at *;have hc0:=congrArg UInt8.toNat (hc0 h0);have hwl:(s.take E).length=E:=by simp;omega
  have hsp:=KB ((s.take s.length).drop E) (by simp;omega);have hlt:=PR (s.drop E);have e5:(s.take s.length).drop E=s.drop E:=by rw [XE]
  rw [<- e5] at e3 hlt;generalize sU ((s.take s.length).drop E)=L at *;generalize (((s.take s.length).drop E).takeWhile (fun b=>decide (cls b=1)||decide (cls b=3))).length=A at *;have hnr:yj (s.take E)=if 10<E\/(c.toNat=48/\1<E) then -1 else if 4294967296<=qP (s.take E) then -1 else ((qP (s.take E):Nat):Int):=by
   rw [yj,hwl];simp only [hhd]
  by_cases hb:10<E\/(c.toNat=48/\1<E)
  ·rw [if_pos hb] at hnr
   rw [if_neg (by rintro ⟨q,_⟩;omega)] at e3;subst e3;clear hsp hlt hall hhd e5 hnr;refine bf eU rfl ?_
   repeat' first|refine aw ?_|refine bw (fun _=>?_) fun _=>?_
   all_goals exact aC (P:=P0) rfl rfl rfl rfl rfl
  ·rw [if_neg hb] at hnr
   have hv:=xU ((s.take E).drop 0) (by rw [XX];intro e;rw [e] at hwl;simp at hwl;omega) (by rw [XX];exact hall) (by rw [XX,hwl];omega);rw [show qP ((s.take E).drop 0)=qP (s.take E) by rw [XX]] at hv;generalize qP (s.take E)=V at *;by_cases hA:0<A
   ·rw [decide_eq_true hA] at hlt
    rw [if_neg (by rintro ⟨_,q⟩;rw [hlt] at q;cases q)] at e3;subst e3;clear hall hhd e5 hnr;refine bf eU rfl ?_
    repeat' first|refine aw ?_|refine bw (fun _=>?_) fun _=>?_
    all_goals exact aC (P:=P0) rfl rfl rfl rfl rfl
   ·rw [decide_eq_false hA] at hlt
    by_cases hV:4294967296<=V
    ·rw [if_pos hV] at hnr
     rw [if_neg (by rintro ⟨q,_⟩;omega)] at e3;subst e3;clear hall hhd e5 hnr hlt;refine bf eU rfl ?_
     repeat' first|refine aw ?_|refine bw (fun _=>?_) fun _=>?_
     all_goals exact aC (P:=P0) rfl rfl rfl rfl rfl
    ·rw [if_neg hV] at hnr
     rw [if_pos ⟨by omega,hlt⟩] at e3;subst e3;clear hall hhd e5 hnr hlt;refine bf eU rfl ?_
     repeat' first|refine aw ?_|refine bw (fun _=>?_) fun _=>?_
     all_goals exact aC (P:=P0) rfl rfl rfl rfl rfl
 ·have e1:((c::t).takeWhile dz).length=0:=by rw [XZ,if_neg (by simp [dz,h])];rfl
  rw [e1] at h1;rw [Nb c t h];clear e1 h;generalize c::t=s at *;refine bf eU rfl ?_
  repeat' first|refine aw ?_|refine bw (fun _=>?_) fun _=>?_
  exact aC (P:=P0) rfl rfl rfl rfl rfl
end Uw.Tryz
namespace Uw.Tryz
open Go Uw Go.Proofs Go.RowKit
def Ec:List UInt8:=[40,41,123,125,44,59,46,61,43,45,42,60]
theorem KE:∀n:Fin 256,decide (0<=Lib.indexByte Ec (UInt8.ofNat n.val))=decide (cls (UInt8.ofNat n.val)=5):=by decide +kernel
theorem KF (c:UInt8):0<=Lib.indexByte Ec c<->cls c=5:=by
 have h:=KE ⟨c.toNat,c.toNat_lt⟩;simp only [UInt8.ofNat_toNat] at h;exact decide_eq_decide.1 h
theorem H8 (c:UInt8) (t:List UInt8):Lib.hasPrefix (c::t) [61,61]=(decide (c.toNat=61)&&eqq t):=by
 have key:∀b:UInt8,(61 == b)=decide (b.toNat=61):=by
  intro b;rw [Yo,beq_iff_eq,decide_eq_true_eq];exact ⟨fun h=>by rw [<- h];rfl,fun h=>(ZO.1 (by rw [h];rfl)).symm⟩
 rw [Lib.hasPrefix]
 cases t with
 | nil=>simp [List.isPrefixOf,eqq]
 | cons b r=>simp only [List.isPrefixOf,eqq,key,Bool.and_true]
theorem CJ (c:UInt8) (t:List UInt8) (h:cls c=5):mU (c::t)=endOf (c::t):=by rw [mU,kK c t h];rfl
theorem Nc (c:UInt8) (t:List UInt8) (h:cls c≠5):mU (c::t)=0:=by
 rw [mU];by_cases h1:cls c=1
 ·rw [kJ c t h1];split
  ·rename_i h3;split at h3
   ·simp at h3;simp [<- h3.1]
   ·cases h3
  ·rfl
 ·by_cases h2:cls c=2
  ·rw [mT c t h2];split
   ·rename_i h3;split at h3
    ·simp at h3;simp [<- h3.1]
    ·cases h3
   ·rfl
  ·rw [ij c t h1 h2 h]
theorem H9 (c:UInt8) (t:List UInt8) (hs:(c::t).length<1000000):Ret P0 gK [.str (c::t)] (I (mU (c::t))):=by
 have h1:=tq (c::t) [61,61];have h2:=tr Ec c;rw [H8] at h1;have h3:=KF c;have h0:0<(c::t).length:=by simp
 have hc0:∀hp:0<(c::t).length,(c::t)[0]'hp=c:=fun _=>rfl;have hc0:=hc0 h0;have he:cls c=5->(decide (c.toNat=61)&&eqq t)=true->mU (c::t)=2:=fun h h'=>by
  simp at h';rw [CJ c t h,mS c t h,if_pos h']
 have he2:cls c=5->(decide (c.toNat=61)&&eqq t)=false->mU (c::t)=1:=fun h h'=>by
  rw [CJ c t h,mS c t h,if_neg (by rintro ⟨q1,q2⟩;rw [decide_eq_true q1,q2] at h';cases h')]
 have he3:cls c≠5->mU (c::t)=0:=Nc c t;have h61:(decide (c.toNat=61)&&eqq t)=true->cls c=5:=fun h=>by
  simp at h;have:c=61:=ZO.1 h.1;subst this;rfl
 generalize (decide (c.toNat=61)&&eqq t)=q at *;generalize mU (c::t)=R at *;generalize Lib.indexByte Ec c=X at *;by_cases h5:cls c=5
 ·have hX:0<=X:=h3.2 h5
  cases q with
  | true=>
   have he:=he h5 rfl;subst he;clear h2 h3 hX he2 he3 h61 hc0;generalize c::t=s at *;refine bf kz rfl ?_
   repeat' first|refine aw ?_|refine bw (fun _=>?_) fun _=>?_
   exact aC (P:=P0) rfl rfl rfl rfl rfl
  | false=>
   have he:=he2 h5 rfl;subst he;clear he2 he3 h61;rw [<- hc0] at h2;clear hc0 h3;generalize c::t=s at *;refine bf kz rfl ?_
   repeat' first|refine aw ?_|refine bw (fun _=>?_) fun _=>?_
   exact aC (P:=P0) rfl rfl rfl rfl rfl
 ·have hX:¬0<=X:=fun h=>h5 (h3.1 h)
  have he:=he3 h5;subst he
  cases q with
  | true=>exact absurd (h61 rfl) h5
  | false=>
   clear he2 he3 h61;rw [<- hc0] at h2;clear hc0 h3;generalize c::t=s at *;refine bf kz rfl ?_
   repeat' first|refine aw ?_|refine bw (fun _=>?_) fun _=>?_
   exact aC (P:=P0) rfl rfl rfl rfl rfl
def lg (r:List UInt8):Tok×Bool:=match bz r with|none=>(⟨0,[],0,0⟩,false)|some (k,n,v)=>(⟨k,r.take n,v,0⟩,true)
def Nh (x:Tok×Bool):Dat:=.tuple [.agg (rz x.1),.bool x.2]
def Ni:Dat:=.slice 2 [[I 1,.func gJ],[I 2,.func eO],[I 3,.func gK]] false
theorem Gp {r:List UInt8} {k:Int} {n:Nat} {v:Int} (h:bz r=some (k,n,v)) :
  (k=1/\v=0/\n<=12)\/(k=2/\v=(qP (r.take n):Nat)/\(r.take n).all dz=true/\n<=10/\v<4294967296)\/(k=3/\v=0/\n<=2):=by
 cases r with
 | nil=>simp [bz] at h
 | cons c t=>
  by_cases h1:cls c=1
  ·rw [kJ c t h1] at h
   split at h
   ·simp only [XP,Yp] at h;omega
   ·cases h
  ·by_cases h2:cls c=2
   ·have ha:=Jl c t h2
    rw [mT c t h2] at h
    split at h
    ·rename_i hc
     simp only [XP,Yp] at h;obtain ⟨q1,q2,q3⟩:=h;have hc:=hc.1;have hel:=Gk c t;rw [q2] at ha hc q3 hel;have hl:((c::t).take n).length=n:=by simp;omega
     rw [yj] at q3 hc
     split at hc
     ·omega
     ·rename_i q4
      rw [if_neg q4] at q3
      split at hc
      ·omega
      ·rename_i q5
       rw [if_neg q5] at q3;right;left;exact ⟨q1.symm,q3.symm,ha,by omega,by omega⟩
    ·cases h
   ·by_cases h5:cls c=5
    ·rw [kK c t h5] at h
     simp only [XP,Yp] at h;have:=mS c t h5
     split at this<;>omega
    ·rw [ij c t h1 h2 h5] at h;cases h
theorem Gq (r:List UInt8):(iZ r≠0->lg r=(⟨1,r.take (iZ r),0,0⟩,true)/\iZ r<=r.length)/\
  (iZ r=0->jS r≠0->lg r=(⟨2,r.take (jS r),(qP (r.take (jS r)):Nat),0⟩,true)/\(r.take (jS r)).all dz=true/\jS r<=10/\jS r<=r.length)/\
  (iZ r=0->jS r=0->mU r≠0->lg r=(⟨3,r.take (mU r),0,0⟩,true)/\mU r<=r.length)/\(iZ r=0->jS r=0->mU r=0->lg r=(⟨0,[],0,0⟩,false)):=by
 rw [iZ,jS,mU,lg]
 cases h:bz r with
 | none=>simp
 | some x=>
  obtain ⟨k,n,v⟩:=x;have hn:=fW h
  rcases Gp h with ⟨rfl,rfl,_⟩|⟨rfl,rfl,h2,h3,_⟩|⟨rfl,rfl,_⟩
  ·simp only [if_true]
   exact ⟨fun _=>⟨trivial,hn.2⟩,fun h=>by omega,fun h=>by omega,fun h=>by omega⟩
  ·simp only [show ¬(2:Int)=1 by omega,if_false,if_true]
   exact ⟨fun h=>by omega,fun _ _=>⟨trivial,h2,h3,hn.2⟩,fun _ h=>by omega,fun _ h=>by omega⟩
  ·simp only [show ¬(3:Int)=1 by omega,show ¬(3:Int)=2 by omega,if_false,if_true]
   exact ⟨fun h=>by omega,fun _ h=>by omega,fun _ _ _=>⟨trivial,hn.2⟩,fun _ _ h=>by omega⟩
theorem Gs (c:UInt8) (t:List UInt8) (hs:(c::t).length<1000000):Ret P0 rD [Ni,.str (c::t)] (Nh (lg (c::t))):=by
 have h1:=H7 c t hs;have h2:=Eb c t hs;have h3:=H9 c t hs;obtain ⟨f1,f2,f3,f4⟩:=Gq (c::t);have hv:=fun (q:(iZ (c::t)=0/\jS (c::t)≠0))=>xU (((c::t).take (jS (c::t))).drop 0) (by rw [XX];intro e;have:=congrArg List.length e;rw [XW] at this;have:=(f2 q.1 q.2).2.2.2;simp at *;omega) (by rw [XX];exact (f2 q.1 q.2).2.1) (by rw [XX,XW];have:=(f2 q.1 q.2).2.2.1;omega);simp only [XX] at hv;generalize iZ (c::t)=A at *;generalize jS (c::t)=B at *;generalize mU (c::t)=C at *;generalize lg (c::t)=R at *;generalize c::t=s at *;refine bf D5 rfl ?_
 repeat' first|refine aw ?_|refine bw (fun _=>?_) fun _=>?_
 refine dK (fun k:Nat=>⟨[(12,.d (I k)),(11,.d (I (↑[[I 1,Dat.func gJ],[I 2,Dat.func eO],[I 3,Dat.func gK]].length))),(10,.d Ni),(4,.ptr 0 0),(1,.d (.str s))],[(0,.var [.d (I 0),.d (.str []),.d (I 0),.d (I 0)])],1,[],0⟩)
  (fun k=>k<=3/\(1<=k->A=0)/\(2<=k->B=0)/\(3<=k->C=0)) (fun k=>3 - k) 0 (by exact Uw.wW) (by omega) ?_
 rintro k ⟨k1,k2,k3,k4⟩;have hk:k=0\/k=1\/k=2\/k=3:=by omega
 rcases hk with rfl|rfl|rfl|rfl
 ·by_cases hA:A=0
  ·clear f1 f2 f3 f4 hv
   subst hA
   repeat' first|refine aw ?_|refine bw (fun _=>?_) fun _=>?_
   refine iR _ rfl ?_
   repeat' first|refine aw ?_|refine bw (fun _=>?_) fun _=>?_
   refine hP _ ky.body rfl h1 ?_
   repeat' first|refine aw ?_|refine bw (fun _=>?_) fun _=>?_
   exact cM 1 (by omega) (by omega) (by exact Uw.wW)
  ·obtain ⟨e,hle⟩:=f1 hA
   subst e;clear f1 f2 f3 f4 hv
   repeat' first|refine aw ?_|refine bw (fun _=>?_) fun _=>?_
   refine iR _ rfl ?_
   repeat' first|refine aw ?_|refine bw (fun _=>?_) fun _=>?_
   refine hP _ ky.body rfl h1 ?_
   repeat' first|refine aw ?_|refine bw (fun _=>?_) fun _=>?_
   refine bW ⟨[(7,.ptr 1 0),(9,.ptr 2 0),(4,.ptr 0 0)],[(2,.var [.d (I 1),.d (.str ((s.take A).drop 0)),.d (I 0),.d (I 0)]),(1,.var [.d (I 1),.d (.func gJ)]),(0,.var [.d (I 0),.d (.str []),.d (I 0),.d (I 0)])],3,[],0⟩ ?_ ?_
   ·repeat' first|refine aw ?_|refine bw (fun _=>?_) fun _=>?_
    exact aX (.inl ⟨rfl,by exact Uw.wW⟩)
   ·repeat' first|refine aw ?_|refine bw (fun _=>?_) fun _=>?_
    exact bK (aC (P:=P0) rfl rfl rfl rfl rfl)
 ·have hA:=k2 (by omega)
  by_cases hB:B=0
  ·clear f1 f2 f3 f4 hv
   subst hB
   repeat' first|refine aw ?_|refine bw (fun _=>?_) fun _=>?_
   refine iR _ rfl ?_
   repeat' first|refine aw ?_|refine bw (fun _=>?_) fun _=>?_
   refine hP _ eU.body rfl h2 ?_
   repeat' first|refine aw ?_|refine bw (fun _=>?_) fun _=>?_
   exact cM 2 (by omega) (by omega) (by exact Uw.wW)
  ·obtain ⟨e,q1,q2,hle⟩:=f2 hA hB
   have hv:=hv ⟨hA,hB⟩;subst e;clear f1 f2 f3 f4
   repeat' first|refine aw ?_|refine bw (fun _=>?_) fun _=>?_
   refine iR _ rfl ?_
   repeat' first|refine aw ?_|refine bw (fun _=>?_) fun _=>?_
   refine hP _ eU.body rfl h2 ?_
   repeat' first|refine aw ?_|refine bw (fun _=>?_) fun _=>?_
   refine bW ⟨[(7,.ptr 1 0),(9,.ptr 2 0),(4,.ptr 0 0)],[(2,.var [.d (I 2),.d (.str ((s.take B).drop 0)),.d (I 0),.d (I 0)]),(1,.var [.d (I 2),.d (.func eO)]),(0,.var [.d (I 0),.d (.str []),.d (I 0),.d (I 0)])],3,[],0⟩ ?_ ?_
   ·repeat' first|refine aw ?_|refine bw (fun _=>?_) fun _=>?_
    exact aX (.inl ⟨rfl,by exact Uw.wW⟩)
   ·repeat' first|refine aw ?_|refine bw (fun _=>?_) fun _=>?_
    exact bK (aC (P:=P0) rfl rfl rfl rfl rfl)
 ·have hA:=k2 (by omega)
  have hB:=k3 (by omega);by_cases hC:C=0
  ·clear f1 f2 f3 f4 hv
   subst hC
   repeat' first|refine aw ?_|refine bw (fun _=>?_) fun _=>?_
   refine iR _ rfl ?_
   repeat' first|refine aw ?_|refine bw (fun _=>?_) fun _=>?_
   refine hP _ kz.body rfl h3 ?_
   repeat' first|refine aw ?_|refine bw (fun _=>?_) fun _=>?_
   exact cM 3 (by omega) (by omega) (by exact Uw.wW)
  ·obtain ⟨e,hle⟩:=f3 hA hB hC
   subst e;clear f1 f2 f3 f4 hv
   repeat' first|refine aw ?_|refine bw (fun _=>?_) fun _=>?_
   refine iR _ rfl ?_
   repeat' first|refine aw ?_|refine bw (fun _=>?_) fun _=>?_
   refine hP _ kz.body rfl h3 ?_
   repeat' first|refine aw ?_|refine bw (fun _=>?_) fun _=>?_
   refine bW ⟨[(7,.ptr 1 0),(9,.ptr 2 0),(4,.ptr 0 0)],[(2,.var [.d (I 3),.d (.str ((s.take C).drop 0)),.d (I 0),.d (I 0)]),(1,.var [.d (I 3),.d (.func gK)]),(0,.var [.d (I 0),.d (.str []),.d (I 0),.d (I 0)])],3,[],0⟩ ?_ ?_
   ·repeat' first|refine aw ?_|refine bw (fun _=>?_) fun _=>?_
    exact aX (.inl ⟨rfl,by exact Uw.wW⟩)
   ·repeat' first|refine aw ?_|refine bw (fun _=>?_) fun _=>?_
    exact bK (aC (P:=P0) rfl rfl rfl rfl rfl)
 ·have hA:=k2 (by omega)
  have hB:=k3 (by omega);have hC:=k4 (by omega);have e:=f4 hA hB hC;subst e;clear f1 f2 f3 f4 hv k2 k3 k4
  repeat' first|refine aw ?_|refine bw (fun _=>?_) fun _=>?_
  exact aC (P:=P0) rfl rfl rfl rfl rfl
end Uw.Tryz
namespace Uw.Tryz
open Go Uw Go.Proofs Go.RowKit
theorem xW {r:List UInt8} (h:bz r=none):lg r=(⟨0,[],0,0⟩,false):=by rw [lg,h]
theorem Gt {r:List UInt8} {k:Int} {n:Nat} {v:Int} (h:bz r=some (k,n,v)):lg r=(⟨k,r.take n,v,0⟩,true):=by rw [lg,h]
theorem KG {b:UInt8} (h:nameB b=true):b.toNat<128:=by
 simp only [nameB,X6,decide_eq_true_eq] at h;unfold cls at h
 repeat' split at h
 all_goals omega
theorem yF {b:UInt8} (h:cls b≠0):b.toNat<128:=by
 unfold cls at h
 repeat' split at h
 all_goals omega
theorem tN {α:Type} (p:α->Bool) (l:List α):∀x∈l.takeWhile p,p x=true:=XL.1 (all_takeWhile p l)
theorem PT {r:List UInt8} {k:Int} {n:Nat} {v:Int} (h:bz r=some (k,n,v)):∀b∈r.take n,b.toNat<128:=by
 cases r with
 | nil=>simp [bz] at h
 | cons c t=>
  by_cases h1:cls c=1
  ·rw [kJ c t h1] at h
   have e:endOf (c::t)=1+(t.takeWhile nameB).length:=by simp [endOf,h1]
   split at h
   ·simp only [XP,Yp] at h
    rw [<- h.2.1,e,Zc,Yu,take_takeWhile];intro b hb
    rcases XA.1 hb with rfl|hb
    ·exact yF (by omega)
    ·exact KG (tN _ _ b hb)
   ·cases h
  ·by_cases h2:cls c=2
   ·have hd:=vQ c t h2
    rw [mT c t h2] at h
    split at h
    ·simp only [XP,Yp] at h
     rw [<- h.2.1,hd];intro b hb
     rcases XA.1 hb with rfl|hb
     ·exact yF (by omega)
     ·have:=uA (tN _ _ b hb);omega
    ·cases h
   ·by_cases h5:cls c=5
    ·have he:=mS c t h5
     rw [kK c t h5] at h;simp only [XP,Yp] at h;rw [<- h.2.1,he];intro b hb
     split at hb
     ·rename_i q
      cases t with
      | nil=>simp [eqq] at q
      | cons d u=>
       simp only [eqq,decide_eq_true_eq] at q;simp at hb
       rcases hb with rfl|rfl<;>omega
     ·simp at hb;subst hb;exact yF (by omega)
    ·rw [ij c t h1 h2 h5] at h;cases h
def Jn (s:List UInt8) (k b:Nat):Prop:=∀i,k<=i->i<b->∀c,s[i]? = some c->c.toNat<128
theorem nS (s:List UInt8) (hs:s.length<1000000):Ret P0 xO [.str s] (MZ (dA s)):=by
 refine Ret.res (r:=Bi s) ?_ (PN s);by_cases h4:4000<s.length
 ·have e:Bi s = .tuple [.nil,I 2]:=by rw [Bi,if_pos h4]
  rw [e];refine bf vt rfl ?_
  repeat' first|refine aw ?_|refine bw (fun _=>?_) fun _=>?_
  exact aC (P:=P0) rfl rfl rfl rfl rfl
 ·have bad:fy s 0=none->Bi s = .tuple [.nil,I 3]:=fun h=>by rw [Bi,if_neg h4,h]
  have good:∀l,fy s 0=some l->Bi s = .tuple [vd l,I 0]:=fun l h=>by rw [Bi,if_neg h4,h]
  generalize Bi s=R at bad good;refine bf vt rfl ?_
  repeat' first|refine aw ?_|refine bw (fun _=>?_) fun _=>?_
  refine dK (fun ((k,b,n,xs):Nat×Nat×Nat×List (List Dat))=>⟨[(19,.hnd 0),(6,.d (I b)),(5,.ref 1 0 0 n),(4,.d (Dat.slice 2 ((((List.replicate 3 [Dat.int IntKind.i64 0,Dat.nilFunc]).set 0 [Dat.int IntKind.i64 1,Dat.func gJ]).set 1 [Dat.int IntKind.i64 2,Dat.func eO]).set 2 [Dat.int IntKind.i64 3,Dat.func gK]) true)),(0,.d (.str s))],[(1,.arr 4 xs),(0,.iter s k)],2,[],0⟩)
   (fun (k,b,n,xs)=>k<=s.length/\b<=s.length/\n=xs.length/\n<=b/\n<=k/\Jn s k b/\∃out,xs=out.map rz/\Read s (max k b) out) (fun (k,_)=>s.length - k) (0,0,0,[]) (by exact Uw.wW) ⟨by omega,by omega,rfl,by omega,by omega,by intro i h1 h2;omega,[],rfl,Read.init s⟩ ?_
  rintro ⟨k,b,n,xs⟩ ⟨h1,h2,h3,h3',WE,hlow,out,h5,h6⟩;by_cases hk:k<s.length
  ·have hk' : s[k]? = some s[k]:=by simp [hk]
   have hd:s.drop k=s[k]::s.drop (k+1):=XY hk;by_cases hkb:k<b
   ·have hl:=hlow k (Xn _) hkb s[k] hk'
    have hr:=ud s k s[k] hk' hl;have hr2:(bN s k).2=1:=by rw [hr]
    clear hr;have hm:max (k+(bN s k).2) b=max k b:=by omega
    have h7:Read s (max (k+(bN s k).2) b) out:=by rw [hm];exact h6
    have hl2:Jn s (k+(bN s k).2) b:=fun i q1 q2=>hlow i (by omega) q2;clear good bad h6 hd hlow
    repeat' first|refine aw ?_|refine bw (fun _=>?_) fun _=>?_
    exact cM (k+(bN s k).2,b,n,xs) ⟨by omega,h2,h3,h3',by omega,hl2,out,h5,h7⟩ (by simp only;omega) (by exact Uw.wW)
   ·have hm:max k b=k:=by omega
    rw [hm] at h6;have hbl:=Gl ((bN s k).1:Int);have hfi:=(Gs s[k] (s.drop (k+1)) (by rw [<- hd];simp;omega)).args (ds:=[.slice 2 [[I 1,.func gJ],[I 2,.func eO],[I 3,.func gK]] true,.str (s[k]::s.drop (k+1))]) (.cons (.slice (.refl _)) (.refl _));rw [<- hd] at hfi;have PU : Ret P0 rD [.slice 2 [[I 1,.func gJ],[I 2,.func eO],[I 3,.func gK]] true,.str ((s.take s.length).drop k)] (Nh (lg (s.drop k))):=by rw [XE];exact hfi
    clear hfi;by_cases hl:s[k].toNat<128
    ·have hr:=ud s k s[k] hk' hl
     have hr1:((bN s k).1:Int)=s[k].toNat:=by rw [hr]
     have hr2:(bN s k).2=1:=by rw [hr]
     clear hr;rw [show zL ((bN s k).1:Int)=decide (cls s[k]=4) by rw [hr1,M9]] at hbl;by_cases k4:cls s[k]=4
     ·rw [decide_eq_true k4] at hbl
      have h7:Read s (max (k+(bN s k).2) b) out:=by rw [hr2,show max (k+1) b=k+1 by omega];exact h6.blank hk k4
      have hl2:Jn s (k+(bN s k).2) b:=fun i q1 q2=>by omega
      clear good bad h6 hd hlow PU
      repeat' first|refine aw ?_|refine bw (fun _=>?_) fun _=>?_
      exact cM (k+(bN s k).2,b,n,xs) ⟨by omega,h2,h3,h3',by omega,hl2,out,h5,h7⟩ (by simp only;omega) (by exact Uw.wW)
     ·rw [decide_eq_false k4] at hbl
      cases ht:bz (s.drop k) with
      | none=>
       rw [xW ht] at PU;have hb:=bad (h6.none hk k4 ht);subst hb;clear good bad h6 hd hlow ht
       repeat' first|refine aw ?_|refine bw (fun _=>?_) fun _=>?_
       exact bK (aC (P:=P0) rfl rfl rfl rfl rfl)
      | some x=>
       obtain ⟨K,N,v⟩:=x;rw [Gt ht] at PU;have hn:=fW ht;have hlw:=PT ht;have h8:=h6.tok hk k4 ht;have hN:k+N<=s.length:=by have:=hn.2;simp at this;omega
       have hxl:((s.drop k).take N).length=N:=PO hN;have h7:Read s (max (k+(bN s k).2) (k+N)) (out++[⟨K,(s.drop k).take N,v,k⟩]):=by rw [hr2,show max (k+1) (k+N)=k+N by omega];exact h8
       have hl2:Jn s (k+(bN s k).2) (k+N):=by
        intro i q1 q2 c hc;refine hlw c ?_;rw [aad];refine ⟨i - k,by simp;have:=(XT.1 hc).1;omega,?_⟩;rw [List.getElem_drop];have:=(XT.1 hc).2;simp only [show k+(i - k)=i by omega];exact this
       generalize (s.drop k).take N=w at *;clear good bad h6 hd hlow ht h8 hlw;have hen:(k:Int)+(w.length:Int)=((k+N:Nat):Int):=by omega
       repeat' first|refine aw ?_|refine bw (fun _=>?_) fun _=>?_
       refine cM (k+(bN s k).2,k+N,n+1,xs++[[I K,.str w,I v,I k]]) ⟨by omega,hN,by simp [h3],by omega,by omega,hl2,out++[⟨K,w,v,k⟩],?_,h7⟩ (by simp only;omega) (by exact Uw.wW);rw [h5];simp [rz]
    ·obtain ⟨a1,a2,a3,a4,a5⟩:=xG s k s[k] hk' (by omega)
     have hc0:cls s[k]=0:=by
      by_cases h:cls s[k]=0
      ·exact h
      ·exact absurd (yF h) hl
     have ht:bz (s.drop k)=none:=by rw [hd];exact ij _ _ (by omega) (by omega) (by omega)
     rw [show zL ((bN s k).1:Int)=false by simp [zL];omega] at hbl;rw [xW ht] at PU;have hb:=bad (h6.none hk (by omega) ht);subst hb;clear good bad h6 hd hlow ht a5
     repeat' first|refine aw ?_|refine bw (fun _=>?_) fun _=>?_
     exact bK (aC (P:=P0) rfl rfl rfl rfl rfl)
  ·have hg:=good out (h6.end (by omega))
   subst hg;clear good bad h6 hlow
   repeat' first|refine aw ?_|refine bw (fun _=>?_) fun _=>?_
   exact aC (P:=P0) rfl rfl rfl rfl (by rw [R2 h3 h5];rfl)
end Uw.Tryz
namespace Uw.Tryz
open Go Uw Go.Proofs
def Ib (d:Int) (t:Tok):Tok:={ t with at_:=t.at_+d }
theorem uB (d:Int):∀(f:Nat) (r:List UInt8) (a:Int),kX f r (a+d)=(kX f r a).map (List.map (Ib d))
 | f,[],a=>by cases f<;>rfl
 | 0,c::t,a=>rfl
 | f+1,c::t,a=>by
  rw [kX,kX];by_cases hb:cls c=4
  ·rw [if_pos hb,if_pos hb,show a+d+1=(a+1)+d by omega];exact uB d f t (a+1)
  ·rw [if_neg hb,if_neg hb]
   cases ht:bz (c::t) with
   | none=>rfl
   | some x=>
    obtain ⟨k,n,v⟩:=x;simp only;rw [show a+d+(n:Int)=(a+n)+d by omega,uB d f ((c::t).drop n) (a+n)]
    cases kX f ((c::t).drop n) (a+n) with
    | none=>rfl
    | some l=>rfl
theorem Ic (d:Int) (r:List UInt8) (a:Int):fy r (a+d)=(fy r a).map (List.map (Ib d)):=uB d _ r a
theorem CM (r:List UInt8) (a:Int):fy r a=(fy r 0).map (List.map (Ib a)):=by
 have:=Ic a r 0
 rwa [Int.zero_add] at this
theorem iM (p:UInt8->Bool) (c:UInt8) (b:List UInt8) (hc:p c=false):∀(a:List UInt8),(a++c::b).takeWhile p=a.takeWhile p
 | []=>by rw [Yb,XZ,hc];rfl
 | x::r=>by
  rw [Xv,XZ,XZ,iM p c b hc r]
theorem oy (p:UInt8->Bool) (c:UInt8) (b:List UInt8) (hc:p c=false):∀(a:List UInt8),(a++c::b).dropWhile p=a.dropWhile p++c::b
 | []=>by rw [Yb,Ze,hc];rfl
 | x::r=>by
  rw [Xv,Ze,Ze,oy p c b hc r]
  split<;>rfl
theorem Ie (c:UInt8) (hc:cls c=4) (b:List UInt8):∀(a:List UInt8),a≠[]->bz (a++c::b)=bz a
 | [],h=>absurd rfl h
 | x::r,_=>by
  have n1:nameB c=false:=by simp [nameB,hc]
  have n2:dz c=false:=by simp [dz,hc]
  have hl:sU ((r++c::b).dropWhile dz)=sU (r.dropWhile dz):=by
   rw [oy dz c b n2 r]
   cases r.dropWhile dz with
   | nil=>rw [Yb,sU,sU,hc];rfl
   | cons y z=>rfl
  have he:eqq (r++c::b)=eqq r:=by
   cases r with
   | nil=>
    rw [Yb,eqq,eqq];exact decide_eq_false (fun h=>by have:c=61:=ZO.1 h;subst this;revert hc;decide)
   | cons y z=>rfl
  rw [Xv,bz,bz,iM nameB c b n1,iM dz c b n2,hl,he]
theorem vR (c:UInt8) (hc:cls c=4) (b:List UInt8):∀(n:Nat) (a:List UInt8) (p:Int),a.length<=n->fy (a++c::b) p=(fy a p).bind fun l=>(fy b (p+a.length+1)).map (l++·)
 | n,[],p,_=>by
  rw [Yb,jW c b p hc,zo];simp
 | 0,_::_,_,h=>by simp at h
 | n+1,x::r,p,h=>by
  simp only [Xt] at h;by_cases hx:cls x=4
  ·rw [Xv,jW x _ p hx,jW x r p hx,vR c hc b n r (p+1) (by omega)]
   rw [show p+1+(r.length:Int)+1=p+((x::r).length:Nat)+1 by simp;omega]
  ·have ht:=Ie c hc b (x::r) (by simp)
   cases hk:bz (x::r) with
   | none=>
    rw [hk] at ht;rw [oW x r p hx hk];exact oW x (r++c::b) p hx ht
   | some q=>
    obtain ⟨k,m,v⟩:=q;rw [hk] at ht;have hm:=fW hk;simp only [Xt] at hm;rw [rB x r p hx hk];have e1:((x::r)++c::b).drop m=((x::r).drop m)++c::b:=Zt (by simp;omega);have e2:((x::r)++c::b).take m=(x::r).take m:=Zp (by simp;omega);have:=rB x (r++c::b) p hx (by rw [<- Xv];exact ht);rw [Xv,this,<- Xv,e1,e2,vR c hc b n ((x::r).drop m) (p+m) (by simp;omega)];rw [show p+(m:Int)+(((x::r).drop m).length:Nat)+1=p+((x::r).length:Nat)+1 by simp;omega]
    cases fy ((x::r).drop m) (p+m) with
    | none=>rfl
    | some l=>
     simp only [YT,Zi,Option.map_map];rfl
inductive Placed (s:List UInt8):Nat->List Tok->Prop
 | nil {a:Nat} (h:∀(k:Nat) (hk:k<s.length),a<=k->cls s[k]=4):Placed s a []
 | cons {a p n:Nat} {k:Int} {v:Int} {l:List Tok} (h1:a<=p) (h2:∀(k:Nat) (hk:k<s.length),a<=k->k<p->cls s[k]=4) (h3:bz (s.drop p)=some (k,n,v)) (h4:Placed s (p+n) l):Placed s a (⟨k,(s.drop p).take n,v,p⟩::l)
theorem Placed.blank {s:List UInt8} {a:Nat} {l:List Tok} (h:Placed s (a+1) l) (ha:a<s.length) (hb:cls s[a]=4):Placed s a l:=by
 have key:∀(k:Nat) (hk:k<s.length),a<=k->(a+1<=k->cls s[k]=4)->cls s[k]=4:=by
  intro k hk h1 h2;by_cases e:k=a
  ·subst e;exact hb
  ·exact h2 (by omega)
 cases h with
 | nil h=>exact .nil (fun k hk h1=>key k hk h1 (h k hk))
 | cons h1 h2 h3 h4=>exact .cons (by omega) (fun k hk q1 q2=>key k hk q1 (fun q=>h2 k hk q q2)) h3 h4
theorem Placed.len {s:List UInt8} {a:Nat} {l:List Tok} (h:Placed s a l):l.length<=s.length - a/\(l.map fun t=>t.text.length+1).sum<=2 * (s.length - a):=by
 induction h with
 | nil h=>simp
 | @cons a p n k v l h1 h2 h3 h4 ih=>
  have:=(fW h3).2;have:=(fW h3).1;simp at *;omega
end Uw.Tryz
namespace Uw.Tryz
open Go Uw
theorem om.cut {l1 r1:List Tok} {ds1:List Dec} (h1:om l1 ds1 r1):∀{r2 r3:List Tok} {ds:List Dec},om (l1++r2) ds r3->(r1=[]->∃ds2,ds=ds1++ds2/\om r2 ds2 r3)/\(r1≠[]->ds=ds1/\r3=r1++r2):=by
 induction h1 with
 | stop h=>
  rename_i r;intro r2 r3 ds h2;refine ⟨fun e=>⟨ds,rfl,by subst e;exact h2⟩,fun hne=>?_⟩;have hf:hd r=iu:=h.resolve_left hne;have hf2:hd (r++r2)=iu:=by rw [<- hf,pY r r2 [] hne,X4]
  cases h2 with
  | stop _=>exact ⟨rfl,rfl⟩
  | cons hh _ _=>exact absurd (.inr hf2) hh
 | cons h hd' _ ih=>
  rename_i r r' r'' d ds1 _;intro r2 r3 ds h2;obtain ⟨c,e⟩:=zu.pre _ _ _ hd';have hp:lr (r++r2) = .ok d (r'++r2):=by
   rw [e] at hd' ⊢;rw [XH];exact F3 hd' _
  have hne:r≠[]:=fun e=>h (.inl e);have hnf:¬hd r=iu:=fun e=>h (.inr e)
  cases h2 with
  | stop hh=>
   rcases hh with hh|hh
   ·exact absurd (ZN.1 hh).1 hne
   ·rw [pY r r2 [] hne,X4] at hh;exact absurd hh hnf
  | cons hh h3 h4=>
   rw [hp] at h3;injection h3 with e1 e2
   subst e1 e2;obtain ⟨g1,g2⟩:=ih h4;refine ⟨fun e=>?_,fun e=>?_⟩
   ·obtain ⟨ds2,h5,h6⟩:=g1 e
    exact ⟨ds2,by rw [h5];rfl,h6⟩
   ·obtain ⟨h5,h6⟩:=g2 e
    exact ⟨by rw [h5],h6⟩
theorem Jo {r r' : List Tok} {f:Fn} (h:Reads kY r f r') (r2:List Tok):Reads kY (r++r2) f (r'++r2):=by
 obtain ⟨n,h⟩:=h;obtain ⟨c,e⟩:=(DU n).pre _ _ _ h;refine ⟨n,?_⟩;rw [e] at h ⊢;rw [XH];exact PI h _
theorem o6.cut {l1:List Tok} {fs1:List Fn} (h1:o6 l1 fs1):∀{r2:List Tok} {fs:List Fn},o6 (l1++r2) fs->∃fs2,fs=fs1++fs2/\o6 r2 fs2:=by
 induction h1 with
 | nil=>exact fun h=>⟨_,rfl,h⟩
 | cons h _ ih=>
  rename_i r r' f fs1 _;intro r2 fs h2;have h3:=Jo h r2;have hne:r≠[]:=by
   rintro rfl;obtain ⟨n,h⟩:=h;have:=vo n _ _ _ h;simp at this
  generalize hl:r++r2=l at h2 h3
  cases h2 with
  | nil=>exact absurd (ZN.1 hl).1 hne
  | cons h4 h5=>
   obtain ⟨e1,e2⟩:=Reads.det DU h3 h4;subst e1 e2;obtain ⟨fs2,h6,h7⟩:=ih h5;exact ⟨fs2,by rw [h6];rfl,h7⟩
theorem PV {t:Tok} {f:Fn} {r:List Tok} (h:Reads kY [t] f r):False:=by
 obtain ⟨n,h⟩:=h;rw [kY] at h;obtain ⟨_,r1,h1,h⟩:=bind_ok.1 h;obtain ⟨_,rfl⟩:=hQ h1;obtain ⟨s,r2,h2,h⟩:=bind_ok.1 h
 cases h2
theorem Nj {t:Tok} {d:Dec} {r:List Tok} (h:lr [t] = .ok d r):False:=by
 rw [o5] at h;obtain ⟨t',r1,h1,h⟩:=bind_ok.1 h;obtain ⟨q,e1,rfl,hk⟩:=nB h1;injection e1 with _ e1
 subst e1;have h:jN t'.text [] = .ok d r:=h;unfold jN at h
 cases hk:kindOf t'.text with
 | none=>rw [hk] at h;cases h
 | some k=>
  rw [hk] at h;obtain ⟨s,r2,h2,h⟩:=bind_ok.1 h
  cases h2
theorem Gu {t:Tok} {fs:List Fn} (h:o6 [t] fs):False:=by
 cases h with
 | cons h _=>exact PV h
theorem Prg.cut {l1 r2:List Tok} {ds1 ds:List Dec} {fs1 fs:List Fn} (h1:Prg l1 ds1 fs1) (h:Prg (l1++r2) ds fs):(∃ds2 fs2,ds=ds1++ds2/\fs=fs1++fs2)/\r2.length≠1:=by
 obtain ⟨q1,a1,b1⟩:=h1;obtain ⟨q,a,b⟩:=h;obtain ⟨g1,g2⟩:=a1.cut a;by_cases hq:q1=[]
 ·obtain ⟨ds2,e1,h2⟩:=g1 hq
  subst hq;have hfs:fs1=[]:=by
   cases b1 with
   | nil=>rfl
   | cons h _=>
    obtain ⟨n,h⟩:=h;have:=vo n _ _ _ h;simp at this
  subst hfs;refine ⟨⟨ds2,fs,e1,rfl⟩,fun hl=>?_⟩;obtain ⟨t,rfl⟩:=ZM.1 hl
  cases h2 with
  | stop _=>exact Gu b
  | cons _ h3 _=>exact Nj h3
 ·obtain ⟨e1,e2⟩:=g2 hq
  subst e1 e2;obtain ⟨fs2,e3,h3⟩:=b1.cut b;refine ⟨⟨[],fs2,by simp,e3⟩,fun hl=>?_⟩;obtain ⟨t,rfl⟩:=ZM.1 hl;exact Gu h3
theorem om.app {l1 r1:List Tok} {ds:List Dec} (h:om l1 ds r1) (r2:List Tok) (h2:r2=[]\/hd r2=iu):om (l1++r2) ds (r1++r2):=by
 induction h with
 | stop h=>
  rename_i r;refine .stop ?_;by_cases hr:r=[]
  ·subst hr;exact h2
  ·rw [pY r r2 [] hr,X4];exact .inr (h.resolve_left hr)
 | cons h hd' _ ih=>
  rename_i r r' r'' d ds1 _;obtain ⟨c,e⟩:=zu.pre _ _ _ hd';have hp:lr (r++r2) = .ok d (r'++r2):=by
   rw [e] at hd' ⊢;rw [XH];exact F3 hd' _
  have hne:r≠[]:=fun e=>h (.inl e);refine .cons ?_ hp ih;rintro (hh|hh)
  ·exact hne (ZN.1 hh).1
  ·rw [pY r r2 [] hne,X4] at hh;exact h (.inr hh)
theorem o6.app {l1:List Tok} {fs1:List Fn} (h:o6 l1 fs1) {l2:List Tok} {fs2:List Fn} (h2:o6 l2 fs2):o6 (l1++l2) (fs1++fs2):=by
 induction h with
 | nil=>exact h2
 | cons h _ ih=>exact .cons (Jo h l2) ih
theorem Prg.app {l1 l2:List Tok} {ds1:List Dec} {fs1 fs2:List Fn} (h1:Prg l1 ds1 fs1) (h2:Prg l2 [] fs2):Prg (l1++l2) ds1 (fs1++fs2):=by
 obtain ⟨q1,a1,b1⟩:=h1;obtain ⟨q2,a2,b2⟩:=h2
 cases a2 with
 | stop h=>exact ⟨_,a1.app l2 h,b1.app b2⟩
end Uw.Tryz
namespace Uw.Tryz
open Go Uw
def Gv (k:Int):Int:=if 1<=k/\k<=8 then 1 else if 9<=k/\k<=17 then 2 else if k=18 then 3 else 0
def j8 (ns:List Nd) (i:Int):Int:=(ns.getD i.toNat default).kind
def dw (ns:List Nd) (x:Nd):List Int:=x.of.map fun k=>Gv (j8 ns k)
def nT (k n:Int) (so:List Int) (k0:Int):Bool:=
 if k=1 then decide (so=[])&&decide (0<=n)&&decide (n<4294967296)
 else if k=2\/k=12 then decide (so=[])
 else if k=3\/k=4\/k=5\/k=6\/k=7\/k=11 then decide (so=[1,1])
 else if k=8\/k=10 then so.all fun s=>decide (s=1)
 else if k=9\/k=15\/k=16 then decide (so=[1])
 else if k=17 then decide (so=[1])&&decide (k0=8)
 else if k=13 then decide (so=[1,3])||decide (so=[1,3,3])
 else if k=14 then decide (so=[1,3])
 else if k=18 then so.all fun s=>decide (s=2)
 else false
def eR (ns:List Nd) (x:Nd):Bool:=nT x.kind x.n (dw ns x) (j8 ns (x.of.headD 0))
def rU (ns:List Nd) (i:Nat) (x:Nd):Bool:=(x.of.all fun k=>decide (0<=k)&&decide (k<i))&&eR ns x
def jC (ns:List Nd):Nat->List Nd->Bool
 | _,[]=>true
 | i,x::r=>rU ns i x&&jC ns (i+1) r
def mV (ns:List Nd) (f:Fu):Bool:=decide (0<=f.body)&&decide (f.body<ns.length)&&decide (j8 ns f.body=18)
def iN (p:Pg):List Int:=(p.nodes.flatMap (·.of))++p.ag.map (·.body)
def bC (p:Pg):Bool:=jC p.nodes 0 p.nodes&&p.ag.all (mV p.nodes)&&(List.range p.nodes.length).all fun k=>decide ((iN p).count (k:Int)=1)
def bk (p:Pg) (s:Str):Option Int:=(p.decls.find? fun d=>decide (d.name=s)).map (·.kind)
def db (p:Pg) (s:Str):Option Nat:=p.ag.findIdx? fun f=>decide (f.name=s)
def rV:List Fu->Nat->List Int->List Int
 | [],_,o=>o
 | f::fs,i,o=>rV fs (i+1) (o.set f.body.toNat i)
def il (o:List Int) (i:Nat) (x:Nd):List Int:=x.of.foldl (fun o k=>o.set k.toNat (o.getD i 0)) o
def fN:List (Nat×Nd)->List Int->List Int
 | [],o=>o
 | (i,x)::r,o=>fN r (il o i x)
def idx {α:Type}:Nat->List α->List (Nat×α)
 | _,[]=>[]
 | i,x::r=>(i,x)::idx (i+1) r
def aJ (p:Pg):List Int:=fN (idx 0 p.nodes).reverse (rV p.ag 0 (List.replicate p.nodes.length 0))
def eX (p:Pg) (x:Nd):Bool:=(decide (x.kind=9)||decide (x.kind=10)||decide (x.kind=11))&&!decide (x.name=[])&&(bk p x.name).isNone
def addLocal (ls:List (List Str)) (f:Nat) (s:Str):List (List Str):=if s∈ls.getD f [] then ls else ls.set f (ls.getD f []++[s])
def dZ (p:Pg):List (Nd×Int)->List (List Str)->List (List Str)
 | [],ls=>ls
 | (x,o)::r,ls=>dZ p r (if eX p x then addLocal ls o.toNat x.name else ls)
def ak (p:Pg):List (List Str):=dZ p (p.nodes.zip (aJ p)) (p.ag.map (·.args))
def iO (p:Pg) (f:Int):List Str:=if f<0\/(p.ag.length:Int)<=f\/bC p=false then [] else (ak p).getD f.toNat []
def Nk:Str:=[103,101,116]
def Nl:Str:=[100,101,108]
def Nn:Str:=[112,117,116]
def Gw:Str:=[112,117,115,104]
def Np:Str:=[112,111,112]
def Gx:Str:=[115,101,110,100]
def Gy:Str:=[114,101,99,118]
def fU:Str:=[109,97,105,110]
def fr (k:Int) (s:Str):Option Int:=
 if k=1 then (if s=Nk\/s=Nl then some 1 else if s=Nn then some 2 else none)
 else if k=2 then (if s=Gw then some 1 else if s=Np then some 0 else none)
 else if k=3 then (if s=Gx then some 1 else if s=Gy then some 0 else none)
 else none
def gg (p:Pg):Bool:=
 decide (16<p.ag.length)||decide (16<(p.decls.countP fun d=>decide (d.kind=0)))||decide (8<(p.decls.countP fun d=>decide (d.kind=1)))||decide (8<(p.decls.countP fun d=>decide (d.kind=2)))||decide (8<(p.decls.countP fun d=>decide (d.kind=3)))
 ||((ak p).any fun l=>decide (16<l.length))||(p.nodes.any fun x=>decide (x.kind=10)&&decide (16<x.of.length))
def rW (p:Pg):List Str->List Str->Bool
 | _,[]=>false
 | seen,a::r=>(bk p a).isSome||decide (a∈seen)||rW p (a::seen) r
def iG (p:Pg):Bool:=!decide ((p.decls.map (·.name)).Nodup)||!decide ((p.ag.map (·.name)).Nodup)||(p.ag.any fun f=>rW p [] f.args)
def nU (p:Pg) (x:Nd) (o:Int):Bool:=
 if x.kind=10\/x.kind=11 then (db p x.name2).isNone
 else if x.kind=8 then (bk p x.name).isNone
 else if x.kind=2 then (bk p x.name).isNone&&!decide (x.name∈(ak p).getD o.toNat [])
 else false
def nameP (p:Pg):Bool:=(db p fU).isNone||((p.nodes.zip (aJ p)).any fun y=>nU p y.1 y.2)||(p.decls.any fun d=>decide (d.kind<0)||decide (3<d.kind))
def mW (p:Pg) (x:Nd):Bool:=
 if x.kind=2\/x.kind=9 then (match bk p x.name with|some k=>!decide (k=0)|none=>false)
 else if x.kind=10\/x.kind=11 then (bk p x.name).isSome
 else if x.kind=8 then (fr ((bk p x.name).getD 0) x.name2).isNone
 else false
def pu (p:Pg):Bool:=p.nodes.any (mW p)
def argsAt (p:Pg) (s:Str):Nat:=(p.ag.getD ((db p s).getD 0) default).args.length
def manyN (p:Pg) (x:Nd):Bool:=
 if x.kind=10 then !decide (x.of.length=argsAt p x.name2)
 else if x.kind=11 then !decide (argsAt p x.name2=1)
 else if x.kind=8 then !decide ((x.of.length:Int)=(fr ((bk p x.name).getD 0) x.name2).getD 0)
 else false
def lG (p:Pg):Bool:=decide (0<argsAt p fU)||p.nodes.any (manyN p)
def mX (p:Pg):Int:=if bC p=false then 1 else if gg p then 2 else if iG p then 5 else if nameP p then 4 else if pu p then 6 else if lG p then 7 else 0
end Uw.Tryz
namespace Uw.Tryz
open Go Uw
theorem Ed (k:Int):Ret P0 vL [I k] (I (Gv k)):=by
 refine bf Bh rfl ?_
 repeat' first|refine aw ?_|refine bw (fun _=>?_) fun _=>?_
 all_goals refine aC rfl rfl rfl rfl ?_
 all_goals simp only [jM,Gv]
 all_goals first|(rw [if_pos (by omega)];done)|(rw [if_neg (by omega),if_pos (by omega)];done)|(rw [if_neg (by omega),if_neg (by omega),if_pos (by omega)];done)|(rw [if_neg (by omega),if_neg (by omega),if_neg (by omega)];done)
theorem Ee {a b:List Int} {j:Nat} (ha:j<a.length) (hb:j<b.length) (h:a.take j=b.take j):a.take (j+1)=b.take (j+1)<->a[j]=b[j]:=by
 rw [Xq ha,Xq hb,h];constructor
 ·intro e;simpa using List.append_cancel_left e
 ·intro e;rw [e]
theorem vS (a b:List Int) (hs:a.length<1000000) (z z' : Bool):Ret P0 mO [.slice 1 (a.map fun i=>[I i]) z,.slice 1 (b.map fun i=>[I i]) z'] (.bool (decide (a=b))):=by
 have ha:(a.map fun i=>[I i]).length=a.length:=by simp
 have hb:(b.map fun i=>[I i]).length=b.length:=by simp
 by_cases hl:a.length=b.length
 rotate_left
 ·have:a≠b:=fun e=>hl (e ▸ rfl)
  rw [decide_eq_false this];refine bf dS rfl ?_
  repeat refine aw ?_
  exact aC rfl rfl rfl rfl rfl
 have hend:a.take a.length=b.take a.length->a=b:=fun e=>by rw [XE,hl,XE] at e;exact e
 have hbad:∀(j:Nat) (h1:j<a.length) (h2:j<b.length),¬a[j]=b[j]->decide (a=b)=false:=fun j h1 h2 h=>decide_eq_false fun e=>h (by subst e;rfl);refine bf dS rfl ?_
 repeat refine aw ?_
 refine dK (fun j:Nat=>⟨[(13,.d (I j)),(12,.d (I (↑(List.map (fun i=>[I i]) a).length))),(0,.d (Dat.slice 1 (List.map (fun i=>[I i]) a) z)),(1,.d (Dat.slice 1 (List.map (fun i=>[I i]) b) z'))],[],0,[],0⟩)
  (fun j=>j<=a.length/\a.take j=b.take j) (fun j=>a.length - j) 0 (by exact Uw.wW) ⟨by omega,rfl⟩ ?_
 rintro j ⟨h1,h2⟩;refine I4 (fun h3=>?_) (fun h3=>?_)
 ·have h4:j<b.length:=by omega
  have h6:=(Ee h3 h4 h2).2;have h7:=hbad j h3 h4;have e1:(a.map fun i=>[I i])[(j:Int).toNat]? = some [I a[j]]:=by simp [h3]
  have e2:(b.map fun i=>[I i])[(j:Int).toNat]? = some [I b[j]]:=by simp [h4]
  generalize a[j]=x at *;generalize b[j]=y at *;by_cases h5:x=y
  ·have h6:=h6 h5
   repeat refine aw ?_
   exact cM (j+1) ⟨by omega,h6⟩ (by omega) (by exact Uw.wW)
  ·rw [h7 h5]
   repeat refine aw ?_
   exact bK (aC rfl rfl rfl rfl rfl)
 ·rw [decide_eq_true (hend (by rw [<- show j=a.length by omega];exact h2))]
  repeat refine aw ?_
  refine aH ?_
  repeat refine aw ?_
  exact aC rfl rfl rfl rfl rfl
def Row1 (x:Dat) (a:List Int):Prop:=(x = .nil/\a=[])\/∃z,x = .slice 1 (a.map fun i=>[I i]) z
theorem zP (x y:Dat) (a b:List Int) (hs:a.length<1000000) (hx:Row1 x a) (hy:Row1 y b):Ret P0 mO [x,y] (.bool (decide (a=b))):=by
 rcases hx with ⟨rfl,rfl⟩|⟨z,rfl⟩<;>rcases hy with ⟨rfl,rfl⟩|⟨z',rfl⟩
 ·rw [decide_eq_true rfl]
  refine bf dS rfl ?_
  repeat refine aw ?_
  refine dK (fun j:Nat=>⟨[(13,.d (I 0)),(12,.d (I 0)),(0,.d .nil),(1,.d .nil)],[],0,[],0⟩) (fun j=>j=0) (fun j=>0) 0 (by exact Uw.wW) rfl ?_;rintro j rfl
  repeat refine aw ?_
  refine aH ?_
  repeat refine aw ?_
  exact aC rfl rfl rfl rfl rfl
 ·cases b with
  | nil=>
   rw [decide_eq_true rfl];refine bf dS rfl ?_
   repeat refine aw ?_
   refine dK (fun j:Nat=>⟨[(13,.d (I 0)),(12,.d (I 0)),(0,.d .nil),(1,.d (.slice 1 [] z'))],[],0,[],0⟩) (fun j=>j=0) (fun j=>0) 0 (by exact Uw.wW) rfl ?_;rintro j rfl
   repeat refine aw ?_
   refine aH ?_
   repeat refine aw ?_
   exact aC rfl rfl rfl rfl rfl
  | cons c b=>
   rw [decide_eq_false (by simp)];have hb:((c::b).map fun i=>[I i]).length=b.length+1:=by simp
   generalize (c::b).map (fun i=>[I i])=B at *;refine bf dS rfl ?_
   repeat refine aw ?_
   exact aC rfl rfl rfl rfl rfl
 ·cases a with
  | nil=>
   rw [decide_eq_true rfl];refine bf dS rfl ?_
   repeat refine aw ?_
   refine dK (fun j:Nat=>⟨[(13,.d (I 0)),(12,.d (I 0)),(0,.d (.slice 1 [] z)),(1,.d .nil)],[],0,[],0⟩) (fun j=>j=0) (fun j=>0) 0 (by exact Uw.wW) rfl ?_;rintro j rfl
   repeat refine aw ?_
   refine aH ?_
   repeat refine aw ?_
   exact aC rfl rfl rfl rfl rfl
  | cons c b=>
   rw [decide_eq_false (by simp)];have hb:((c::b).map fun i=>[I i]).length=b.length+1:=by simp
   generalize (c::b).map (fun i=>[I i])=B at *;refine bf dS rfl ?_
   repeat refine aw ?_
   exact aC rfl rfl rfl rfl rfl
 ·exact vS a b hs z z'
def ofB (a:List Int):List Blk:=[.var [.ref 1 0 0 a.length],.arr 1 (a.map fun i=>[I i])]
theorem Gz (x:Dat) (a b:List Int) (hs:a.length<1000000) (hx:Row1 x b):bh P0 j6 [.d x,.ptr 0 0] (ofB a) (.d (.bool (decide (a=b)))) (ofB a):=by
 have h1:=zP (.slice 1 (a.map fun i=>[I i]) false) x a b hs (.inr ⟨_,rfl⟩) hx;have ha:(List.drop 0 (a.map fun i=>[I i])).take a.length=a.map fun i=>[I i]:=by rw [XX];exact XB (by simp)
 rw [<- ha] at h1;refine aF vM rfl ?_
 repeat refine aw ?_
 exact aE 2 rfl rfl (by exact Uw.wW)
theorem GF (s:Int) (a:List Int) (hs:a.length<1000000):bh P0 j7 [.d (I s),.ptr 0 0] (ofB a) (.d (.bool (a.all fun x=>decide (x=s)))) (ofB a):=by
 have ha:(a.map fun i=>[I i]).length=a.length:=by simp
 have hget:∀(j:Nat) (h:j<a.length),(a.map fun i=>[I i])[0+(j:Int).toNat]? = some [I a[j]]:=by intro j h;simp [h]
 have hall:(∀x∈a.take a.length,x=s)->(a.all fun x=>decide (x=s))=true:=by
  intro h;rw [XE] at h;simpa using h
 have hnot:∀(j:Nat) (h:j<a.length),¬a[j]=s->(a.all fun x=>decide (x=s))=false:=by
  intro j h hn;rw [Zm];intro he;exact hn (by simpa using XL.1 he a[j] (XF h))
 have hsucc:∀(j:Nat) (h:j<a.length),(∀x∈a.take j,x=s)->a[j]=s->∀x∈a.take (j+1),x=s:=by
  intro j h h1 h2 x hx;rw [Xq h] at hx
  rcases XG.1 hx with hx|hx
  ·exact h1 x hx
  ·simp at hx;rw [hx];exact h2
 generalize (a.all fun x=>decide (x=s))=R at *;refine aF vN rfl ?_
 repeat refine aw ?_
 refine dr qe rfl ?_
 repeat refine aw ?_
 refine dr tg rfl ?_
 repeat refine aw ?_
 refine dK (fun j:Nat=>⟨[(8,.d (I j)),(7,.d (I ↑a.length)),(0,.ref 1 0 0 a.length),(1,V.func mP [] [V.ptr 2 0])],[(2,.var [.d (I s)]),(1,.arr 1 (List.map (fun i=>[I i]) a)),(0,.var [.ref 1 0 0 a.length])],3,[],3⟩)
  (fun j=>j<=a.length/\∀x∈a.take j,x=s) (fun j=>a.length - j) 0 (by exact Uw.wW) ⟨by omega,by simp⟩ ?_
 rintro j ⟨h1,h2⟩;by_cases h3:j<a.length
 ·have e1:=hget j h3
  have h4:=hnot j h3;have h5:=hsucc j h3 h2;generalize a[j]=x at *;by_cases h6:x=s
  ·have h7:=h5 h6
   repeat refine aw ?_
   refine dr lB rfl ?_
   repeat refine aw ?_
   refine dJ rfl rfl ?_
   repeat refine aw ?_
   exact cM (j+1) ⟨by omega,h7⟩ (by omega) (by exact Uw.wW)
  ·have h8:R=(!decide ((0:Int)<=(j:Int))):=by rw [h4 h6];simp
   rw [h8]
   repeat refine aw ?_
   refine dr lB rfl ?_
   repeat refine aw ?_
   refine dJ rfl rfl ?_
   repeat refine aw ?_
   refine bK (dJ rfl rfl ?_)
   repeat refine aw ?_
   refine dJ rfl rfl ?_
   repeat refine aw ?_
   exact aE 2 rfl rfl (by exact Uw.wW)
 ·rw [hall (by rw [<- show j=a.length by omega];exact h2)]
  repeat refine aw ?_
  refine aH ?_
  repeat refine aw ?_
  refine dJ rfl rfl ?_
  repeat refine aw ?_
  refine dJ rfl rfl ?_
  repeat refine aw ?_
  exact aE 2 rfl rfl (by exact Uw.wW)
end Uw.Tryz
namespace Uw.Tryz
open Go Uw
def bY (ns:List Nd):Dat:=.slice 5 (ns.map ndL) false
theorem fC (ns:List Nd) (x:Nd):(dw ns x).length=x.of.length:=by simp [dw]
theorem KH (ns:List Nd) (x:Nd) (hk:∀k∈x.of,0<=k/\k<ns.length):∃A:Nat->List (List Dat),A 0=[]/\
  (∀(j:Nat) (h:j<x.of.length),∃(k:Int) (y:Nd),(x.of.map fun i=>[I i])[(j:Int).toNat]? = some [I k]/\0<=k/\k<ns.length/\(ns.map ndL)[k.toNat]? = some (ndL y)/\A j++[[I (Gv y.kind)]]=A (j+1)/\(A j).length=j)/\
  A x.of.length=(dw ns x).map fun i=>[I i]:=by
 refine ⟨fun j=>((dw ns x).take j).map fun i=>[I i],rfl,fun j h=>?_,by dsimp only;rw [<- fC ns x,XE]⟩;obtain ⟨h1,h2⟩:=hk x.of[j] (XF h);have h3:x.of[j].toNat<ns.length:=by omega
 refine ⟨x.of[j],ns[x.of[j].toNat],by simp [h],h1,h2,by simp [h3],?_,by simp [fC];omega⟩;have h4:j<(dw ns x).length:=by rw [fC];exact h
 dsimp only;rw [Xq h4,Yc];simp [dw,j8,List.getD,h3]
theorem zQ (ns:List Nd) (x:Nd) (hk:∀k∈x.of,0<=k/\k<ns.length) (hl:x.of.length<1000000):Ret P0 mN [bY ns,.agg (ndL x)] (.bool (eR ns x)):=by
 have hoE:cG x.of = .slice 1 (x.of.map fun i=>[I i]) false:=rfl;have ho:(x.of.map fun i=>[I i]).length=x.of.length:=by simp
 have hnl:(ns.map ndL).length=ns.length:=by simp
 obtain ⟨A,hA0,hA1,hA2⟩:=KH ns x hk;have GG:∀(d:Dat) (b:List Int),Row1 d b->bh P0 j6 [.d d,.ptr 0 0] [.var [.ref 1 0 0 x.of.length],.arr 1 (A x.of.length)] (.d (.bool (decide (dw ns x=b)))) [.var [.ref 1 0 0 x.of.length],.arr 1 (A x.of.length)]:=by
  intro d b h;have:=Gz d (dw ns x) b (by rw [fC];exact hl) h;rw [ofB,fC,<- hA2] at this;exact this
 have hall:∀(s:Int),bh P0 j7 [.d (I s),.ptr 0 0] [.var [.ref 1 0 0 x.of.length],.arr 1 (A x.of.length)] (.d (.bool ((dw ns x).all fun x=>decide (x=s)))) [.var [.ref 1 0 0 x.of.length],.arr 1 (A x.of.length)]:=by
  intro s;have:=GF s (dw ns x) (by rw [fC];exact hl);rw [ofB,fC,<- hA2] at this;exact this
 have hsort:=Ed;have hR:eR ns x=nT x.kind x.n (dw ns x) (j8 ns (x.of.headD 0)):=rfl;rw [hR];have h17:dw ns x=[1]->∃(k:Int) (y:Nd),(x.of.map fun i=>[I i])[(0:Int).toNat]? = some [I k]/\0<=k/\k<ns.length/\0<x.of.length/\(ns.map ndL)[k.toNat]? = some (ndL y)/\j8 ns (x.of.headD 0)=y.kind:=by
  intro h;have hlen:=fC ns x;rw [h] at hlen
  cases hof:x.of with
  | nil=>rw [hof] at hlen;cases hlen
  | cons k r=>
   obtain ⟨h1,h2⟩:=hk k (by rw [hof];simp);have h3:k.toNat<ns.length:=by omega
   exact ⟨k,ns[k.toNat],rfl,h1,h2,by simp,by simp [h3],by simp [j8,List.getD,h3]⟩
 have h17:∃(k:Int) (y:Nd),dw ns x=[1]->((x.of.map fun i=>[I i])[(0:Int).toNat]? = some [I k]/\0<=k/\k<ns.length/\0<x.of.length/\(ns.map ndL)[k.toNat]? = some (ndL y)/\j8 ns (x.of.headD 0)=y.kind):=by
  by_cases h:dw ns x=[1]
  ·obtain ⟨k,y,h⟩:=h17 h
   exact ⟨k,y,fun _=>h⟩
  ·exact ⟨0,default,fun e=>absurd e h⟩
 obtain ⟨k7,y7,h17⟩:=h17;generalize dw ns x=so at *;generalize j8 ns (x.of.headD 0)=k0 at *;obtain ⟨kind,n,name,name2,of⟩:=x;simp only at *;clear hk hR hA2;show Ret P0 mN [bY ns,.agg [I kind,I n,.str name,.str name2,.slice 1 (of.map fun i=>[I i]) false]] _;clear hoE;generalize of.length=L at *;generalize (of.map fun i=>[I i])=O at *;refine bf yi rfl ?_
 repeat refine aw ?_
 refine dK (fun j:Nat=>⟨[(13,.d (I j)),(12,.d (I (O.length))),(11,.d (.slice 1 O false)),(5,.ptr 1 0),(3,.ptr 0 0),(0,.d (bY ns))],[(2,.arr 1 (A j)),(1,.var [.ref 2 0 0 j]),(0,.var [.d (I kind),.d (I n),.d (.str name),.d (.str name2),.d (.slice 1 O false)])],3,[],0⟩)
  (fun j=>j<=L) (fun j=>L - j) 0 (by rw [hA0];exact Uw.wW) (by omega) ?_
 intro j hj;by_cases h1:j<L
 ·obtain ⟨k,y,e1,h2,h3,e2,e3,e4⟩:=hA1 j h1
  have hs:=hsort y.kind;have h8:(decide (j=(A j).length)&&decide ((j+((List.replicate 1 [Dat.int IntKind.i64 0]).set 0 [I (Gv y.kind)]).length) * 8<=70368744177664))=true:=by simp [e4];omega
  repeat refine aw ?_
  exact cM (j+1) (by omega) (by omega) (by exact Uw.wW)
 ·obtain rfl:j=L:=by omega
  repeat refine aw ?_
  refine aH ?_
  repeat' first|refine aw ?_|refine bw (fun _=>?_) fun _=>?_
  ·rename_i h
   refine ae 3 [1,2] (GG .nil [] (.inl ⟨rfl,rfl⟩)) ?_;subst h
   repeat' first|refine aw ?_|refine bw (fun _=>?_) fun _=>?_
   all_goals refine aC rfl rfl rfl rfl ?_
   all_goals first|(simp_all [nT,jM];done)|(simp_all [nT,jM];omega)
  iterate 2
   ·rename_i h
    refine ae 3 [1,2] (GG .nil [] (.inl ⟨rfl,rfl⟩)) ?_
    repeat refine aw ?_
    refine aC rfl rfl rfl rfl ?_;subst h;rfl
  iterate 6
   ·rename_i h
    refine ae 3 [1,2] (GG _ [1,1] (.inr ⟨true,rfl⟩)) ?_
    repeat refine aw ?_
    refine aC rfl rfl rfl rfl ?_;subst h;rfl
  iterate 2
   ·rename_i h
    refine ae 3 [1,2] (hall 1) ?_
    repeat refine aw ?_
    refine aC rfl rfl rfl rfl ?_;subst h;rfl
  iterate 3
   ·rename_i h
    refine ae 3 [1,2] (GG _ [1] (.inr ⟨true,rfl⟩)) ?_
    repeat refine aw ?_
    refine aC rfl rfl rfl rfl ?_;subst h;rfl
  ·rename_i h
   refine ae 3 [1,2] (GG _ [1] (.inr ⟨true,rfl⟩)) ?_;by_cases h5:so=[1]
   ·have e1:=(h17 h5).1
    have e2:=(h17 h5).2.1;have e3:=(h17 h5).2.2.1;have e4:=(h17 h5).2.2.2.1;have e5:=(h17 h5).2.2.2.2.1;have e6:=(h17 h5).2.2.2.2.2
    repeat refine aw ?_
    refine aC rfl rfl rfl rfl ?_;rw [h,h5,e6];rfl
   ·repeat refine aw ?_
    refine aC rfl rfl rfl rfl ?_;rw [h];show Dat.bool false=Dat.bool (decide (so=[1])&&_);rw [decide_eq_false h5];rfl
  ·rename_i h
   refine ae 3 [1,2] (GG _ [1,3] (.inr ⟨true,rfl⟩)) ?_;by_cases h5:so=[1,3]
   ·repeat refine aw ?_
    refine aC rfl rfl rfl rfl ?_;rw [h];show Dat.bool true=Dat.bool (decide (so=[1,3])||_);rw [decide_eq_true h5];rfl
   ·repeat refine aw ?_
    refine ae 3 [1,2] (GG _ [1,3,3] (.inr ⟨true,rfl⟩)) ?_
    repeat refine aw ?_
    refine aC rfl rfl rfl rfl ?_;rw [h];show Dat.bool (decide (so=[1,3,3]))=Dat.bool (decide (so=[1,3])||_);rw [decide_eq_false h5];rfl
  ·rename_i h
   refine ae 3 [1,2] (GG _ [1,3] (.inr ⟨true,rfl⟩)) ?_
   repeat refine aw ?_
   refine aC rfl rfl rfl rfl ?_;subst h;rfl
  ·rename_i h
   refine ae 3 [1,2] (hall 2) ?_
   repeat refine aw ?_
   refine aC rfl rfl rfl rfl ?_;subst h;rfl
  ·refine aC rfl rfl rfl rfl ?_
   show Dat.bool false=_;rw [nT,if_neg (by omega),if_neg (by omega),if_neg (by omega),if_neg (by omega),if_neg (by omega),if_neg (by omega),if_neg (by omega),if_neg (by omega),if_neg (by omega)]
end Uw.Tryz
namespace Uw.Tryz
open Go Uw
structure Lim (p:Pg):Prop where
 nodes:p.nodes.length<100000
 ag:p.ag.length<100000
 decls:p.decls.length<100000
 of:∀x∈p.nodes,x.of.length<100000
 args:∀f∈p.ag,f.args.length<100000
def oz (L:List Int) (n:Nat):List Int:=(List.range n).map fun (k:Nat)=>((L.count (k:Int):Nat):Int)
theorem yG (L:List Int) (n:Nat):(oz L n).length=n:=by simp [oz]
theorem Ef (L:List Int) (n k:Nat) (h:k<n):(oz L n)[k]'(by rw [yG];exact h)=(L.count (k:Int):Nat):=by simp [oz]
theorem PW (L:List Int) (n:Nat) (k:Int) (h0:0<=k) (h:k<n):(oz L n).set k.toNat (((L.count k:Nat):Int)+1)=oz (L++[k]) n:=by
 have hk:k.toNat<n:=by omega
 have hkk:((k.toNat:Nat):Int)=k:=by omega
 apply ZJ
 ·simp [oz]
 ·intro i h1 h2
  have hi:i<n:=by rw [yG] at h2;exact h2
  rw [Ef _ _ _ hi,Yh];by_cases he:i=k.toNat
  ·subst he
   rw [List.getElem_set_self,hkk];simp
  ·rw [List.getElem_set_ne (Ne.symm he),Ef _ _ _ hi]
   have:¬k=(i:Int):=by omega
   simp [Ym,this]
theorem PX (n:Nat):oz [] n=List.replicate n 0:=by
 apply ZJ
 ·simp [oz]
 ·intro i h1 h2;simp [oz]
def fc (l:List Int):List (List Dat):=l.map fun i=>[I i]
theorem Nq {L:List Int} {n:Nat} {k:Int} (h0:0<=k) (h:k<n):(fc (oz L n))[k.toNat]? = some [I (L.count k:Nat)]:=by
 have hk:k.toNat<n:=by omega
 have hkk:((k.toNat:Nat):Int)=k:=by omega
 rw [fc,Yv,Xw (by rw [yG];exact hk),Ef _ _ _ hk,hkk];rfl
theorem PY {L:List Int} {n:Nat} {k:Int} (h0:0<=k) (h:k<n):(fc (oz L n)).set k.toNat [I (((L.count k:Nat):Int)+1)]=fc (oz (L++[k]) n):=by
 rw [<- PW L n k h0 h,fc,fc,Z1]
theorem PZ (L:List Int) (n:Nat):(fc (oz L n)).length=n:=by rw [fc,XJ,yG]
theorem Jp {l:List Nd} (h:∀x∈l,x.of.length<100000):(l.flatMap (·.of)).length<=l.length * 100000:=by
 induction l with
 | nil=>simp
 | cons x l ih=>
  have h1:=h x (by simp);have h2:=ih fun y hy=>h y (by simp [hy]);rw [Za,Xr,Xt,XU];omega
theorem Nr {p:Pg} (hp:Lim p):(iN p).length<100000000000:=by
 have h1:=Jp hp.of;have h2:=hp.nodes;have h3:=hp.ag;rw [iN,Xr,XJ];omega
def lh (ns:List Nd) (i:Nat):List Int:=(ns.take i).flatMap (·.of)
theorem GH {ns:List Nd} {i:Nat} (h:i<ns.length):lh ns (i+1)=lh ns i++ns[i].of:=by
 rw [lh,Xq h,List.flatMap_append];simp [lh]
theorem zR {ns:List Nd}:∀{l:List Nd} {b:Nat},jC ns b l=true<->∀(i:Nat) (h:i<l.length),rU ns (b+i) l[i]=true
 | [],b=>by simp [jC]
 | x::l,b=>by
  simp only [jC,Xo];rw [zR];constructor
  ·rintro ⟨h1,h2⟩ i hi
   cases i with
   | zero=>exact h1
   | succ i=>have:=h2 i (by simpa using hi);rw [show b+(i+1)=b+1+i by omega];exact this
  ·intro h
   refine ⟨h 0 (by simp),fun i hi=>?_⟩;have:=h (i+1) (by simpa using hi);rw [show b+1+i=b+(i+1) by omega];exact this
theorem Jq (U:List Int) (n:Nat) (k:Int) (h0:0<=k) (h:k<n):∃c:Int,(fc (oz U n))[0+k.toNat]? = some [I c]/\(fc (oz U n)).set (0+k.toNat) (setAt [I c] 0 [I (c+1)])=fc (oz (U++[k]) n)/\0<=c/\c<=U.length:=by
 refine ⟨(U.count k:Nat),by rw [Xy];exact Nq h0 h,by rw [Xy];exact PY h0 h,by omega,?_⟩;have:=List.count_le_length (a:=k) (l:=U);omega
theorem zS {p:Pg} (hp:Lim p) (i:Nat):(lh p.nodes i).length<10000000000:=by
 have h1:=Jp (l:=p.nodes.take i) fun x hx=>hp.of x (X9 hx);have h2:=hp.nodes;have h3:(p.nodes.take i).length<=p.nodes.length:=by simp;omega
 unfold lh;omega
structure GI (p:Pg) (R:Bool):Prop where
 kid:∀(i:Nat) (h:i<p.nodes.length) (k:Int),k∈p.nodes[i].of->¬(0<=k/\k<i)->R=false
 shape:∀(i:Nat) (h:i<p.nodes.length),eR p.nodes p.nodes[i]=false->R=false
 body:∀(i:Nat) (h:i<p.ag.length),mV p.nodes p.ag[i]=false->R=false
 time:∀(k:Nat),k<p.nodes.length->(iN p).count (k:Int)≠1->R=false
 all:(∀(i:Nat) (h:i<p.nodes.length),(∀k∈p.nodes[i].of,0<=k/\k<i)/\eR p.nodes p.nodes[i]=true)->(∀(i:Nat) (h:i<p.ag.length),mV p.nodes p.ag[i]=true)->(∀(k:Nat),k<p.nodes.length->(iN p).count (k:Int)=1)->R=true
theorem Eg (p:Pg):GI p (bC p):=by
 have key:bC p=true<->(∀(i:Nat) (h:i<p.nodes.length),rU p.nodes i p.nodes[i]=true)/\(∀f∈p.ag,mV p.nodes f=true)/\∀(k:Nat),k<p.nodes.length->(iN p).count (k:Int)=1:=by
  simp only [bC,Xo,zR,XL,and_assoc,Xy,decide_eq_true_eq,YK]
 have hno:∀(i:Nat) (h:i<p.nodes.length),rU p.nodes i p.nodes[i]=true<->(∀k∈p.nodes[i].of,0<=k/\k<i)/\eR p.nodes p.nodes[i]=true:=by
  intro i h;simp [rU,Xo,XL]
 have no:∀{P:Prop},(bC p=true->P)->¬P->bC p=false:=fun h1 h2=>by
  rw [Zm];exact fun e=>h2 (h1 e)
 refine ⟨fun i h k hk hb=>no (fun e=>((hno i h).1 ((key.1 e).1 i h)).1 k hk) hb,fun i h hs=>no (fun e=>((hno i h).1 ((key.1 e).1 i h)).2) (by simp [hs]),fun i h hs=>no (fun e=>(key.1 e).2.1 _ (XF h)) (by simp [hs]),fun k hk hc=>no (fun e=>(key.1 e).2.2 k hk) hc,fun h1 h2 h3=>key.2 ⟨fun i h=>(hno i h).2 (h1 i h),fun f hf=>?_,h3⟩⟩;obtain ⟨i,hi,rfl⟩:=XQ.1 hf;exact h2 i hi
theorem rX (p:Pg) (hp:Lim p):Ret P0 rE [pgD p] (.bool (bC p)):=by
 have hF:=Eg p;have hfew:=Nr hp;have hN:=hp.nodes;have hFl:=hp.ag;generalize bC p=R at *;have hnl:(p.nodes.map ndL).length=p.nodes.length:=by simp
 have hfl:(p.ag.map fuL).length=p.ag.length:=by simp
 obtain ⟨T,hT⟩:∃T:Nat->List (List Dat),∀i,T i=fc (oz (lh p.nodes i) p.nodes.length):=⟨_,fun _=>rfl⟩
 have e0:List.replicate (((p.nodes.map ndL).length:Nat):Int).toNat [I 0]=T 0:=by
  rw [hT,show lh p.nodes 0=[] from rfl,PX,fc,List.map_replicate,hnl];simp
 have hmk:(decide ((0:Int)<=((p.nodes.map ndL).length:Nat))&&decide ((((p.nodes.map ndL).length:Nat):Int)<=((p.nodes.map ndL).length:Nat))&&decide ((((p.nodes.map ndL).length:Nat):Int) * ((8:Nat):Int)<=70368744177664))=true:=by simp;omega
 refine bf yf rfl ?_
 repeat refine aw ?_
 refine dK (fun i:Nat=>⟨[(19,.d (I i)),(18,.d (I ((p.nodes.map ndL).length:Nat))),(17,.d (bY p.nodes)),(3,.ref 1 0 0 p.nodes.length),(1,.ptr 0 0)],[(1,.mt 1 0 (T i)),(0,.var [.d (.slice 3 (p.decls.map cD) false),.d (.slice 3 (p.ag.map fuL) false),.d (bY p.nodes)])],2,[],0⟩)
  (fun i=>i<=p.nodes.length/\∀(j:Nat) (h:j<p.nodes.length),j<i->(∀k∈p.nodes[j].of,0<=k/\k<j)/\eR p.nodes p.nodes[j]=true) (fun i=>p.nodes.length - i) 0 (by exact Uw.wM) ⟨by omega,fun j _ h=>by omega⟩ ?_
 rintro i ⟨hi,hok⟩;by_cases hlt:i<p.nodes.length
 rotate_left
 ·repeat refine aw ?_
  refine aH ?_
  repeat refine aw ?_
  have hok2:∀(j:Nat) (h:j<p.nodes.length),(∀k∈p.nodes[j].of,0<=k/\k<j)/\eR p.nodes p.nodes[j]=true:=fun j h=>hok j h (by omega);obtain rfl:i=p.nodes.length:=by omega
  have hU:lh p.nodes p.nodes.length=p.nodes.flatMap (·.of):=by rw [lh,XE]
  obtain ⟨T3,hT3⟩:∃T3:Nat->List (List Dat),∀j,T3 j=fc (oz (p.nodes.flatMap (·.of)++(p.ag.map (·.body)).take j) p.nodes.length):=⟨_,fun _=>rfl⟩
  have e3:T p.nodes.length=T3 0:=by rw [hT,hT3,hU];simp
  have e4:T3 p.ag.length=fc (oz (iN p) p.nodes.length):=by
   rw [hT3,iN,XB (by simp)]
  have hstep:∀(j:Nat) (h:j<p.ag.length),0<=p.ag[j].body->p.ag[j].body<p.nodes.length->∃c:Int,(T3 j)[0+p.ag[j].body.toNat]? = some [I c]/\(T3 j).set (0+p.ag[j].body.toNat) (setAt [I c] 0 [I (c+1)])=T3 (j+1)/\0<=c/\c<100000000000:=by
   intro j h h0 h1;obtain ⟨c,g1,g2,g3,g4⟩:=Jq (p.nodes.flatMap (·.of)++(p.ag.map (·.body)).take j) p.nodes.length _ h0 h1;refine ⟨c,by rw [hT3];exact g1,?_,g3,?_⟩
   ·rw [hT3,hT3,g2,Xq (by simpa using h),XH,ZI]
   ·have:=zS hp p.nodes.length
    rw [hU] at this;simp only [Xr,XW,XJ] at g4;omega
  have hbody:=hF.body;have SX:∀(j:Nat) (h:j<p.ag.length),(p.ag.map fuL)[(j:Int).toNat]? = some (fuL p.ag[j]):=by intro j h;simp [h]
  have SY:∀(k:Int),0<=k->k<p.nodes.length->∃y:Nd,(p.nodes.map ndL)[k.toNat]? = some (ndL y)/\j8 p.nodes k=y.kind:=by
   intro k h0 h1;have h3:k.toNat<p.nodes.length:=by omega
   exact ⟨p.nodes[k.toNat],by simp [h3],by simp [j8,List.getD,h3]⟩
  clear hT e0 hT3 hi;rw [e3];refine cI p.ag.length (fun j:Nat=>⟨[(54,.d (I j)),(53,.d (I ((p.ag.map fuL).length:Nat))),(52,.d (.slice 3 (p.ag.map fuL) false)),(3,.ref 1 0 0 p.nodes.length),(1,.ptr 0 0)],[(1,.mt 1 0 (T3 j)),(0,.var [.d (.slice 3 (p.decls.map cD) false),.d (.slice 3 (p.ag.map fuL) false),.d (bY p.nodes)])],2,[],0⟩)
   (fun j=>∀h:j<p.ag.length,mV p.nodes p.ag[j]=true) (by exact Uw.wM) (fun hbd=>?_) (fun j hj hbd=>?_)
  ·have hbd:∀(j:Nat) (h:j<p.ag.length),mV p.nodes p.ag[j]=true:=fun j h=>hbd j h h
   have hR:=hF.all hok2 hbd;have U3:=hF.time;have VU:∀(k:Nat) (h:k<p.nodes.length),(T3 p.ag.length)[0+(k:Int).toNat]? = some [I ((iN p).count (k:Int):Nat)]:=by
    intro k h;rw [e4,Xy];exact Nq (by omega) (by omega)
   have hTl:(T3 p.ag.length).length=p.nodes.length:=by rw [e4,PZ]
   repeat refine aw ?_
   refine aH ?_
   repeat refine aw ?_
   clear hF hok hok2 hbd SX SY hbody hstep;refine cI p.nodes.length (fun k:Nat=>⟨[(89,.d (I k)),(88,.d (I (p.nodes.length:Nat))),(87,.ref 1 0 0 p.nodes.length)],[(1,.mt 1 0 (T3 p.ag.length))],2,[],0⟩)
    (fun k=>(iN p).count (k:Int)=1) (by exact Uw.wM) (fun hc=>?_) (fun k hk hc=>?_)
   ·rw [hR hc]
    repeat refine aw ?_
    refine aH ?_
    repeat refine aw ?_
    exact aC rfl rfl rfl rfl rfl
   have hel:=VU k hk;have hti:=U3 k hk;by_cases h1:(iN p).count (k:Int)=1
   ·rw [h1] at hel
    repeat refine aw ?_
    exact aK k h1 (by exact Uw.wM)
   ·rw [hti h1]
    have h2:¬(((iN p).count (k:Int):Nat):Int)=1:=by omega
    clear hti;generalize (((iN p).count (k:Int):Nat):Int)=c at *
    repeat refine aw ?_
    refine bK ?_;exact aC rfl rfl rfl rfl rfl
  have hb:=hbody j hj;have hs:=hstep j hj;have he:=SX j hj;have hN2:=SY p.ag[j].body;have hbk:mV p.nodes p.ag[j]=(decide (0<=p.ag[j].body)&&decide (p.ag[j].body<p.nodes.length)&&decide (j8 p.nodes p.ag[j].body=18)):=rfl;have hnext:mV p.nodes p.ag[j]=true->∀h:j<p.ag.length,mV p.nodes p.ag[j]=true:=fun h _=>h;rw [hbk] at hb hnext;clear hbk hbody hstep SX SY;generalize p.ag[j]=f at *;obtain ⟨fn,fa,fb⟩:=f;have he:(p.ag.map fuL)[(j:Int).toNat]? = some [.str fn,fS fa,I fb]:=he;simp only at *;by_cases h0:fb<0
  ·rw [hb (by rw [decide_eq_false (by omega)];rfl)]
   repeat refine aw ?_
   refine bK ?_;exact aC rfl rfl rfl rfl rfl
  by_cases h1:(p.nodes.length:Int)<=fb
  ·rw [hb (by rw [decide_eq_false (show ¬fb<p.nodes.length by omega),Bool.and_false];rfl)]
   repeat refine aw ?_
   refine bK ?_;exact aC rfl rfl rfl rfl rfl
  obtain ⟨y,k1,k2⟩:=hN2 (by omega) (by omega);rw [k2,decide_eq_true (show 0<=fb by omega),decide_eq_true (show fb<p.nodes.length by omega)] at hb hnext;by_cases h2:y.kind=18
  rotate_left
  ·rw [hb (by rw [decide_eq_false h2];rfl)]
   repeat refine aw ?_
   refine bK ?_;exact aC rfl rfl rfl rfl rfl
  have hnext:=hnext (by rw [decide_eq_true h2];rfl);obtain ⟨c,g1,g2,g3,g4⟩:=hs (by omega) (by omega)
  repeat refine aw ?_
  exact aK j hnext (by exact Uw.wM)
 have hx:=hp.of p.nodes[i] (XF hlt);have P1:=hF.kid i hlt;have VX:=hF.shape i hlt;have hsh:=fun (hh:∀k∈p.nodes[i].of,0<=k/\k<(p.nodes.length:Int))=>zQ p.nodes p.nodes[i] hh (by omega);have hnew:(∀k∈p.nodes[i].of,0<=k/\k<(i:Int))->eR p.nodes p.nodes[i]=true->∀(j:Nat) (h:j<p.nodes.length),j<i+1->(∀k∈p.nodes[j].of,0<=k/\k<(j:Int))/\eR p.nodes p.nodes[j]=true:=by
  intro h1 h2 j h hj;by_cases he:j=i
  ·subst he;exact ⟨h1,h2⟩
  ·exact hok j h (by omega)
 obtain ⟨T2,hT2⟩:∃T2:Nat->List (List Dat),∀j,T2 j=fc (oz (lh p.nodes i++p.nodes[i].of.take j) p.nodes.length):=⟨_,fun _=>rfl⟩
 have e1:T i=T2 0:=by rw [hT,hT2];simp
 have e2:T2 p.nodes[i].of.length=T (i+1):=by rw [hT,hT2,XE,GH hlt]
 have hstep:∀(j:Nat) (h:j<p.nodes[i].of.length),0<=p.nodes[i].of[j]->p.nodes[i].of[j]<p.nodes.length->∃c:Int,(T2 j)[0+p.nodes[i].of[j].toNat]? = some [I c]/\(T2 j).set (0+p.nodes[i].of[j].toNat) (setAt [I c] 0 [I (c+1)])=T2 (j+1)/\0<=c/\c<100000000000:=by
  intro j h h0 h1;obtain ⟨c,g1,g2,g3,g4⟩:=Jq (lh p.nodes i++p.nodes[i].of.take j) p.nodes.length _ h0 h1;refine ⟨c,by rw [hT2];exact g1,?_,g3,?_⟩
  ·rw [hT2,hT2,g2,Xq h,XH]
  ·have:=zS hp i
   simp at g4;omega
 have hel:(p.nodes.map ndL)[(i:Int).toNat]? = some (ndL p.nodes[i]):=by simp [hlt]
 have hmem:∀(j:Nat) (h:j<p.nodes[i].of.length),p.nodes[i].of[j]∈p.nodes[i].of:=fun j h=>XF h;have hall:(∀(j:Nat) (h:j<p.nodes[i].of.length),0<=p.nodes[i].of[j]/\p.nodes[i].of[j]<(i:Int))->∀k∈p.nodes[i].of,0<=k/\k<(i:Int):=by
  intro h k hk;obtain ⟨j,hj,rfl⟩:=XQ.1 hk;exact h j hj
 generalize p.nodes[i]=x at *;have hol:(x.of.map fun i=>[I i]).length=x.of.length:=by simp
 have hoe:∀(j:Nat) (h:j<x.of.length),(x.of.map fun i=>[I i])[(j:Int).toNat]? = some [I x.of[j]]:=by intro j h;simp [h]
 repeat refine aw ?_
 refine dK (fun j:Nat=>⟨[(27,.d (I j)),(26,.d (I ((x.of.map fun i=>[I i]).length:Nat))),(25,.d (cG x.of)),(4,.d (I i)),(5,.ptr 2 0),(19,.d (I i)),(18,.d (I ((p.nodes.map ndL).length:Nat))),(17,.d (bY p.nodes)),(3,.ref 1 0 0 p.nodes.length),(1,.ptr 0 0)],[(2,.var [.d (I x.kind),.d (I x.n),.d (.str x.name),.d (.str x.name2),.d (cG x.of)]),(1,.mt 1 0 (T2 j)),(0,.var [.d (.slice 3 (p.decls.map cD) false),.d (.slice 3 (p.ag.map fuL) false),.d (bY p.nodes)])],3,[],0⟩)
  (fun j=>j<=x.of.length/\∀(m:Nat) (h:m<x.of.length),m<j->0<=x.of[m]/\x.of[m]<(i:Int)) (fun j=>x.of.length - j) 0 (by exact Uw.wM) ⟨by omega,fun m _ h=>by omega⟩ ?_
 rintro j ⟨hj,hpre⟩;by_cases hjl:j<x.of.length
 ·have hk:=P1 x.of[j] (hmem j hjl)
  have hs:=hstep j hjl;have he:=hoe j hjl;have U4:0<=x.of[j]/\x.of[j]<(i:Int)->∀(m:Nat) (h:m<x.of.length),m<j+1->0<=x.of[m]/\x.of[m]<(i:Int):=by
   intro h1 m h hm;by_cases h2:m=j
   ·subst h2;exact h1
   ·exact hpre m h (by omega)
  clear hpre hoe hmem hstep P1 hall;generalize x.of[j]=k at *;by_cases h0:k<0
  ·rw [hk (by omega)]
   repeat refine aw ?_
   exact bK (bK (aC rfl rfl rfl rfl rfl))
  by_cases h1:(i:Int)<=k
  ·rw [hk (by omega)]
   repeat refine aw ?_
   exact bK (bK (aC rfl rfl rfl rfl rfl))
  obtain ⟨c,g1,g2,g3,g4⟩:=hs (by omega) (by omega);have U5:=U4 (by omega)
  repeat refine aw ?_
  exact cM (j+1) ⟨by omega,U5⟩ (by omega) (by exact Uw.wM)
 obtain rfl:j=x.of.length:=by omega
 have hsh2:=hsh fun k hk=>by have:=hall (fun m h=>hpre m h h) k hk;omega
 have hnew2:=hnew (hall fun m h=>hpre m h h);by_cases hs:eR p.nodes x=true
 ·rw [hs] at hsh2
  have U6:=hnew2 hs
  repeat refine aw ?_
  refine aH ?_
  repeat refine aw ?_
  exact cM (i+1) ⟨by omega,U6⟩ (by omega) (by exact Uw.wM)
 ·have hs:eR p.nodes x=false:=by simpa using hs
  rw [hs] at hsh2;rw [VX hs]
  repeat refine aw ?_
  refine aH ?_
  repeat refine aw ?_
  exact bK (aC rfl rfl rfl rfl rfl)
end Uw.Tryz
namespace Uw.Tryz
open Go Uw
theorem vT:∀(fs:List Fu) (i:Nat) (o:List Int),(rV fs i o).length=o.length
 | [],_,_=>rfl
 | f::fs,i,o=>by rw [rV,vT fs];simp
theorem sJ {i:Nat}:∀(l:List Int) (o:List Int),(l.foldl (fun o k=>o.set k.toNat (o.getD i 0)) o).length=o.length
 | [],_=>rfl
 | k::l,o=>by rw [YI,sJ l];simp
theorem rY:∀(l:List (Nat×Nd)) (o:List Int),(fN l o).length=o.length
 | [],_=>rfl
 | (i,x)::r,o=>by rw [fN,rY r,il,sJ]
theorem cS (p:Pg):(aJ p).length=p.nodes.length:=by rw [aJ,rY,vT];simp
theorem Eh {α β:Type}:∀{l:List α} {l' : List β} {x:α},l'.length=l.length->x∈l->∃y,(x,y)∈l.zip l'
 | a::l,[],x,h,_=>by simp at h
 | a::l,b::l',x,h,hx=>by
  rcases XA.1 hx with rfl|hx
  ·exact ⟨b,by simp⟩
  ·obtain ⟨y,hy⟩:=Eh (l:=l) (l':=l') (by simpa using h) hx
   exact ⟨y,by simp [hy]⟩
structure May (p:Pg):Prop where
 formed:bC p=true
 bound:gg p=false
 twice:iG p=false
 name:nameP p=false
 sort:pu p=false
 many:lG p=false
theorem Ig {p:Pg} (h:mX p=0):May p:=by
 unfold mX at h
 cases h1:bC p<;>cases h2:gg p<;>cases h3:iG p<;>cases h4:nameP p<;>cases h5:pu p<;>cases h6:lG p<;>simp [h1,h2,h3,h4,h5,h6] at h
 exact ⟨h1,h2,h3,h4,h5,h6⟩
theorem sK {α:Type} {l:List α} (h:l.Nodup) {i j:Nat} (hi:i<l.length) (hj:j<l.length) (he:l[i]=l[j]):i=j:=by
 have h:=ZD.1 (ZC.1 h)
 rcases Nat.lt_trichotomy i j with h1|h1|h1
 ·exact absurd he (h i j hi hj h1)
 ·exact h1
 ·exact absurd he.symm (h j i hj hi h1)
theorem sL {p:Pg} {s:Str} {i:Nat} (h:db p s=some i):∃h:i<p.ag.length,p.ag[i].name=s:=by
 obtain ⟨h1,h2,_⟩:=X5.1 h;exact ⟨h1,by simpa using h2⟩
theorem KI {p:Pg} (h:(p.ag.map (·.name)).Nodup) {i:Nat} (hi:i<p.ag.length):db p p.ag[i].name=some i:=by
 refine X5.2 ⟨hi,by simp,fun j hj hji=>?_⟩;have hjl:j<p.ag.length:=by omega
 have e:p.ag[j].name=p.ag[i].name:=by simpa using hji
 have:=sK h (i:=j) (j:=i) (by simpa using hjl) (by simpa using hi) (by simpa using e);omega
theorem May.names {p:Pg} (h:May p):(p.decls.map (·.name)).Nodup/\(p.ag.map (·.name)).Nodup/\∀f∈p.ag,rW p [] f.args=false:=by
 have:=h.twice;simp only [iG,X0,Bool.not_eq_false',decide_eq_true_eq,X2] at this;exact ⟨this.1.1,this.1.2,fun f hf=>by simpa using this.2 f hf⟩
theorem May.main {p:Pg} (h:May p):∃m,∃hm:m<p.ag.length,db p fU=some m/\p.ag[m].args=[]:=by
 have h1:=h.name;have h2:=h.many;simp only [nameP,X0] at h1;simp only [lG,X0,decide_eq_false_iff_not] at h2
 cases hf:db p fU with
 | none=>rw [hf] at h1;simp at h1
 | some m=>
  obtain ⟨hm,_⟩:=sL hf;refine ⟨m,hm,rfl,?_⟩;have:=h2.1;rw [argsAt,hf] at this;simp only [Option.getD_some,List.getD,Xw hm] at this;exact XD (by omega)
theorem May.call {p:Pg} (h:May p) {x:Nd} (hx:x∈p.nodes) (hk:x.kind=10\/x.kind=11):∃k,∃hk:k<p.ag.length,db p x.name2=some k/\(x.kind=10->x.of.length=p.ag[k].args.length)/\(x.kind=11->p.ag[k].args.length=1):=by
 have h2:=h.many;simp only [lG,X0,decide_eq_false_iff_not,X2] at h2;have h1:=h.name;simp only [nameP,X0,X2] at h1;have h3:=h2.2 x hx;obtain ⟨o,ho⟩:∃o,(x,o)∈p.nodes.zip (aJ p):=Eh (cS p) hx;have h4:=h1.1.2 _ ho;simp only [nU,if_pos hk] at h4
 cases hf:db p x.name2 with
 | none=>rw [hf] at h4;simp at h4
 | some k=>
  obtain ⟨hkl,_⟩:=sL hf;refine ⟨k,hkl,rfl,fun h10=>?_,fun h11=>?_⟩
  ·simp [manyN,h10,argsAt,hf,hkl] at h3;exact h3
  ·simp [manyN,h11,argsAt,hf,hkl] at h3;exact h3
theorem Jr {p:Pg}:∀(l seen:List Str),rW p seen l=false->l.Nodup/\(∀a∈l,a∉seen)/\∀a∈l,bk p a=none
 | [],_,_=>⟨ZB,by simp,by simp⟩
 | a::r,seen,h=>by
  simp only [rW,X0,decide_eq_false_iff_not] at h;obtain ⟨h1,h2,h3⟩:=Jr r (a::seen) h.2;refine ⟨Zv.2 ⟨fun hm=>h2 a hm (by simp),h1⟩,?_,?_⟩
  ·intro b hb
   rcases XA.1 hb with rfl|hb
   ·exact h.1.2
   ·exact fun hs=>h2 b hb (by simp [hs])
  ·intro b hb
   rcases XA.1 hb with rfl|hb
   ·simpa using h.1.1
   ·exact h3 b hb
def Loc (p:Pg) (a l:List Str):Prop:=(∃t,l=a++t)/\l.Nodup/\∀s∈l,bk p s=none
def Ei (p:Pg) (ls:List (List Str)):Prop:=ls.length=p.ag.length/\∀(f:Nat) (h:f<p.ag.length),Loc p p.ag[f].args (ls.getD f [])
theorem Ei.add {p:Pg} {ls:List (List Str)} (h:Ei p ls) (f:Nat) (s:Str) (hs:bk p s=none):Ei p (addLocal ls f s):=by
 unfold addLocal
 split
 ·exact h
 ·rename_i hm
  refine ⟨by simpa using h.1,fun g hg=>?_⟩;by_cases hgf:g=f
  ·subst hgf
   obtain ⟨⟨t,ht⟩,h2,h3⟩:=h.2 g hg;have e:(ls.set g (ls.getD g []++[s])).getD g []=ls.getD g []++[s]:=by simp [h.1,hg]
   rw [e];refine ⟨⟨t++[s],by rw [ht,XH]⟩,?_,?_⟩
   ·rw [Zl]
    exact ⟨h2,by simp,fun a ha b hb=>by simp at hb;subst hb;exact fun e=>hm (e ▸ ha)⟩
   ·intro b hb
    rcases XG.1 hb with hb|hb
    ·exact h3 b hb
    ·simp at hb;subst hb;exact hs
  ·have e:(ls.set f (ls.getD f []++[s])).getD g []=ls.getD g []:=by simp [List.getD,YB,Ne.symm hgf]
   rw [e];exact h.2 g hg
theorem Ei.go {p:Pg}:∀(r:List (Nd×Int)) (ls:List (List Str)),Ei p ls->Ei p (dZ p r ls)
 | [],ls,h=>h
 | (x,o)::r,ls,h=>by
  rw [dZ];refine Ei.go r _ ?_
  split
  ·rename_i hl
   refine h.add _ _ ?_;simp only [eX,Xo] at hl;simpa using hl.2
  ·exact h
theorem May.yk {p:Pg} (h:May p):Ei p (ak p):=by
 refine Ei.go _ _ ⟨by simp,fun f hf=>?_⟩;obtain ⟨h1,_,h3⟩:=Jr _ _ (h.names.2.2 p.ag[f] (XF hf));have e:(p.ag.map (·.args)).getD f []=p.ag[f].args:=by simp [List.getD,hf]
 rw [e];exact ⟨⟨[],by simp⟩,h1,h3⟩
theorem May.lof {p:Pg} (h:May p) (k:Nat) (hk:k<p.ag.length):iO p k=(ak p).getD k []:=by
 rw [iO,if_neg (by simp [h.formed];omega)];simp
theorem May.locals {p:Pg} (h:May p) (k:Nat) (hk:k<p.ag.length):Loc p p.ag[k].args (iO p k)/\(iO p k).length<=16:=by
 rw [h.lof k hk];refine ⟨h.yk.2 k hk,?_⟩;have:=h.bound;simp only [gg,X0,X2] at this;have hl:k<(ak p).length:=by rw [h.yk.1];exact hk
 have:=this.1.2 (ak p)[k] (XF hl);have e:(ak p).getD k []=(ak p)[k]:=by simp [List.getD,hl]
 rw [e];simpa using this
theorem GK {p:Pg} {s:Str}:bk p s=none<->∀d∈p.decls,d.name≠s:=by
 simp [bk]
theorem Ih {p:Pg} (h:(p.decls.map (·.name)).Nodup) {d:Dec} (hd:d∈p.decls):bk p d.name=some d.kind:=by
 unfold bk
 cases hf:p.decls.find? fun e=>decide (e.name=d.name) with
 | none=>
  have:=List.find?_eq_none.1 hf d hd;simp at this
 | some e=>
  have h1:=aae hf;have h2:=List.find?_some hf;simp at h2;obtain ⟨i,hi,rfl⟩:=XQ.1 hd;obtain ⟨j,hj,rfl⟩:=XQ.1 h1;have:=sK h (i:=j) (j:=i) (by simpa using hj) (by simpa using hi) (by simpa using h2);subst this;rfl
theorem May.read {p:Pg} (h:May p) {x:Nd} (hx:x∈p.nodes):(x.kind=8->∃k,bk p x.name=some k/\1<=k)/\(x.kind=2->bk p x.name=some 0\/(bk p x.name=none/\∃k,k<p.ag.length/\x.name∈iO p k)):=by
 obtain ⟨o,ho⟩:=Eh (cS p) hx;have h1:=h.name;simp only [nameP,X0,X2] at h1;have h1:=h1.1.2 _ ho;have h2:=h.sort;simp only [pu,X2] at h2;have h2:=h2 x hx;refine ⟨fun hk=>?_,fun hk=>?_⟩
 ·simp [nU,hk] at h1
  simp [mW,hk] at h2
  cases ht:bk p x.name with
  | none=>rw [ht] at h1;simp at h1
  | some k=>
   rw [ht] at h2;refine ⟨k,rfl,?_⟩;simp [fr] at h2
   split at h2
   ·omega
   ·split at h2
    ·omega
    ·split at h2
     ·omega
     ·simp at h2
 ·simp [nU,hk] at h1
  simp [mW,hk] at h2
  cases ht:bk p x.name with
  | some k=>rw [ht] at h2;simp at h2;exact .inl (by rw [h2])
  | none=>
   have h1:=h1 ht;refine .inr ⟨rfl,o.toNat,?_⟩;have hl:o.toNat<(ak p).length:=by
    rcases XR o.toNat (ak p).length with hl|hl
    ·exact hl
    ·simp [Xz hl] at h1
   rw [h.yk.1] at hl;refine ⟨hl,?_⟩;rw [h.lof _ hl];simpa using h1
theorem xX {ns:List Nd}:∀{l:List Nd} {i:Nat},jC ns i l=true->∀x∈l,∀k∈x.of,0<=k/\k<i+l.length
 | [],_,_,x,hx,_,_=>by simp at hx
 | y::l,i,h,x,hx,k,hk=>by
  simp only [jC,Xo] at h
  rcases XA.1 hx with rfl|hx
  ·have h:=h.1
   simp only [rU,Xo,XL] at h;have:=h.1 k hk;simp at this ⊢;omega
  ·have:=xX h.2 x hx k hk
   simp at this ⊢;omega
theorem yH {p:Pg} (h:bC p=true):∀k∈iN p,0<=k/\k<p.nodes.length:=by
 simp only [bC,Xo,XL] at h;intro k hk
 rcases XG.1 hk with hk|hk
 ·obtain ⟨x,hx,hk⟩:=ZH.1 hk
  have:=xX h.1.1 x hx k hk;simpa using this
 ·obtain ⟨f,hf,rfl⟩:=Yf.1 hk
  have:=h.1.2 f hf;simp [mV] at this;omega
theorem ql {p:Pg} (h:bC p=true) (k:Nat) (hk:k<p.nodes.length):(iN p).count (k:Int)=1:=by
 simp only [bC,Xo,XL] at h;simpa using h.2 k (by simpa using hk)
end Uw.Tryz
namespace Uw.Tryz
open Go Uw
theorem vU {α:Type} {x:α}:∀{l:List α} {b i:Nat},(i,x)∈idx b l<->b<=i/\l[i - b]? = some x
 | [],b,i=>by simp [idx]
 | y::l,b,i=>by
  rw [idx,XA,vU];constructor
  ·rintro (h|⟨h1,h2⟩)
   ·injection h with h1 h2;subst h1 h2;simp
   ·exact ⟨by omega,by rw [show i - b=(i - (b+1))+1 by omega,Yz];exact h2⟩
  ·rintro ⟨h1,h2⟩
   by_cases he:i=b
   ·subst he;simp at h2;subst h2;exact .inl rfl
   ·refine .inr ⟨by omega,?_⟩
    rw [show i - b=(i - (b+1))+1 by omega,Yz] at h2;exact h2
theorem Js {α:Type}:∀(l:List α) (b:Nat),(idx b l).Pairwise fun a c=>a.1<c.1
 | [],b=>List.Pairwise.nil
 | y::l,b=>by
  rw [idx];refine List.Pairwise.cons ?_ (Js l (b+1));rintro ⟨i,x⟩ h;have:=(vU.1 h).1;simp only;omega
theorem GL {α β:Type} (f:α->List β):∀(l:List α) (b:Nat),(idx b l).flatMap (fun y=>f y.2)=l.flatMap f
 | [],b=>rfl
 | y::l,b=>by rw [idx,Za,Za,GL f l]
theorem GM {n:Nat} (i:Nat):∀(l:List Int) (o:List Int),o.length=n->(∀k∈l,0<=k/\k<(i:Int))->i<n->∀(j:Nat),(l.foldl (fun o k=>o.set k.toNat (o.getD i 0)) o).getD j 0=if (j:Int)∈l then o.getD i 0 else o.getD j 0
 | [],o,ho,h,hi,j=>by simp
 | k::l,o,ho,h,hi,j=>by
  obtain ⟨h1,h2⟩:=h k (by simp);rw [YI,GM i l _ (by simpa using ho) (fun k hk=>h k (by simp [hk])) hi j];have e:(o.set k.toNat (o.getD i 0)).getD i 0=o.getD i 0:=by
   simp only [List.getD,YB];rw [if_neg (by omega)]
  rw [e];by_cases hj:(j:Int)∈l
  ·rw [if_pos hj,if_pos (by simp [hj])]
  ·rw [if_neg hj]
   by_cases hk:(j:Int)=k
   ·rw [if_pos (by simp [hk])]
    subst hk;simp only [List.getD,YB,YH,if_true];rw [if_pos (by omega)];rfl
   ·rw [if_neg (by simp [hk,hj])]
    simp only [List.getD,YB];rw [if_neg (by omega)]
structure Down (n:Nat) (l:List (Nat×Nd)):Prop where
 dec:l.Pairwise fun a c=>c.1<a.1
 kid:∀y∈l,y.1<n/\∀k∈y.2.of,0<=k/\k<(y.1:Int)
 once:(l.flatMap fun y=>y.2.of).Nodup
theorem GN {n:Nat}:∀(l:List (Nat×Nd)) (o:List Int),o.length=n->Down n l->
  (∀j:Nat,(∀y∈l,(j:Int)∉y.2.of)->(fN l o).getD j 0=o.getD j 0)/\∀y∈l,∀j:Nat,(j:Int)∈y.2.of->(fN l o).getD j 0=(fN l o).getD y.1 0
 | [],o,ho,h=>⟨fun j _=>rfl,by simp⟩
 | (i,x)::r,o,ho,h=>by
  obtain ⟨hi,hx⟩:=h.kid (i,x) (by simp);simp only at hi hx;have hlen:(il o i x).length=n:=by rw [il,sJ,ho]
  have hon:=h.once;rw [Za,Zl] at hon;have hd:=List.pairwise_cons.1 h.dec;have hr:Down n r:=⟨hd.2,fun y hy=>h.kid y (by simp [hy]),hon.2.1⟩
  obtain ⟨a1,a2⟩:=GN r (il o i x) hlen hr;have hk:=GM i x.of o ho hx hi;have hki:(il o i x).getD i 0=o.getD i 0:=by
   rw [il,hk i,if_neg];intro hm;have:=hx _ hm;omega
  have hii:(fN r (il o i x)).getD i 0=o.getD i 0:=by
   rw [a1 i ?_,hki];intro y hy hm;have h1:=(hr.kid y hy).2 _ hm;have h2:=hd.1 y hy;simp only at h2;omega
  refine ⟨fun j hj=>?_,fun y hy j hm=>?_⟩
  ·rw [fN,a1 j fun y hy=>hj y (by simp [hy]),il,hk j,if_neg (hj (i,x) (by simp))]
  ·rw [fN]
   rcases XA.1 hy with rfl|hy
   ·rw [hii,a1 j ?_,il,hk j,if_pos hm]
    intro y hy hm2;exact hon.2.2 _ hm _ (ZH.2 ⟨y,hy,hm2⟩) rfl
   ·exact a2 y hy j hm
theorem zT {p:Pg} (h:bC p=true):(iN p).Nodup:=by
 rw [List.nodup_iff_count];intro k;by_cases hk:k∈iN p
 ·obtain ⟨h1,h2⟩:=yH h k hk
  have:=ql h k.toNat (by omega);rw [show ((k.toNat:Nat):Int)=k by omega] at this;omega
 ·rw [List.count_eq_zero.2 hk];omega
theorem zU:∀(fs:List Fu) (b:Nat) (o:List Int),(∀f∈fs,0<=f.body/\f.body<(o.length:Int))->(fs.map (·.body)).Nodup->∀(i:Nat) (hi:i<fs.length),(rV fs b o).getD fs[i].body.toNat 0=((b+i:Nat):Int)/\∀j:Nat,(∀f∈fs,f.body≠(j:Int))->(rV fs b o).getD j 0=o.getD j 0
 | [],b,o,_,_,i,hi=>by simp at hi
 | f::fs,b,o,h,hn,i,hi=>by
  rw [Yk,Zv] at hn;obtain ⟨h1,h2⟩:=h f (by simp);have hrest:∀g∈fs,0<=g.body/\g.body<((o.set f.body.toNat b).length:Int):=fun g hg=>by rw [Zj];exact h g (by simp [hg])
  have hno:∀j:Nat,(∀g∈fs,g.body≠(j:Int))->(rV fs (b+1) (o.set f.body.toNat b)).getD j 0=(o.set f.body.toNat b).getD j 0:=by
   intro j hj
   cases fs with
   | nil=>rfl
   | cons g fs=>exact (zU (g::fs) (b+1) _ hrest hn.2 0 (by simp)).2 j hj
  refine ⟨?_,fun j hj=>?_⟩
  ·rw [rV]
   cases i with
   | zero=>
    rw [YW,hno f.body.toNat fun g hg e=>hn.1 (Yf.2 ⟨g,hg,by rw [e];omega⟩)];simp only [List.getD,YB];rw [if_pos trivial,if_pos (by omega)];simp
   | succ i=>
    rw [aal,(zU fs (b+1) _ hrest hn.2 i (by simpa using hi)).1];omega
  ·rw [rV,hno j fun g hg=>hj g (by simp [hg])]
   simp only [List.getD,YB];have:=hj f (by simp);rw [if_neg (by omega)]
structure VY (p:Pg):Prop where
 body:∀(i:Nat) (h:i<p.ag.length),(aJ p).getD p.ag[i].body.toNat 0=(i:Int)
 kid:∀(i:Nat) (h:i<p.nodes.length) (j:Nat),(j:Int)∈p.nodes[i].of->(aJ p).getD j 0=(aJ p).getD i 0
theorem owns {p:Pg} (h:bC p=true):VY p:=by
 have hn:=zT h;rw [iN,Zl] at hn;have P1:∀(i:Nat) (hi:i<p.nodes.length) (k:Int),k∈p.nodes[i].of->0<=k/\k<(i:Int):=by
  intro i hi k hk;have h1:=h;simp only [bC,Xo] at h1;have key:∀(l:List Nd) (b:Nat),jC p.nodes b l=true->∀(i:Nat) (hi:i<l.length) (k:Int),k∈l[i].of->0<=k/\k<((b+i:Nat):Int):=by
   intro l
   induction l with
   | nil=>intro b _ i hi;simp at hi
   | cons y l ih=>
    intro b hb i hi k hk;simp only [jC,Xo] at hb
    cases i with
    | zero=>
     have h2:=hb.1;simp only [rU,Xo,XL] at h2;have:=h2.1 k hk;simpa using this
    | succ i=>
     have:=ih (b+1) hb.2 i (by simpa using hi) k hk;omega
  have:=key p.nodes 0 h1.1.1 i hi k hk;omega
 have jJ:((idx 0 p.nodes).reverse.flatMap fun y=>y.2.of).Nodup:=by
  refine (List.Perm.nodup_iff (List.Perm.flatMap_right _ (List.reverse_perm _))).2 ?_;rw [GL (fun x:Nd=>x.of)];exact hn.1
 have hdown:Down p.nodes.length (idx 0 p.nodes).reverse:=by
  refine ⟨List.pairwise_reverse.2 (Js _ _),?_,jJ⟩;rintro ⟨i,x⟩ hy;obtain ⟨_,h2⟩:=vU.1 (Z2.1 hy);rw [ZK] at h2;obtain ⟨h3,rfl⟩:=XT.1 h2;exact ⟨h3,fun k hk=>P1 i h3 k hk⟩
 have hlen:(rV p.ag 0 (List.replicate p.nodes.length 0)).length=p.nodes.length:=by rw [vT];simp
 obtain ⟨a1,a2⟩:=GN _ _ hlen hdown;refine ⟨fun i hi=>?_,fun i hi j hj=>?_⟩
 ·have hb:0<=p.ag[i].body:=(yH h _ (XG.2 (.inr (Yf.2 ⟨_,XF hi,rfl⟩)))).1
  rw [aJ,a1 _ ?_]
  ·rw [(zU p.ag 0 _ (fun f hf=>by simpa using yH h _ (XG.2 (.inr (Yf.2 ⟨_,hf,rfl⟩)))) hn.2.1 i hi).1]
   omega
  ·rintro ⟨m,x⟩ hy hm
   obtain ⟨_,h2⟩:=vU.1 (Z2.1 hy);have hx:x∈p.nodes:=XK h2;simp only at hm;rw [show ((p.ag[i].body.toNat:Nat):Int)=p.ag[i].body by omega] at hm;exact hn.2.2 _ (ZH.2 ⟨x,hx,hm⟩) _ (Yf.2 ⟨_,XF hi,rfl⟩) rfl
 ·exact a2 (i,p.nodes[i]) (Z2.2 (vU.2 ⟨Yy _,by simp⟩)) j hj
end Uw.Tryz
namespace Uw.Tryz
open Go Uw
theorem jf {p:Pg} (h:bC p=true) (i:Nat) (hi:i<p.nodes.length):(∀k∈p.nodes[i].of,0<=k/\k<(i:Int))/\eR p.nodes p.nodes[i]=true:=by
 have h1:=h;simp only [bC,Xo] at h1;have key:∀(l:List Nd) (b:Nat),jC p.nodes b l=true->∀(i:Nat) (hi:i<l.length),(∀k∈l[i].of,0<=k/\k<((b+i:Nat):Int))/\eR p.nodes l[i]=true:=by
  intro l
  induction l with
  | nil=>intro b _ i hi;simp at hi
  | cons y l ih=>
   intro b hb i hi;simp only [jC,Xo] at hb
   cases i with
   | zero=>
    have h2:=hb.1;simp only [rU,Xo,XL] at h2;exact ⟨fun k hk=>by simpa using h2.1 k hk,h2.2⟩
   | succ i=>
    obtain ⟨h3,h4⟩:=ih (b+1) hb.2 i (by simpa using hi);exact ⟨fun k hk=>by have:=h3 k hk;omega,h4⟩
 obtain ⟨h3,h4⟩:=key p.nodes 0 h1.1.1 i hi;exact ⟨fun k hk=>by have:=h3 k hk;omega,h4⟩
theorem kL {p:Pg} (h:bC p=true) (i:Nat) (hi:i<p.ag.length):0<=p.ag[i].body/\p.ag[i].body<p.nodes.length/\j8 p.nodes p.ag[i].body=18:=by
 simp only [bC,Xo,XL] at h;have:=h.1.2 _ (XF hi);simp only [mV,Xo,decide_eq_true_eq] at this;exact ⟨this.1.1,this.1.2,this.2⟩
theorem wY {p:Pg} (h:bC p=true) (k:Nat) (hk:k<p.nodes.length) (hb:∀(i:Nat) (hi:i<p.ag.length),p.ag[i].body≠(k:Int)):∃i,∃hi:i<p.nodes.length,(k:Int)∈p.nodes[i].of:=by
 have h1:=ql h k hk;have h2:(k:Int)∈iN p:=List.count_pos_iff.1 (by omega)
 rcases XG.1 h2 with h3|h3
 ·obtain ⟨x,hx,hk⟩:=ZH.1 h3
  obtain ⟨i,hi,rfl⟩:=XQ.1 hx;exact ⟨i,hi,hk⟩
 ·obtain ⟨f,hf,he⟩:=Yf.1 h3
  obtain ⟨i,hi,rfl⟩:=XQ.1 hf;exact absurd he (hb i hi)
structure Ups (p:Pg) (own:List Int):Prop where
 len:own.length=p.nodes.length
 body:∀(i:Nat) (h:i<p.ag.length) (k:Nat),k<p.nodes.length->p.ag[i].body=(k:Int)->own.getD k 0=(i:Int)
 kid:∀(i:Nat) (h:i<p.nodes.length) (k:Nat),(k:Int)∈p.nodes[i].of->own.getD k 0=own.getD i 0/\k<i
 up:∀(k:Nat),k<p.nodes.length->(∀(i:Nat) (hi:i<p.ag.length),p.ag[i].body≠(k:Int))->(∀(i:Nat) (hi:i<p.nodes.length),(k:Int)∉p.nodes[i].of)->False
theorem qm {p:Pg} (h:bC p=true):Ups p (aJ p):=by
 have ho:=owns h;refine ⟨cS p,fun i hi k hk e=>?_,fun i hi k hm=>⟨ho.kid i hi k hm,?_⟩,fun k hk h1 h2=>?_⟩
 ·have:=ho.body i hi
  rw [e] at this;simpa using this
 ·have:=(jf h i hi).1 _ hm;omega
 ·obtain ⟨i,hi,hm⟩:=wY h k hk h1
  exact h2 i hi hm
theorem zV {p:Pg} (h:bC p=true):∀(d k:Nat),k<p.nodes.length->p.nodes.length - k<=d->0<=(aJ p).getD k 0/\(aJ p).getD k 0<p.ag.length
 | 0,k,hk,hd=>by omega
 | d+1,k,hk,hd=>by
  have hu:=qm h;by_cases hb:∃(i:Nat) (hi:i<p.ag.length),p.ag[i].body=(k:Int)
  ·obtain ⟨i,hi,e⟩:=hb
   rw [hu.body i hi k hk e];omega
  ·obtain ⟨i,hi,hm⟩:=wY h k hk fun i hi e=>hb ⟨i,hi,e⟩
   obtain ⟨e,hlt⟩:=hu.kid i hi k hm;rw [e];exact zV h d i hi (by omega)
def rZ (p:Pg) (f:Int):List (Nd×Int)->List Str->List Str
 | [],l=>l
 | (x,o)::r,l=>rZ p f r (if eX p x=true/\o=f/\x.name∉l then l++[x.name] else l)
theorem Ej (ls:List (List Str)) (g f:Nat) (s:Str) (hf:f<ls.length):(addLocal ls g s).getD f []=if g=f/\s∉ls.getD f [] then ls.getD f []++[s] else ls.getD f []:=by
 unfold addLocal;by_cases hg:g=f
 ·subst hg
  by_cases hm:s∈ls.getD g []
  ·rw [if_pos hm,if_neg fun h=>h.2 hm]
  ·rw [if_neg hm,if_pos ⟨rfl,hm⟩]
   simp [List.getD,YB,hf]
 ·rw [if_neg (fun h:g=f/\s∉ls.getD f []=>hg h.1)]
  split
  ·rfl
  ·simp [List.getD,YB,hg]
theorem vV (ls:List (List Str)) (g:Nat) (s:Str):(addLocal ls g s).length=ls.length:=by
 unfold addLocal
 split<;>simp
theorem uC {p:Pg} (f:Nat):∀(r:List (Nd×Int)) (ls:List (List Str)),f<ls.length->(∀y∈r,0<=y.2)->(dZ p r ls).getD f []=rZ p f r (ls.getD f [])
 | [],ls,_,_=>rfl
 | (x,o)::r,ls,hf,h=>by
  have h0:=h (x,o) (by simp);simp only at h0;rw [dZ,rZ];by_cases hl:eX p x=true
  ·rw [if_pos hl,uC f r _ (by rw [vV];exact hf) fun y hy=>h y (by simp [hy]),Ej _ _ _ _ hf]
   congr 1
   by_cases ho:o=(f:Int)
   ·subst ho;simp [hl]
   ·rw [if_neg (by omega),if_neg (by simp [ho])]
  ·rw [if_neg hl,if_neg (by simp [hl]),uC f r ls hf fun y hy=>h y (by simp [hy])]
theorem sa {p:Pg} (h:bC p=true) (f:Nat) (hf:f<p.ag.length):(ak p).getD f []=rZ p f (p.nodes.zip (aJ p)) p.ag[f].args:=by
 rw [ak,uC f _ _ (by simpa using hf)]
 ·simp [List.getD,hf]
 ·rintro ⟨x,o⟩ hy
  obtain ⟨i,hi,he⟩:=XQ.1 hy;rw [Zw] at hi;have:=zV h _ i (by omega) (Xn _);rw [Zn] at he;injection he with e1 e2
  rw [<- e2];have e:(aJ p).getD i 0=(aJ p)[i]'(by omega):=by simp [List.getD,show i<(aJ p).length by omega]
  rw [e] at this;exact this.1
end Uw.Tryz
namespace Uw.Tryz
open Go Uw
abbrev MS:=List (nh×Dat)
theorem ft:∀(es:MS) (k x:nh) (d:Dat),aW (dx es k d) x=if x=k then some d else aW es x
 | [],k,x,d=>by
  simp only [dx,aW];by_cases h:x=k<;>simp [h]
 | (k0,v)::es,k,x,d=>by
  simp only [dx];by_cases h:k=k0
  ·subst h
   simp only [decide_true,aW];by_cases hx:x=k<;>simp [hx]
  ·simp only [decide_eq_false h,aW]
   by_cases hx:x=k0
   ·subst hx
    simp [Ne.symm h]
   ·simp only [decide_eq_false hx]
    exact ft es k x d
theorem zW:∀(es:MS) (k:nh) (d:Dat),(dx es k d).length=es.length+if (aW es k).isSome then 0 else 1
 | [],k,d=>rfl
 | (k0,v)::es,k,d=>by
  simp only [dx,aW];by_cases h:k=k0
  ·subst h;simp
  ·simp only [decide_eq_false h,Xt,zW es k d];omega
def gW (es:MS) (d:Dec):MS:=if (aW es (.s d.name)).isSome then es else dx es (.s d.name) (I d.kind)
def thE (ds:List Dec):MS:=ds.foldl gW []
theorem Ns (ds:List Dec) (d:Dec):thE (ds++[d])=gW (thE ds) d:=by rw [thE,Y0];rfl
theorem zX (es:MS) (d:Dec) (s:Str):aW (gW es d) (.s s)=(aW es (.s s)).or (if d.name=s then some (I d.kind) else none):=by
 unfold gW
 split
 ·rename_i h
  by_cases he:d.name=s
  ·subst he
   cases hm:aW es (.s d.name) with
   | none=>rw [hm] at h;cases h
   | some v=>rfl
  ·rw [if_neg he];simp
 ·rename_i h
  rw [ft];by_cases he:d.name=s
  ·subst he
   simp only [if_true]
   cases hm:aW es (.s d.name) with
   | none=>rfl
   | some v=>rw [hm] at h;simp at h
  ·rw [if_neg he,if_neg (by simp;exact fun e=>he e.symm)];simp
theorem zY:∀(ds:List Dec) (es:MS) (s:Str),aW (ds.foldl gW es) (.s s)=(aW es (.s s)).or ((ds.find? fun d=>decide (d.name=s)).map fun d=>I d.kind)
 | [],es,s=>by simp
 | d::ds,es,s=>by
  rw [YI,zY ds,zX,List.find?_cons];by_cases h:d.name=s
  ·simp [h]
  ·simp [h]
theorem wZ (p:Pg) (s:Str):aW (thE p.decls) (.s s)=(bk p s).map I:=by
 rw [thE,zY,bk]
 cases p.decls.find? fun d=>decide (d.name=s)<;>rfl
theorem Ii (es:MS) (d:Dec):(gW es d).length=es.length+if (aW es (.s d.name)).isSome then 0 else 1:=by
 unfold gW
 split
 ·simp
 ·rename_i h
  rw [zW];simp [h]
theorem zZ:∀(ds:List Dec) (es:MS),(ds.foldl gW es).length<=es.length+ds.length/\((ds.foldl gW es).length=es.length+ds.length<->(ds.map (·.name)).Nodup/\∀d∈ds,aW es (.s d.name)=none)
 | [],es=>by simp
 | d::ds,es=>by
  obtain ⟨h1,h2⟩:=zZ ds (gW es d);rw [YI];rw [Ii] at h1 h2
  cases hm:aW es (.s d.name) with
  | some v=>
   rw [hm] at h1 h2;simp only [Option.isSome_some,if_true,Yx] at h1 h2;refine ⟨by simp;omega,⟨fun h=>by simp at h;omega,fun h=>?_⟩⟩;have:=h.2 d (by simp);rw [hm] at this;cases this
  | none=>
   rw [hm] at h1 h2;simp only [Option.isSome_none,XO,if_false] at h1 h2;refine ⟨by simp;omega,?_⟩;have e:(ds.foldl gW (gW es d)).length=es.length+(d::ds).length<->(ds.foldl gW (gW es d)).length=es.length+1+ds.length:=by simp;omega
   rw [e,h2,Yk,Zv];have hg:∀s,aW (gW es d) (.s s)=(aW es (.s s)).or (if d.name=s then some (I d.kind) else none):=zX es d;constructor
   ·rintro ⟨g1,g2⟩
    refine ⟨⟨fun hmem=>?_,g1⟩,fun x hx=>?_⟩
    ·obtain ⟨x,hx,he⟩:=Yf.1 hmem
     have:=g2 x hx;rw [hg,he,if_pos rfl,hm] at this;cases this
    ·rcases XA.1 hx with rfl|hx
     ·exact hm
     ·have:=g2 x hx
      rw [hg] at this
      cases hmx:aW es (.s x.name) with
      | none=>rfl
      | some v=>rw [hmx] at this;cases this
   ·rintro ⟨⟨g0,g1⟩,g2⟩
    refine ⟨g1,fun x hx=>?_⟩;rw [hg,g2 x (by simp [hx]),if_neg (fun e=>g0 (Yf.2 ⟨x,hx,e.symm⟩))];rfl
theorem mY (p:Pg) (hp:p.decls.length<100000):bh P0 rF [.agg [.d (.slice 3 (p.decls.map cD) false),.d (.slice 3 (p.ag.map fuL) false),.d (.slice 5 (p.nodes.map ndL) false)]] [] (.hnd 0) [.map none (thE p.decls)]:=by
 have hdl:(p.decls.map cD).length=p.decls.length:=by simp
 obtain ⟨E,hE⟩:∃E:Nat->MS,∀j,E j=thE (p.decls.take j):=⟨_,fun _=>rfl⟩
 have e0:([]:MS)=E 0:=by rw [hE];rfl
 have e1:thE p.decls=E p.decls.length:=by rw [hE,XE]
 have hel:∀(j:Nat) (h:j<p.decls.length),(p.decls.map cD)[(j:Int).toNat]? = some (cD p.decls[j]):=by intro j h;simp [h]
 have hst:∀(j:Nat) (h:j<p.decls.length),((∃v,aW (E j) (.s p.decls[j].name)=some (I v))/\E j=E (j+1))\/(aW (E j) (.s p.decls[j].name)=none/\dx (E j) (.s p.decls[j].name) (I p.decls[j].kind)=E (j+1)):=by
  intro j h;have e:E (j+1)=gW (E j) p.decls[j]:=by rw [hE,hE,Xq h,Ns]
  rw [e];unfold gW
  cases hm:aW (E j) (.s p.decls[j].name) with
  | some v=>
   have:=wZ { p with decls:=p.decls.take j } p.decls[j].name;rw [<- hE] at this;rw [hm] at this
   cases ht:bk { p with decls:=p.decls.take j } p.decls[j].name with
   | none=>rw [ht] at this;cases this
   | some k=>rw [ht] at this;injection this with this;subst this;exact .inl ⟨⟨k,rfl⟩,by simp⟩
  | none=>exact .inr ⟨rfl,by simp⟩
 rw [e1];clear hE e1;refine aF yg rfl ?_
 repeat refine aw ?_
 refine cI p.decls.length (fun j:Nat=>⟨[(12,.d (I j)),(11,.d (I ((p.decls.map cD).length:Nat))),(10,.d (.slice 3 (p.decls.map cD) false)),(3,.hnd 1)],[(1,.map none (E j))],2,[],0⟩) (fun _=>True) (by rw [<- e0];exact Uw.wM) (fun _=>?_) (fun j hj _=>?_)
 ·repeat refine aw ?_
  refine aH ?_
  repeat refine aw ?_
  exact aE 0 rfl rfl (Weak.eqs [(0,1)] rfl rfl rfl rfl rfl rfl rfl rfl rfl rfl)
 have he:=hel j hj;have hs:=hst j hj;clear hel hst;generalize p.decls[j]=d at *;obtain ⟨dk,ds,dn⟩:=d;have he:(p.decls.map cD)[(j:Int).toNat]? = some [I dk,.str ds,I dn]:=he;simp only at hs
 rcases hs with ⟨⟨v,hv⟩,h2⟩|⟨hv,h2⟩
 ·repeat (first|refine aw ?_|refine m1 ?_)
  exact aK j trivial (by exact Uw.wM)
 ·repeat (first|refine aw ?_|refine m1 ?_)
  exact aK j trivial (by exact Uw.wM)
end Uw.Tryz
namespace Go.Proofs
open Go.RowKit Go.Shelf
attribute [local go_sem] Oper.semAt_some
theorem Tryz.GQ (l Bs b off len cap:Nat) (C:Nat->Value) (hreach:len<1000000) (J:Nat->World->Prop)
  (hY:∀k W1,J k W1->k<len->YieldAt Fence.wide 0 Tryz.prog l #[.int .i64 ((len - 1 - k:Nat):Int),.agg #[C ((len - 1 - k) * 5),C ((len - 1 - k) * 5+1),C ((len - 1 - k) * 5+2),C ((len - 1 - k) * 5+3),C ((len - 1 - k) * 5+4)]] W1 fun e W'=>e = .returned (.bool true)/\J (k+1) W')
  (hOK:∀k W1,J k W1->W1.cell? ⟨Bs,0,none⟩=some (.slice (some ⟨b,off,none⟩) len cap)/\∀m,m<len * 5->W1.cell? ⟨b,off+m,none⟩=some (C m))
  (W:World) (h0:J 0 W) :
  CallsIn Fence.wide 0 Tryz.prog 118 #[.func (.yield l) #[] #[],.pointer (some ⟨Bs,0,none⟩)] W fun e W'=>(∃v,e = .returned v)/\J len W':=by
 refine callsIn_of_wp Tryz.func118 rfl trivial ?_ rfl;simp only [Tryz.ntmps118,List.size_toArray,List.length_cons,List.length_nil,Nat.reduceAdd,Nat.reduceSub,Array.replicate_succ,Array.replicate_zero,List.push_toArray,List.append_toArray,List.nil_append,List.cons_append];have hB:=(hOK 0 W h0).1
 gi_wp2
 gi_loopw [3] (fun i wr=>∃k:Nat,k<=len/\i = .int .i64 ((len:Int) - 1 - k)/\J k wr) (fun i _=>(intOf i+1).toNat)
 case atStart=>exact ⟨0,Nat.zero_le _,by simp,h0⟩
 case round=>
  obtain ⟨k,hk,rfl,hJs⟩:=hrel;obtain ⟨hB2,hC⟩:=hOK k wr hJs;by_cases hlt:k<len
  ·obtain ⟨fn,tmps,assign,body,hy,hR⟩:=hY k wr hJs hlt
   have he:((len - 1 - k:Nat):Int)=(len:Int) - 1 - k:=by omega
   rw [he] at hy;have c0:wr.cell? ⟨b,off+(len - 1 - k) * 5,none⟩=some (C ((len - 1 - k) * 5)):=hC _ (by omega);have c1:wr.cell? ⟨b,off+(len - 1 - k) * 5+1,none⟩=some (C ((len - 1 - k) * 5+1)):=by have:=hC ((len - 1 - k) * 5+1) (by omega);rwa [<- Nat.add_assoc] at this
   have c2:wr.cell? ⟨b,off+(len - 1 - k) * 5+2,none⟩=some (C ((len - 1 - k) * 5+2)):=by have:=hC ((len - 1 - k) * 5+2) (by omega);rwa [<- Nat.add_assoc] at this
   have c3:wr.cell? ⟨b,off+(len - 1 - k) * 5+3,none⟩=some (C ((len - 1 - k) * 5+3)):=by have:=hC ((len - 1 - k) * 5+3) (by omega);rwa [<- Nat.add_assoc] at this
   have c4:wr.cell? ⟨b,off+(len - 1 - k) * 5+4,none⟩=some (C ((len - 1 - k) * 5+4)):=by have:=hC ((len - 1 - k) * 5+4) (by omega);rwa [<- Nat.add_assoc] at this
   gi_wp2
   refine ⟨rfl,hR.mono ?_⟩;rintro e W3 ⟨rfl,hJ3⟩
   gi_wp2
   go_roundw
   case rel=>exact ⟨k+1,by omega,by simp;omega,hJ3⟩
   case measure=>simp [intOf];omega
  ·obtain rfl:k=len:=by omega
   gi_wp2
   go_end0
   exact ⟨⟨_,rfl⟩,hJs⟩
theorem Tryz.Ek (l Bs:Nat) (x:Option Addr) (J:Nat->World->Prop) (hOK:∀k W1,J k W1->W1.cell? ⟨Bs,0,none⟩=some (.slice x 0 0)) (W:World) (h0:J 0 W) :
  CallsIn Fence.wide 0 Tryz.prog 118 #[.func (.yield l) #[] #[],.pointer (some ⟨Bs,0,none⟩)] W fun e W'=>(∃v,e = .returned v)/\J 0 W':=by
 refine callsIn_of_wp Tryz.func118 rfl trivial ?_ rfl;simp only [Tryz.ntmps118,List.size_toArray,List.length_cons,List.length_nil,Nat.reduceAdd,Nat.reduceSub,Array.replicate_succ,Array.replicate_zero,List.push_toArray,List.append_toArray,List.nil_append,List.cons_append];have hB:=hOK 0 W h0
 gi_wp2
 gi_loopw [3] (fun i wr=>i = .int .i64 (-1)/\J 0 wr) (fun i _=>0)
 case atStart=>exact ⟨rfl,h0⟩
 case round=>
  obtain ⟨rfl,hJs⟩:=hrel
  gi_wp2
  go_end0
  exact ⟨⟨_,rfl⟩,hJs⟩
end Go.Proofs
namespace Uw.Tryz
open Go Uw Go.RowKit
theorem GR {w:World} {J:Nat->Nat->Prop} {b k:Nat}:∀{xs:List (List Dat)} {o:Nat},ct w J b k o xs->∀(i:Nat) (h:i<xs.length),dy w J b (o+i * k) xs[i]
 | x::xs,o,h,0,hi=>by simpa using h.2.1
 | x::xs,o,h,i+1,hi=>by
  have:=GR h.2.2 i (by simpa using hi);rw [show o+(i+1) * k=o+k+i * k by rw [XU];omega];exact this
structure lU (ns:List Nd) (b off:Nat) (C:Nat->Value) (c:Cx):Prop where
 rel:∀(i:Nat) (h:i<ns.length),dy c.w (Imm c) b (off+i * 5) (ndL ns[i])
 cell:∀m,m<ns.length * 5->c.w.cell? ⟨b,off+m,none⟩=some (C m)
 imm:∀m,m<ns.length * 5->Imm c b (off+m)
theorem lU.of [Glob] {ns:List Nd} {b off:Nat} {c:Cx} (h:∀(i:Nat) (h:i<ns.length),dy c.w (Imm c) b (off+i * 5) (ndL ns[i])):lU ns b off (fun m=>(c.w.cell? ⟨b,off+m,none⟩).getD undef) c:=by
 have key:∀m,m<ns.length * 5->(∃v,c.w.cell? ⟨b,off+m,none⟩=some v)/\Imm c b (off+m):=by
  intro m hm;have hi:m / 5<ns.length:=by omega
  obtain ⟨⟨v0,a0,i0,_⟩,⟨v1,a1,i1,_⟩,⟨v2,a2,i2,_⟩,⟨v3,a3,i3,_⟩,⟨v4,a4,i4,_⟩,_⟩:=h (m / 5) hi;have hm5:m % 5=0\/m % 5=1\/m % 5=2\/m % 5=3\/m % 5=4:=by omega
  rcases hm5 with e|e|e|e|e
  ·rw [show off+m=off+m / 5 * 5 by omega];exact ⟨⟨v0,a0⟩,i0⟩
  ·rw [show off+m=off+m / 5 * 5+1 by omega];exact ⟨⟨v1,a1⟩,i1⟩
  ·rw [show off+m=off+m / 5 * 5+1+1 by omega];exact ⟨⟨v2,a2⟩,i2⟩
  ·rw [show off+m=off+m / 5 * 5+1+1+1 by omega];exact ⟨⟨v3,a3⟩,i3⟩
  ·rw [show off+m=off+m / 5 * 5+1+1+1+1 by omega];exact ⟨⟨v4,a4⟩,i4⟩
 refine ⟨h,fun m hm=>?_,fun m hm=>(key m hm).2⟩;obtain ⟨v,hv⟩:=(key m hm).1;rw [hv];rfl
theorem lU.agg [Glob] {ns:List Nd} {b off:Nat} {C:Nat->Value} {c:Cx} (h:lU ns b off C c) (i:Nat) (hi:i<ns.length):aD c.w (Imm c) (.agg (ndL ns[i])) (.agg #[C (i * 5),C (i * 5+1),C (i * 5+2),C (i * 5+3),C (i * 5+4)]):=by
 obtain ⟨⟨v0,a0,_,_,r0⟩,⟨v1,a1,_,_,r1⟩,⟨v2,a2,_,_,r2⟩,⟨v3,a3,_,_,r3⟩,⟨v4,a4,_,_,r4⟩,_⟩:=h.rel i hi;have e:∀(m:Nat) (v:Value),m<5->c.w.cell? ⟨b,off+i * 5+m,none⟩=some v->v=C (i * 5+m):=by
  intro m v hm hv;have:=h.cell (i * 5+m) (by omega);rw [<- Yj,hv] at this;injection this
 obtain rfl:=e 0 v0 (by omega) a0;obtain rfl:=e 1 v1 (by omega) a1;obtain rfl:=e 2 v2 (by omega) a2;obtain rfl:=e 3 v3 (by omega) a3;obtain rfl:=e 4 v4 (by omega) a4;exact ⟨_,rfl,_,_,rfl,r0,_,_,rfl,r1,_,_,rfl,r2,_,_,rfl,r3,_,_,rfl,r4,rfl⟩
def Jt (ns:List Nd) (b off:Nat) (C:Nat->Value):Fr where
 K:=0
 p:=lU ns b off C
 ok:=fun c c' he h=>⟨fun i hi=>dy.keep he.keeps _ _ _ (h.rel i hi),fun m hm=>((he.keeps b _ (h.imm m hm)).2).trans (h.cell m hm),fun m hm=>(he.keeps b _ (h.imm m hm)).1⟩
end Uw.Tryz
namespace Uw.Tryz
open Go Uw Go.RowKit
abbrev pgV (p:Pg):Blk:=.var [.d (.slice 3 (p.decls.map cD) false),.d (.slice 3 (p.ag.map fuL) false),.d (bY p.nodes)]
abbrev owR:fk:=[(3,.ptr 2 0),(1,.ptr 0 0)]
abbrev owH (p:Pg) (o:List (List Dat)):Heap:=[(2,.var [.ref 1 0 0 p.nodes.length]),(1,.mt 1 0 o),(0,pgV p)]
def owF (p:Pg) (j:Nat):List Int:=rV (p.ag.take j) 0 (List.replicate p.nodes.length 0)
theorem CN:∀(fs:List Fu) (f:Fu) (b:Nat) (o:List Int),rV (fs++[f]) b o=(rV fs b o).set f.body.toNat ((b+fs.length:Nat):Int)
 | [],f,b,o=>by simp [rV]
 | g::fs,f,b,o=>by
  rw [Xv,rV,rV,CN fs f]
  congr 2
  simp;omega
theorem Ju (p:Pg) (j:Nat):(owF p j).length=p.nodes.length:=by rw [owF,vT];simp
theorem Nu (p:Pg) (j:Nat) (h:j<p.ag.length):owF p (j+1)=(owF p j).set p.ag[j].body.toNat (j:Int):=by
 rw [owF,owF,Xq h,CN];simp;congr 1;omega
theorem Em {o:List Int} {k:Int} (h:k.toNat<o.length):∃c,(fc o)[0+k.toNat]? = some [I c]/\c=o.getD k.toNat 0:=by
 refine ⟨o.getD k.toNat 0,?_,rfl⟩;rw [Xy,fc,Yv,Xw h];simp [List.getD,h]
theorem GU {o:List Int} {k:Nat} {c v:Int}:(fc o).set (0+k) (setAt [I c] 0 [I v])=fc (o.set k v):=by
 rw [Xy,fc,fc,Z1];rfl
def owK (p:Pg) (k:Nat):List Int:=fN ((idx 0 p.nodes).reverse.take k) (owF p p.ag.length)
theorem P2 (p:Pg) (k:Nat):(owK p k).length=p.nodes.length:=by rw [owK,rY,Ju]
theorem vW:∀(l:List (Nat×Nd)) (y:Nat×Nd) (o:List Int),fN (l++[y]) o=il (fN l o) y.1 y.2
 | [],y,o=>rfl
 | x::l,y,o=>by rw [Xv,fN,fN,vW l]
theorem vX {α:Type}:∀(l:List α) (b:Nat),(idx b l).length=l.length
 | [],_=>rfl
 | x::l,b=>by rw [idx,Xt,Xt,vX l]
theorem Jv {α:Type}:∀(l:List α) (b i:Nat) (h:i<l.length),(idx b l)[i]'(by rw [vX];exact h)=(b+i,l[i])
 | x::l,b,0,h=>rfl
 | x::l,b,i+1,h=>by
  have:=Jv l (b+1) i (by simpa using h);simp only [idx,aal];rw [this,show b+1+i=b+(i+1) by omega]
theorem Nv (p:Pg) (k:Nat) (h:k<p.nodes.length):owK p (k+1)=il (owK p k) (p.nodes.length - 1 - k) p.nodes[p.nodes.length - 1 - k]:=by
 have hl:((idx 0 p.nodes).reverse).length=p.nodes.length:=by rw [List.length_reverse,vX]
 rw [owK,owK,Xq (by rw [hl];exact h),vW,List.getElem_reverse];have:=Jv p.nodes 0 (p.nodes.length - 1 - k) (by omega);simp only [vX];rw [this];simp
theorem P3 (p:Pg):owK p p.nodes.length=aJ p:=by
 rw [owK,aJ,XB (by rw [List.length_reverse,vX];exact Xn _),owF,XB (Xn _)]
theorem VZ (p:Pg):WT P0 (fun e s=>e = .normal/\Weak s ⟨[(1,.ptr 0 0)],[(0,pgV p)],1,[],0⟩) (exec nK (kV [pgD p]) Tree.done):=by
 repeat refine aw ?_
 refine aX ⟨rfl,?_⟩;exact Uw.wM
theorem V0 (p:Pg) (hn:p.nodes.length<100000):WT P0 (fun e s=>e = .normal/\Weak s ⟨owR,owH p (fc (owF p 0)),3,[],0⟩) (exec nM ⟨[(1,.ptr 0 0)],[(0,pgV p)],1,[],0⟩ Tree.done):=by
 have hnl:(p.nodes.map ndL).length=p.nodes.length:=by simp
 have e0:List.replicate (((p.nodes.map ndL).length:Nat):Int).toNat [I 0]=fc (owF p 0):=by
  rw [owF,Z8,rV,fc,List.map_replicate,hnl];simp
 have hmk:(decide ((0:Int)<=((p.nodes.map ndL).length:Nat))&&decide ((((p.nodes.map ndL).length:Nat):Int)<=((p.nodes.map ndL).length:Nat))&&decide ((((p.nodes.map ndL).length:Nat):Int) * ((8:Nat):Int)<=70368744177664))=true:=by simp;omega
 generalize fc (owF p 0)=O at *
 repeat refine aw ?_
 refine aX ⟨rfl,?_⟩;rw [<- e0];exact Uw.wM
theorem V1 (p:Pg) (hp:Lim p) (hb:∀(i:Nat) (h:i<p.ag.length),0<=p.ag[i].body/\p.ag[i].body<p.nodes.length):WT P0 (fun e s=>e = .normal/\Weak s ⟨owR,owH p (fc (owF p p.ag.length)),3,[],0⟩) (exec nN ⟨owR,owH p (fc (owF p 0)),3,[],0⟩ Tree.done):=by
 have hfl:(p.ag.map fuL).length=p.ag.length:=by simp
 have hF:=hp.ag;have hN:=hp.nodes;obtain ⟨O,hO⟩:∃O:Nat->List (List Dat),∀j,O j=fc (owF p j):=⟨_,fun _=>rfl⟩
 have hstep:∀(j:Nat) (h:j<p.ag.length),∃c:Int,(O j)[0+p.ag[j].body.toNat]? = some [I c]/\(O j).set (0+p.ag[j].body.toNat) (setAt [I c] 0 [I j])=O (j+1):=by
  intro j h;have:=hb j h;obtain ⟨c,g1,g2⟩:=Em (o:=owF p j) (k:=p.ag[j].body) (by rw [Ju];omega);exact ⟨c,by rw [hO];exact g1,by rw [hO,hO,GU,Nu p j h]⟩
 have hel:∀(j:Nat) (h:j<p.ag.length),(p.ag.map fuL)[(j:Int).toNat]? = some (fuL p.ag[j]):=by intro j h;simp [h]
 rw [<- hO,<- hO]
 repeat refine aw ?_
 refine cI p.ag.length (fun j:Nat=>⟨[(17,.d (I j)),(16,.d (I ((p.ag.map fuL).length:Nat))),(15,.d (.slice 3 (p.ag.map fuL) false)),(3,.ptr 2 0),(1,.ptr 0 0)],owH p (O j),3,[],0⟩) (fun _=>True) (by exact Uw.wM) (fun _=>?_) (fun j hj _=>?_)
 ·repeat refine aw ?_
  refine aH ?_;refine aX ⟨rfl,?_⟩;exact Uw.wM
 have he:=hel j hj;have hs:=hstep j hj;have hbj:=hb j hj;clear hstep hel hO hb;generalize p.ag[j]=f at *;obtain ⟨fn,fa,fb⟩:=f;have he:(p.ag.map fuL)[(j:Int).toNat]? = some [.str fn,fS fa,I fb]:=he;obtain ⟨c,g1,g2⟩:=hs;simp only at *;obtain ⟨b1,b2⟩:=hbj
 repeat refine aw ?_
 exact aK j trivial (by exact Uw.wM)
theorem V2 (p:Pg) (o:List (List Dat)):WT P0 (fun e s=>e = .normal/\Weak s ⟨[(30,.func dp [] [.ptr 3 0]),(3,.ptr 2 0),(1,.ptr 0 0)],(3,.var [.d (bY p.nodes)])::owH p o,4,[],0⟩) (exec nO ⟨owR,owH p o,3,[],0⟩ Tree.done):=by
 repeat refine aw ?_
 refine dr uo rfl ?_
 repeat refine aw ?_
 refine dJ rfl rfl ?_
 repeat refine aw ?_
 refine aX ⟨rfl,?_⟩;exact Uw.wM
end Uw.Tryz
namespace Uw.Tryz
open Go Uw Go.RowKit
abbrev owS (p:Pg) (k:Nat):St:=⟨owR,owH p (fc (owK p k)),3,[],0⟩
def owN (p:Pg) (k:Nat):Nd:=p.nodes.getD (p.nodes.length - 1 - k) default
abbrev owP (p:Pg) (k:Nat):fk:=[(32,.d (.agg (ndL (owN p k)))),(31,.d (I ((p.nodes.length - 1 - k:Nat):Int)))]
theorem V3 (p:Pg) (hp:Lim p) (k:Nat) (hk:k<p.nodes.length) (hx:∀j∈(owN p k).of,0<=j/\j<((p.nodes.length - 1 - k:Nat):Int)) :
  WT P0 (fun e s=>e = .normal/\WT P0 (fun e s'=>e = .normal/\s'.defers=[]/\Weak ⟨owR,s'.heap,s'.next,[],0⟩ (owS p (k+1))) (exec gq s Tree.done)) (exec eP ⟨owP p k++owR,(owS p k).heap,(owS p k).next,[],(owS p k).next⟩ Tree.done):=by
 have hlim:=hp.of (owN p k) (by rw [owN];simp [List.getD,show p.nodes.length - 1 - k<p.nodes.length by omega]);have hN:=hp.nodes;obtain ⟨i,hi⟩:∃i,p.nodes.length - 1 - k=i:=⟨_,rfl⟩
 have hin:i<p.nodes.length:=by omega
 have hnext:owK p (k+1)=il (owK p k) i (owN p k):=by
  rw [Nv p k hk,owN];simp [List.getD,hi,hin]
 rw [hi] at hx;obtain ⟨B,hB⟩:∃B:Nat->List Int,∀j,B j=((owN p k).of.take j).foldl (fun o k=>o.set k.toNat (o.getD i 0)) (owK p k):=⟨_,fun _=>rfl⟩
 obtain ⟨O,hO⟩:∃O:Nat->List (List Dat),∀j,O j=fc (B j):=⟨_,fun _=>rfl⟩
 have hBl:∀j,(B j).length=p.nodes.length:=fun j=>by rw [hB,sJ,P2]
 have e0:fc (owK p k)=O 0:=by rw [hO,hB];rfl
 have e1:fc (owK p (k+1))=O (owN p k).of.length:=by rw [hO,hB,XE,hnext];rfl
 have hstep:∀(j:Nat) (h:j<(owN p k).of.length),∃u v:Int,(O j)[0+(i:Int).toNat]? = some [I u]/\(O j)[0+(owN p k).of[j].toNat]? = some [I v]/\(O j).set (0+(owN p k).of[j].toNat) (setAt [I v] 0 [I u])=O (j+1):=by
  intro j h;have h1:=hx _ (XF h);obtain ⟨u,u1,u2⟩:=Em (o:=B j) (k:=(i:Int)) (by rw [hBl];omega);obtain ⟨v,v1,v2⟩:=Em (o:=B j) (k:=(owN p k).of[j]) (by rw [hBl];omega);refine ⟨u,v,by rw [hO];exact u1,by rw [hO];exact v1,?_⟩;rw [hO,hO,GU,hB (j+1),Xq h,Y0,<- hB,u2];rfl
 have hel:∀(j:Nat) (h:j<(owN p k).of.length),((owN p k).of.map fun i=>[I i])[(j:Int).toNat]? = some [I (owN p k).of[j]]:=by intro j h;simp [h]
 have hol:((owN p k).of.map fun i=>[I i]).length=(owN p k).of.length:=by simp
 have hlt:∀(j:Nat) (h:j<(owN p k).of.length),0<=(owN p k).of[j]/\(owN p k).of[j]<(i:Int):=fun j h=>hx _ (XF h);have goal2:∀T0 T1:List (List Dat),fc (owK p k)=T0->fc (owK p (k+1))=T1->(WT P0 (fun e s=>e = .normal/\WT P0 (fun e s'=>e = .normal/\s'.defers=[]/\Weak ⟨owR,s'.heap,s'.next,[],0⟩ ⟨owR,owH p T1,3,[],0⟩) (exec gq s Tree.done)) (exec eP ⟨[(32,.d (.agg (ndL (owN p k)))),(31,.d (I (i:Int)))]++owR,owH p T0,3,[],3⟩ Tree.done))->
   WT P0 (fun e s=>e = .normal/\WT P0 (fun e s'=>e = .normal/\s'.defers=[]/\Weak ⟨owR,s'.heap,s'.next,[],0⟩ (owS p (k+1))) (exec gq s Tree.done)) (exec eP ⟨owP p k++owR,(owS p k).heap,(owS p k).next,[],(owS p k).next⟩ Tree.done):=by
  intro T0 T1 h0 h1 h;rw [<- h0,<- h1,<- hi] at h;exact h
 refine goal2 _ _ e0 e1 ?_;clear goal2 hB hO hBl hnext hx e0 e1;generalize owN p k=x at *;obtain ⟨xk,xn,xs,xt,xo⟩:=x;simp only at *;show WT P0 _ (exec eP ⟨[(32,.d (.agg [I xk,I xn,.str xs,.str xt,cG xo])),(31,.d (I (i:Int)))]++owR,owH p (O 0),3,[],3⟩ Tree.done)
 repeat refine aw ?_
 refine aX ⟨rfl,?_⟩
 repeat refine aw ?_
 refine cI xo.length (fun j:Nat=>⟨[(36,.d (I j)),(35,.d (I ((xo.map fun i=>[I i]).length:Nat))),(34,.d (cG xo)),(6,.d (I i)),(3,.ptr 2 0),(1,.ptr 0 0)],owH p (O j),3,[],3⟩) (fun _=>True) (by exact Uw.wM) (fun _=>?_) (fun j hj _=>?_)
 ·repeat refine aw ?_
  refine aH ?_;refine aX ⟨rfl,rfl,?_⟩;exact Uw.wM
 have he:=hel j hj;have hs:=hstep j hj;have hbj:=hlt j hj;clear hstep hel hlt;generalize xo[j]=y at *;obtain ⟨u,v,g1,g2,g3⟩:=hs;obtain ⟨b1,b2⟩:=hbj
 repeat refine aw ?_
 exact aK j trivial (by exact Uw.wM)
theorem Nw {c:Cx} {R:fk} {t:Array Value} {d:Nat} {v:V} {x:Value} (hr:lL c R t) (hd:d<t.size) (hv:ay c v x):lL c ((d,v)::R) (t.setIfInBounds d x):=by
 intro i u hu;rw [ai] at hu;by_cases hi:d=i
 ·subst hi
  rw [if_pos rfl] at hu;injection hu with hu;subst hu
  rw [Ys,Array.getElem?_setIfInBounds_self_of_lt hd];exact hv
 ·rw [if_neg hi] at hu
  rw [Ys,Array.getElem?_setIfInBounds_ne hi,<- Ys];exact hr i u hu
theorem GV (p:Pg) (hf:bC p=true) (hp:Lim p) {c1:Cx} {w00:World} {a:Act} {gs:Fr} {Bs:Nat} {C:Nat->Value} {OK:World->Prop} (hg:a.eval (.tmp 30) = .func (.func dp) #[] #[.pointer (some ⟨Bs,0,none⟩)])
  (hgs:∀c:Cx,gs.p c->∀(i:Nat) (h:i<p.nodes.length),aD c.w (Imm c) (.agg (ndL p.nodes[i])) (.agg #[C (i * 5),C (i * 5+1),C (i * 5+2),C (i * 5+3),C (i * 5+4)]))
  (hOK:∀c:Cx,gs.p c->(∀b,c1.J0.X b->c.w.heap[b]? = c1.w.heap[b]?)->OK c.w)
  (hit:Iter P0 dp #[.pointer (some ⟨Bs,0,none⟩)] (fun k=>#[.int .i64 ((p.nodes.length - 1 - k:Nat):Int),.agg #[C ((p.nodes.length - 1 - k) * 5),C ((p.nodes.length - 1 - k) * 5+1),C ((p.nodes.length - 1 - k) * 5+2),C ((p.nodes.length - 1 - k) * 5+3),C ((p.nodes.length - 1 - k) * 5+4)]]) p.nodes.length OK)
  (r:Rel c1 w00 49 gs (owS p 0) a) {Q:Exit->Act->World->Prop} (hdone:∀(c:Cx),c.B=c1.B->c.J0=(c1.others fun b=>b=c1.w.heap.size\/b=c1.w.heap.size+1).J0->Rel c c.w 49 gs (owS p p.nodes.length) a->Below c1.B c1.w c.w->c.w.heap[c1.w.heap.size]? = some (.deferred (some []))->
   Q .normal { a with defers:={ target:=.collected c1.w.heap.size,args:=#[] }::a.defers } c.w):(Code.rangeFunc (.tmp 30) #[31,32] (cL (cL (cR (cL (cR (cR (cR (gC P0 bp)))))))) (cR (cL (cR (cL (cR (cR (cR (gC P0 bp))))))))).wp P0 Q a c1.w:=by
 have hN:=hp.nodes;have hat:∀(k:Nat) (h:k<p.nodes.length),owN p k=p.nodes[p.nodes.length - 1 - k]'(by omega):=fun k h=>by rw [owN];simp [List.getD,show p.nodes.length - 1 - k<p.nodes.length by omega]
 refine MO hg (Go.Proofs.enters_of Go.Proofs.Tryz.func118 (by kernel_rfl) rfl) p.nodes.length _ (fun k=>rfl) owR 0 (owS p) (fun k=>⟨rfl,rfl,rfl⟩) r OK hOK hit vD vE (by kernel_rfl) (by kernel_rfl) (owP p) ?_ ?_ hdone
 ·intro k c hk hgp hr
  have hsz:a.tmps.size=49:=r.size;have h1:ay c (.d (I ((p.nodes.length - 1 - k:Nat):Int))) (.int .i64 ((p.nodes.length - 1 - k:Nat):Int)):=by
   show aD _ _ _ _;simp only [aD]
  have h2:=hgs c hgp (p.nodes.length - 1 - k) (by omega);rw [<- hat k hk] at h2;have he:∀(x1 x2:Value),(#[31,32].zip #[x1,x2]).foldl (fun t ((p,v):Nat×Value)=>t.setIfInBounds p v) a.tmps=(a.tmps.setIfInBounds 31 x1).setIfInBounds 32 x2:=fun _ _=>by simp only [List.zip_toArray,List.foldl_toArray];rfl
  show lL c (owP p k++owR) ((#[31,32].zip #[_,_]).foldl (fun t ((p,v):Nat×Value)=>t.setIfInBounds p v) a.tmps);rw [he];exact Nw (Nw hr (show 31<a.tmps.size by omega) h1) (show 32<(a.tmps.setIfInBounds 31 _).size by simp;omega) (v:=.d (.agg (ndL (owN p k)))) h2
 ·intro k hk
  refine V3 p hp k hk ?_;rw [hat k hk];exact (jf hf _ (by omega)).1
theorem mZ (p:Pg) (hf:bC p=true) (hp:Lim p):Ret P0 bp [pgD p] (cG (aJ p)):=by
 have hN:=hp.nodes;refine J9 yh (XI rfl) ?_;rintro fn w J c a hres hB hJ rfl hd r;refine yx vz r _ (VZ p) ?_;intro c2 a2 b2 j2 r2;refine yx vA r2 _ (V0 p hN) ?_;intro c3 a3 b3 j3 r3;refine yx vB r3 _ (V1 p hp fun i h=>⟨(kL hf i h).1,(kL hf i h).2.1⟩) ?_;intro c4 a4 b4 j4 r4;refine wp_seq (yx vC r4 _ (V2 p _) ?_);intro c5 a5 b5 j5 r5;have hB5:c5.B=c.w.heap.size:=b5.trans (b4.trans (b3.trans (b2.trans hB)));have hJ5:c5.J0=⟨J,fun _=>False⟩:=j5.trans (j4.trans (j3.trans (j2.trans hJ)));have hd5:a5.defers=[]:=r5.defers
 -- the iterator's value,and its box
 obtain ⟨us,vs,hfv,hus,hvs⟩:=r5.regs 30 (.func dp [] [.ptr 3 0]) rfl;obtain ⟨v,vs',rfl,⟨_,hv⟩,hvs'⟩:=hvs;simp only [av] at hus hvs';subst hus hvs' hv;obtain ⟨ws,e,hbox,hbv⟩:=r5.hrel.blk 3 (.var [.d (bY p.nodes)]) (by rw [r5.heap];rfl);obtain ⟨sv,ws',hws,hsv,U7⟩:=hbv;simp only [av] at U7;subst U7;have hws:ws = #[sv]:=by rw [<- Array.toList_inj];exact hws
 subst hws
 -- the box is forgotten,and nobody's from here on
 have hwk:xE (c6 []) ⟨[(30,.func dp [] [.ptr 3 0]),(3,.ptr 2 0),(1,.ptr 0 0)],(3,.var [.d (bY p.nodes)])::owH p (fc (owF p p.ag.length)),4,[],0⟩ (owS p 0):=by
  refine xE.of ?_ ?_ rfl rfl ?_ rfl rfl<;>repeat' first|exact trivial|refine ⟨⟨_,rfl,?_⟩,?_⟩|exact Or.inl ⟨rfl,rfl⟩|exact dL rfl rfl|refine ⟨⟨Or.inl ⟨_,rfl,?_⟩,rfl⟩,?_⟩|refine And.intro ?_ ?_
 obtain ⟨r6,hgb⟩:=r5.forget hwk (id0:=3) rfl rfl;have hBs:(c5.pl 3).gb<c5.w.heap.size:=(YC.1 hbox).1;have hBB:c5.B<=(c5.pl 3).gb:=by
  have:=r5.hrel.ge 3 (.var [.d (bY p.nodes)]) (by rw [r5.heap];rfl) trivial;exact Zb fun h=>this (.inl h)
 have r7:=r6.others (fun b=>b=(c5.pl 3).gb) (fun b hb=>by subst hb;exact hBs) (fun b hb id blk hl hp=>by subst hb;exact hgb id blk hl hp);generalize hBe:(c5.pl 3).gb=Bs at *;obtain ⟨c7,hc7⟩:∃c7,c7=(c5.weak (c6 []) (owS p 0).heap).others (fun b=>b=Bs):=⟨_,rfl⟩
 rw [<- hc7] at r7;have hw7:c7.w=c5.w:=by rw [hc7];rfl
 have hB7:c7.B=c.w.heap.size:=by rw [hc7];exact hB5
 have hJ7:c7.J0=⟨fun b o=>J b o\/b=Bs,fun b=>False\/b=Bs⟩:=by
  rw [hc7];show (⟨fun b o=>c5.J0.J b o\/b=Bs,fun b=>c5.J0.X b\/b=Bs⟩:JX)=_;rw [hJ5]
 have V4:aD c7.w (Imm c7) (bY p.nodes) sv:=by
  have h1:aD c5.w (Imm c5) (bY p.nodes) sv:=hsv;have hk:Keeps c5.w c7.w (Imm c5) (Imm c7):=by
   intro b o hi;rw [hc7];have h2:=iV (c:=c5) (ρ:=c6 []) (h':=(owS p 0).heap) (by rw [r5.heap];exact hwk.heap) b o hi;exact (Evo.others (c:=c5.weak (c6 []) (owS p 0).heap) (fun b=>b=Bs)).keeps b o h2.1
  exact aD.keep hk _ _ h1
 have Q7:c7.w.heap[Bs]? = some (.cells #[sv] e (0,0)):=by rw [hw7];exact hbox
 rw [<- hw7];have hbel:Below c.w.heap.size c.w c7.w:=by
  have:=r5.hrel.below;rw [hB5] at this;rw [hw7];exact this
 have hfin:∀(gs:Fr) (cc:Cx),cc.B=c7.B->cc.J0=(c7.others fun b=>b=c7.w.heap.size\/b=c7.w.heap.size+1).J0->Rel cc cc.w 49 gs (owS p p.nodes.length) a5->Below c7.B c7.w cc.w->cc.w.heap[c7.w.heap.size]? = some (.deferred (some []))->
   Code.wp P0 (cR (cR (cR (cR (gC P0 bp))))) (bodyPostM Fence.wide 0 P0 fn (Pz c.w J (cG (aJ p)))) { a5 with defers:={ target:=.collected c7.w.heap.size,args:=#[] }::a5.defers } cc.w:=by
  intro gs cc e1 e2 r8 e3 e4;have hX:∀b,cc.J0.X b->c.w.heap.size<=b:=by
   intro b hb;rw [e2] at hb;have hs7:=hbel.size
   rcases hb with hb|hb|hb
   ·rw [hJ7] at hb
    rcases hb with hb|hb
    ·exact hb.elim
    ·rw [hb,<- hB5];exact hBB
   ·rw [hb];exact hs7
   ·rw [hb];omega
  refine SJ hres vF r8 hd5 (e1.trans hB7) (by rw [e2];exact .inr (.inl rfl)) hX ?_ e4 (hbel.trans (by rw [hB7] at e3;exact e3)) ?_
  ·intro b o hb
   rw [e2] at hb ⊢
   rcases hb with hb|hb
   ·rw [hJ7] at hb
    rcases hb with hb|hb
    ·exact .inl hb
    ·exact .inr (.inl (by rw [hJ7];exact .inr hb))
   ·exact .inr (.inr hb)
  ·have hl:(List.drop 0 (fc (aJ p))).take p.nodes.length=fc (aJ p):=by
    rw [XX,XB (by rw [fc,XJ,cS];exact Xn _)]
   rw [<- P3] at hl ⊢;show WT P0 (Dx _ (.slice 1 (fc (owK p p.nodes.length)) false)) (exec nP ⟨owR,owH p (fc (owK p p.nodes.length)),3,[],0⟩ Tree.done);generalize fc (owK p p.nodes.length)=O at *
   repeat refine aw ?_
   refine aC rfl rfl rfl rfl ?_;exact congrArg (fun l=>Dat.slice 1 l false) hl
 have hg:a5.eval (.tmp 30) = .func (.func dp) #[] #[.pointer (some ⟨Bs,0,none⟩)]:=hfv;refine wp_block ?_
 rcases V4 with ⟨⟨x,hx,_⟩,hnil⟩|⟨b,off,cap,hx,hcap,_,hel⟩
 ·-- no nodes
  have hn0:p.nodes=[]:=by simpa using hnil
  refine GV p hf hp (gs:=Fr.none) (C:=fun _=>undef) (OK:=fun W=>W.cell? ⟨Bs,0,none⟩=some (.slice x 0 0)) hg (fun c _ i h=>by rw [hn0] at h;simp at h) ?_ ?_ r7 ?_
  ·intro c' _ hX
   have:=hX Bs (by rw [hJ7];exact .inr rfl);rw [World.cell?_of_block this];unfold World.cell?;rw [Q7,hx];rfl
  ·intro l J' W hY SZ h0
   rw [hn0];exact Go.Proofs.Tryz.Ek l Bs x J' SZ W h0
  ·intro cc e1 e2 r8 e3 e4
   exact hfin _ cc e1 e2 r8 e3 e4
 ·have hlen:(p.nodes.map ndL).length=p.nodes.length:=by simp
  have hat:lU p.nodes b off (fun m=>(c7.w.cell? ⟨b,off+m,none⟩).getD undef) c7:=lU.of fun i h=>by
   have:=GR hel i (by rw [hlen];exact h);simpa using this
  generalize (fun m=>(c7.w.cell? ⟨b,off+m,none⟩).getD undef)=C at hat;have r8:Rel c7 c5.w 49 (Jt p.nodes b off C) (owS p 0) a5:=by
   rw [<- hw7];exact ⟨r7.heap,by rw [hw7];exact r7.hrel,r7.size,r7.regs,hat,Yy _,r7.base,r7.defers⟩
  refine GV p hf hp (gs:=Jt p.nodes b off C) (C:=C) (OK:=fun W=>W.cell? ⟨Bs,0,none⟩=some (.slice (some ⟨b,off,none⟩) p.nodes.length cap)/\∀m,m<p.nodes.length * 5->W.cell? ⟨b,off+m,none⟩=some (C m)) hg (fun c h i hi=>lU.agg h i hi) ?_ ?_ r8 ?_
  ·intro c' hc' hX
   refine ⟨?_,fun m hm=>lU.cell hc' m hm⟩;have:=hX Bs (by rw [hJ7];exact .inr rfl);rw [World.cell?_of_block this];unfold World.cell?;rw [Q7,hx,hlen];rfl
  ·intro l J' W hY SZ h0
   exact Go.Proofs.Tryz.GQ l Bs b off p.nodes.length cap C (by omega) J' hY SZ W h0
  ·intro cc e1 e2 r9 e3 e4
   exact hfin _ cc e1 e2 r9 e3 e4
end Uw.Tryz
namespace Uw
open Go
mutual
theorem P4:∀v:V,v.ren (c6 [])=v
 | .ptr id o=>rfl
 | .l9 id v i c=>rfl
 | .ref id v o l=>rfl
 | .agg cs=>by rw [V.ren,pv cs]
 | .func f fs cs=>by rw [V.ren,pv fs,pv cs]
 | .tuple cs=>by rw [V.ren,pv cs]
 | .d x=>rfl
 | .ro cs o=>rfl
 | .hnd id=>rfl
 | .row id len=>rfl
 | .undef=>rfl
theorem pv:∀l:List V,fx (c6 []) l=l
 | []=>rfl
 | v::r=>by rw [fx,P4 v,pv r]
end
section
variable [Glob]
theorem Weak.looks {R R' : fk} {H H' : Heap} {n n' b:Nat} (h1:od (c6 []) R H H' R') (h2:∀id x,look H' id=some x->look H id=some x/\x.closed H' = true/\id<n') (h3:b<=n') (h4:∀id,id<b->(look H id).isSome=true->(look H' id).isSome=true):Weak ⟨R,H,n,[],b⟩ ⟨R',H',n',[],b⟩:=by
 refine ⟨c6 [],fun i v h=>jU h1 i v h,fun i x h=>.inl ⟨x,(h2 i x h).1,dL ?_ (h2 i x h).2.1⟩,fun i x h=>(h2 i x h).2.2,rfl,h3,fun id hid=>⟨rfl,h4 id hid⟩,fun id id' _ _ he=>he,rfl,rfl⟩
 cases x with
 | var cs=>show Blk.var cs=Blk.var (fx (c6 []) cs);rw [pv]
 | _=>rfl
theorem f1 {P:Program} {Q:aB->St->Prop} {t t' : Tree} (hgo' : WT P Q t') (h:WT P Q t'->WT P Q t:=by
  first
  | (show _->WT _ _ (Tree.A3 _ _)
     first
     | exact yw _ (by assumption)
     | exact yw _ rfl)
  | (show _->WT _ _ (Tree.blk _ _)
     first
     | exact kW _ (by assumption)
     | exact kW _ rfl)):WT P Q t:=h hgo'
end
end Uw
namespace Uw.Tryz
open Go Uw
abbrev rowT (l:List Str):List (List Dat):=l.map fun s=>[.str s]
def jD (rid mid:Nat->Nat):Nat->List (List Str)->List MS->Heap
 | i,l::ls,m::ms=>(if l=[] then [] else [(rid i,Blk.arr 1 (rowT l))])++(mid i,Blk.map none m)::jD rid mid (i+1) ls ms
 | _,_,_=>[]
structure Nx (rid mid:Nat->Nat) (n:Nat):Prop where
 rr:∀i j,i<n->j<n->rid i=rid j->i=j
 mm:∀i j,i<n->j<n->mid i=mid j->i=j
 rm:∀i j,i<n->j<n->rid i≠mid j
theorem kM {h g:Heap} {id:Nat}:look (h++g) id=match look h id with|some b=>some b|none=>look g id:=by
 induction h with
 | nil=>rfl
 | cons p h ih=>
  obtain ⟨j,x⟩:=p;rw [Xv,ai,ai];by_cases hj:j=id
  ·rw [if_pos hj,if_pos hj]
  ·rw [if_neg hj,if_neg hj,ih]
theorem vY {rid mid:Nat->Nat}:∀{ls:List (List Str)} {ms:List MS} {i id:Nat} {b:Blk},look (jD rid mid i ls ms) id=some b->
  (∃k m,k<ls.length/\k<ms.length/\ms[k]? = some m/\id=mid (i+k)/\b = .map none m)\/(∃k l,k<ls.length/\k<ms.length/\ls[k]? = some l/\l≠[]/\id=rid (i+k)/\b = .arr 1 (rowT l))
 | [],_,i,id,b,h=>by simp [jD,look] at h
 | l::ls,[],i,id,b,h=>by simp [jD,look] at h
 | l::ls,m::ms,i,id,b,h=>by
  rw [jD] at h;by_cases hl:l=[]
  ·rw [if_pos hl,Yb] at h
   have h:look ((mid i,Blk.map none m)::jD rid mid (i+1) ls ms) id=some b:=h;rw [ai] at h;by_cases hm:mid i=id
   ·rw [if_pos hm] at h;injection h with h
    exact .inl ⟨0,m,by simp,by simp,rfl,hm.symm,h.symm⟩
   ·rw [if_neg hm] at h
    rcases vY h with ⟨k,m',h1,h2,h3,h4,h5⟩|⟨k,l',h1,h2,h3,h4,h5,h6⟩
    ·exact .inl ⟨k+1,m',by simpa using h1,by simpa using h2,by simpa using h3,by rw [h4];congr 1;omega,h5⟩
    ·exact .inr ⟨k+1,l',by simpa using h1,by simpa using h2,by simpa using h3,h4,by rw [h5];congr 1;omega,h6⟩
  ·rw [if_neg hl,Xv,Yb,ai] at h
   by_cases hr:rid i=id
   ·rw [if_pos hr] at h;injection h with h
    exact .inr ⟨0,l,by simp,by simp,rfl,hl,hr.symm,h.symm⟩
   ·rw [if_neg hr] at h
    have h:look ((mid i,Blk.map none m)::jD rid mid (i+1) ls ms) id=some b:=h;rw [ai] at h;by_cases hm:mid i=id
    ·rw [if_pos hm] at h;injection h with h
     exact .inl ⟨0,m,by simp,by simp,rfl,hm.symm,h.symm⟩
    ·rw [if_neg hm] at h
     rcases vY h with ⟨k,m',h1,h2,h3,h4,h5⟩|⟨k,l',h1,h2,h3,h4,h5,h6⟩
     ·exact .inl ⟨k+1,m',by simpa using h1,by simpa using h2,by simpa using h3,by rw [h4];congr 1;omega,h5⟩
     ·exact .inr ⟨k+1,l',by simpa using h1,by simpa using h2,by simpa using h3,h4,by rw [h5];congr 1;omega,h6⟩
theorem qn {rid mid:Nat->Nat} {n:Nat} (hI:Nx rid mid n):∀{ls:List (List Str)} {ms:List MS} {i k:Nat} {m:MS},i+ls.length<=n->k<ls.length->ms[k]? = some m->look (jD rid mid i ls ms) (mid (i+k))=some (.map none m)
 | [],ms,i,k,m,_,hk,_=>by simp at hk
 | l::ls,[],i,k,m,_,_,h=>by simp at h
 | l::ls,m0::ms,i,k,m,hn,hk,h=>by
  simp at hn hk;have h1:∀(y:Heap),look ((if l=[] then [] else [(rid i,Blk.arr 1 (rowT l))])++y) (mid (i+k))=look y (mid (i+k)):=by
   intro y
   split
   ·rfl
   ·rw [Xv,ai,if_neg (hI.rm i (i+k) (by omega) (by omega))];rfl
  rw [jD,h1,ai]
  cases k with
  | zero=>rw [if_pos (show mid i=mid (i+0) from rfl)];simp at h;rw [h]
  | succ k=>
   rw [if_neg (fun e=>by have:=hI.mm _ _ (by omega) (by omega) e;omega),show i+(k+1)=i+1+k by omega];exact qn hI (by omega) (by omega) (by simpa using h)
theorem vZ {rid mid:Nat->Nat} {n:Nat} (hI:Nx rid mid n):∀{ls:List (List Str)} {ms:List MS} {i k:Nat} {l:List Str},i+ls.length<=n->k<ms.length->ls[k]? = some l->l≠[]->look (jD rid mid i ls ms) (rid (i+k))=some (.arr 1 (rowT l))
 | [],ms,i,k,l,_,_,h,_=>by simp at h
 | l0::ls,[],i,k,l,_,hk,_,_=>by simp at hk
 | l0::ls,m0::ms,i,k,l,hn,hk,h,hl=>by
  simp at hn hk;have hkl:k<(l0::ls).length:=by
   rcases XR k (l0::ls).length with g|g
   ·exact g
   ·rw [Xz g] at h;cases h
  simp at hkl;rw [jD]
  cases k with
  | zero=>
   simp at h;subst h;rw [if_neg hl,Xv,ai,if_pos (by simp)]
  | succ k=>
   have h1:∀(y:Heap),look ((if l0=[] then [] else [(rid i,Blk.arr 1 (rowT l0))])++y) (rid (i+(k+1)))=look y (rid (i+(k+1))):=by
    intro y
    split
    ·rfl
    ·rw [Xv,ai,if_neg (fun e=>by have:=hI.rr _ _ (by omega) (by omega) e;omega)];rfl
   rw [h1,ai,if_neg (fun e=>hI.rm (i+(k+1)) i (by omega) (by omega) e.symm),show i+(k+1)=i+1+k by omega];exact vZ hI (by omega) (by omega) (by simpa using h) hl
def cf (rid:Nat->Nat):Nat->List (List Str)->List V
 | _,[]=>[]
 | i,l::ls=>(if l=[] then V.d (.slice 1 [] true) else .ref (rid i) 0 0 l.length)::cf rid (i+1) ls
def bQ (mid:Nat->Nat):Nat->Nat->List V
 | _,0=>[]
 | i,n+1=>.hnd (mid i)::bQ mid (i+1) n
theorem eu (rid:Nat->Nat):∀(ls:List (List Str)) (i:Nat),(cf rid i ls).length=ls.length
 | [],_=>rfl
 | l::ls,i=>by rw [cf,Xt,eu rid ls,Xt]
theorem c8 (mid:Nat->Nat):∀(n i:Nat),(bQ mid i n).length=n
 | 0,_=>rfl
 | n+1,i=>by rw [bQ,Xt,c8 mid n]
theorem j9 (rid:Nat->Nat):∀(ls:List (List Str)) (i k:Nat) (l:List Str),ls[k]? = some l->(cf rid i ls)[k]? = some (if l=[] then V.d (.slice 1 [] true) else .ref (rid (i+k)) 0 0 l.length)
 | [],i,k,l,h=>by simp at h
 | l0::ls,i,0,l,h=>by simp at h;subst h;rfl
 | l0::ls,i,k+1,l,h=>by
  rw [cf,Yz,j9 rid ls (i+1) k l (by simpa using h),show i+1+k=i+(k+1) by omega]
theorem ka (mid:Nat->Nat):∀(n i k:Nat),k<n->(bQ mid i n)[k]? = some (.hnd (mid (i+k)))
 | 0,i,k,h=>by omega
 | n+1,i,0,h=>rfl
 | n+1,i,k+1,h=>by rw [bQ,Yz,ka mid n (i+1) k (by omega),show i+1+k=i+(k+1) by omega]
theorem uD (rid:Nat->Nat):∀(ls:List (List Str)) (l:List Str) (i:Nat),cf rid i (ls++[l])=cf rid i ls++[if l=[] then V.d (.slice 1 [] true) else .ref (rid (i+ls.length)) 0 0 l.length]
 | [],l,i=>rfl
 | l0::ls,l,i=>by rw [Xv,cf,cf,uD rid ls,Xv,Xt,show i+1+ls.length=i+(ls.length+1) by omega]
theorem uE (mid:Nat->Nat):∀(n i:Nat),bQ mid i (n+1)=bQ mid i n++[.hnd (mid (i+n))]
 | 0,i=>rfl
 | n+1,i=>by rw [bQ,uE mid n,bQ,Xv,show i+1+n=i+(n+1) by omega]
theorem xY {rid P5 : Nat->Nat}:∀(ls:List (List Str)) (i:Nat),(∀k l,ls[k]? = some l->l≠[]->rid (i+k)=P5 (i+k))->cf rid i ls=cf P5 i ls
 | [],_,_=>rfl
 | l::ls,i,h=>by
  have ih:cf rid (i+1) ls=cf P5 (i+1) ls:=xY ls (i+1) fun k l' hk hl=>by
   have:=h (k+1) l' (by simpa using hk) hl
   rwa [show i+(k+1)=i+1+k by omega] at this
  rw [cf,cf,ih];by_cases hl:l=[]
  ·rw [if_pos hl,if_pos hl]
  ·rw [if_neg hl,if_neg hl,show rid i=P5 i from h 0 l rfl hl]
theorem nV {mid mid' : Nat->Nat}:∀(n i:Nat),(∀k,k<n->mid (i+k)=mid' (i+k))->bQ mid i n=bQ mid' i n
 | 0,_,_=>rfl
 | n+1,i,h=>by
  have ih:bQ mid (i+1) n=bQ mid' (i+1) n:=nV n (i+1) fun k hk=>by
   have:=h (k+1) (by omega)
   rwa [show i+(k+1)=i+1+k by omega] at this
  rw [bQ,bQ,show mid i=mid' i from h 0 (by omega),ih]
end Uw.Tryz
namespace Uw
open Go
section
variable [Glob]
theorem Weak.Ny (ρ:Nat->Nat) {R R' : fk} {H H' : Heap} {n n' : Nat} (h1:od ρ R H H' R') (h2:∀id x,look H' id=some x->(∃y,look H (ρ id)=some y/\nj ρ H H' y x)/\id<n')
  (h3:∀id id',(look H' id).isSome=true->(look H' id').isSome=true->ρ id=ρ id'->id=id'):Weak ⟨R,H,n,[],0⟩ ⟨R',H',n',[],0⟩:=
 ⟨ρ,fun i v h=>jU h1 i v h,fun i x h=>.inl (h2 i x h).1,fun i x h=>(h2 i x h).2,rfl,Yy _,fun id hid=>absurd hid (YY _),h3,rfl,rfl⟩
end
end Uw
namespace Uw.Tryz
open Go Uw
def cj (l:List Str):MS:=l.foldl (fun es s=>dx es (.s s) (.bool true)) []
theorem qo (l:List Str) (s:Str):cj (l++[s])=dx (cj l) (.s s) (.bool true):=by rw [cj,Y0];rfl
theorem GX:∀(l:List Str) (es:MS) (s:Str),aW (l.foldl (fun es s=>dx es (.s s) (.bool true)) es) (.s s)=if s∈l then some (.bool true) else aW es (.s s)
 | [],es,s=>by simp
 | a::l,es,s=>by
  rw [YI,GX l,ft];by_cases h:s∈l
  ·rw [if_pos h,if_pos (by simp [h])]
  ·rw [if_neg h]
   by_cases ha:s=a
   ·subst ha;simp
   ·simp [ha,h]
theorem sM (l:List Str) (s:Str):aW (cj l) (.s s)=if s∈l then some (.bool true) else none:=GX l [] s
def rid (i:Nat):Nat:=4+2 * i
def mid (i:Nat):Nat:=5+2 * i
theorem xe (n:Nat):Nx rid mid n:=⟨fun i j _ _ h=>by simp [rid] at h;omega,fun i j _ _ h=>by simp [mid] at h;omega,fun i j _ _ h=>by simp [rid,mid] at h;omega⟩
abbrev cF (ls:List (List Str)) (ms:List MS):Heap:=jD rid mid 0 ls ms
theorem fu {ls:List (List Str)} {ms:List MS} {id:Nat} {b:Blk} (h:look (cF ls ms) id=some b):4<=id/\id<4+2 * ls.length/\(∀H:Heap,b.closed H=true)/\∀ρ:Nat->Nat,b.ren ρ=b:=by
 rcases vY h with ⟨k,m,h1,_,_,rfl,rfl⟩|⟨k,l,h1,_,_,_,rfl,rfl⟩
 ·exact ⟨by simp [mid];omega,by simp [mid];omega,fun _=>rfl,fun _=>rfl⟩
 ·exact ⟨by simp [rid],by simp [rid];omega,fun _=>rfl,fun _=>rfl⟩
abbrev loH (p:Pg) (rv mv:List V) (fam:Heap):Heap:=(2,.var rv)::(3,.var mv)::(1,.map none (thE p.decls))::(0,pgV p)::fam
theorem Jw {p:Pg} {rv mv:List V} {fam:Heap} {id:Nat} (h:4<=id):look (loH p rv mv fam) id=look fam id:=by
 rw [ai,if_neg (by omega),ai,if_neg (by omega),ai,if_neg (by omega),ai,if_neg (by omega)]
theorem sN {p:Pg} {rv mv:List V} {fam:Heap} {id:Nat} {b:Blk} (h:look (loH p rv mv fam) id=some b):(id=2/\b = .var rv)\/(id=3/\b = .var mv)\/(id=1/\b = .map none (thE p.decls))\/(id=0/\b=pgV p)\/look fam id=some b:=by
 rw [ai] at h;by_cases h2:2=id
 ·rw [if_pos h2] at h;injection h with h;exact .inl ⟨h2.symm,h.symm⟩
 rw [if_neg h2,ai] at h;by_cases h3:3=id
 ·rw [if_pos h3] at h;injection h with h;exact .inr (.inl ⟨h3.symm,h.symm⟩)
 rw [if_neg h3,ai] at h;by_cases h1:1=id
 ·rw [if_pos h1] at h;injection h with h;exact .inr (.inr (.inl ⟨h1.symm,h.symm⟩))
 rw [if_neg h1,ai] at h;by_cases h0:0=id
 ·rw [if_pos h0] at h;injection h with h;exact .inr (.inr (.inr (.inl ⟨h0.symm,h.symm⟩)))
 rw [if_neg h0] at h;exact .inr (.inr (.inr (.inr h)))
theorem dF {H:Heap}:∀{l:List V},cB H l=true<->∀v∈l,v.closed H=true
 | []=>by simp [cB]
 | v::l=>by simp [cB,dF]
theorem nW {p:Pg} {ls:List (List Str)} {ms:List MS} {rv mv:List V} {r:Nat} (hms:ms.length=ls.length):cB (loH p rv mv (cF ls ms)) (cf rid 0 ls++List.replicate r (.d .nil))=true:=by
 rw [dF];intro v hv
 rcases XG.1 hv with hv|hv
 ·obtain ⟨k,hk⟩:=YM.1 hv
  have hkl:k<ls.length:=by
   rcases XR k ls.length with h|h
   ·exact h
   ·rw [Xz (by rw [eu];exact h)] at hk;cases hk
  rw [j9 rid ls 0 k ls[k] (by simp [hkl])] at hk;injection hk with hk
  subst hk
  split
  ·rfl
  ·rename_i hne
   have:=vZ (rid:=rid) (mid:=mid) (xe ls.length) (ls:=ls) (ms:=ms) (i:=0) (k:=k) (l:=ls[k]) (by omega) (by omega) (by simp [hkl]) hne;show (look _ _).isSome=true;rw [Jw (by simp [rid])];show (look (jD rid mid 0 ls ms) _).isSome=true;rw [this];rfl
 ·rw [YE] at hv
  rw [hv.2];rfl
theorem nX {p:Pg} {ls:List (List Str)} {ms:List MS} {rv mv:List V} {r n:Nat} (hms:ms.length=ls.length) (hn:n=ls.length):cB (loH p rv mv (cF ls ms)) (bQ mid 0 n++List.replicate r (.d .aV))=true:=by
 subst hn;rw [dF];intro v hv
 rcases XG.1 hv with hv|hv
 ·obtain ⟨k,hk⟩:=YM.1 hv
  have hkl:k<ls.length:=by
   rcases XR k ls.length with h|h
   ·exact h
   ·rw [Xz (by rw [c8];exact h)] at hk;cases hk
  rw [ka mid ls.length 0 k hkl] at hk;injection hk with hk
  subst hk;have:=qn (rid:=rid) (mid:=mid) (xe ls.length) (ls:=ls) (ms:=ms) (i:=0) (k:=k) (m:=ms[k]) (by omega) (by omega) (by simp [show k<ms.length by omega]);show (look _ _).isSome=true;rw [Jw (by simp [mid];omega)];show (look (jD rid mid 0 ls ms) _).isSome=true;rw [this];rfl
 ·rw [YE] at hv
  rw [hv.2];rfl
theorem En {p:Pg} {ls:List (List Str)} {ms:List MS} {R R' : fk} {H:Heap} {r r' n:Nat} (hms:ms.length=ls.length) (hl:ls.length<100000) (h1:od (c6 []) R H (loH p (cf rid 0 ls++List.replicate r (.d .nil)) (bQ mid 0 ls.length++List.replicate r' (.d .aV)) (cF ls ms)) R')
  (e2:look H 2=some (.var (cf rid 0 ls++List.replicate r (.d .nil)))) (e3:look H 3=some (.var (bQ mid 0 ls.length++List.replicate r' (.d .aV)))) (e1:look H 1=some (.map none (thE p.decls))) (e0:look H 0=some (pgV p))
  (hf:∀id x,look (cF ls ms) id=some x->look H id=some x):Weak ⟨R,H,n,[],0⟩ ⟨R',loH p (cf rid 0 ls++List.replicate r (.d .nil)) (bQ mid 0 ls.length++List.replicate r' (.d .aV)) (cF ls ms),1000000,[],0⟩:=by
 refine Weak.looks h1 ?_ (Yy _) (fun id h=>absurd h (YY _));intro id x hx
 rcases sN hx with ⟨rfl,rfl⟩|⟨rfl,rfl⟩|⟨rfl,rfl⟩|⟨rfl,rfl⟩|hx
 ·exact ⟨e2,nW hms,by omega⟩
 ·exact ⟨e3,nX hms rfl,by omega⟩
 ·exact ⟨e1,rfl,by omega⟩
 ·exact ⟨e0,rfl,by omega⟩
 ·obtain ⟨g1,g2,g3,_⟩:=fu hx
  exact ⟨hf _ _ hx,g3 _,by omega⟩
end Uw.Tryz
namespace Uw.Tryz
open Go Uw
def dG (l:List Dec) (k:Int):Nat:=l.countP fun d=>decide (d.kind=k)
end Uw.Tryz
namespace Uw.Tryz
open Go Uw
structure In4 where
 op:Int
 a:Int
 b:Int
 c:Int
 deriving DecidableEq,Inhabited
def in4 (i:In4):List Dat:=[I i.op,I i.a,I i.b,I i.c]
structure Nms where
 things:Str->Option (Int×Int)
 ag:Str->Int
 helps:Str->Int
 yk:Str->Option Int
def lH (s:Str):Int:=if s=Nk then 1 else if s=Nn then 2 else if s=Nl then 3 else if s=Gw then 4 else if s=Np then 5 else if s=Gx then 6 else if s=Gy then 7 else 0
def yl (N:Nms) (s:Str):Int:=(N.yk s).getD (-1)
def kN (N:Nms) (s:Str):Int:=if s=[] then -1 else yl N s
def eS (N:Nms) (x:Nd):List In4:=
 if x.kind=1 then [⟨1,x.n,0,0⟩]
 else if x.kind=2 then [match N.things x.name with|some t=>⟨4,t.2,0,0⟩|none=>⟨2,yl N x.name,0,0⟩]
 else if 3<=x.kind/\x.kind<=7 then [⟨x.kind+3,0,0,0⟩]
 else if x.kind=8 then [⟨11,lH x.name2,((N.things x.name).getD (0,0)).2,(x.of.length:Nat)⟩]
 else if x.kind=9 then [match N.things x.name with|some t=>⟨5,t.2,0,0⟩|none=>⟨3,yl N x.name,0,0⟩]
 else if x.kind=10 then [⟨13,N.ag x.name2,(x.of.length:Nat),kN N x.name⟩]
 else if x.kind=11 then [⟨13,N.helps x.name2,2,kN N x.name⟩]
 else if x.kind=12 then [⟨14,0,0,0⟩]
 else if x.kind=15 then [⟨17,0,0,0⟩]
 else if x.kind=16 then [⟨18,0,0,0⟩]
 else if x.kind=17 then [⟨12,0,0,0⟩]
 else []
def layAll (g:Int->Nat->List In4):List Int->Nat->List In4
 | [],_=>[]
 | k::r,at_=>g k at_++layAll g r (at_+(g k at_).length)
def jE (ns:List Nd) (N:Nms):Nat->Int->Nat->List In4
 | 0,_,_=>[]
 | f+1,k,at_=>
  let x:=ns.getD k.toNat default
  if x.kind=13 then
   let t:=jE ns N f (x.of.getD 0 0) at_
   let b:=jE ns N f (x.of.getD 1 0) (at_+t.length+1)
   if x.of.length<3 then t++⟨16,(at_+t.length+1+b.length:Nat),0,0⟩::b
   else
    let o:=jE ns N f (x.of.getD 2 0) (at_+t.length+1+b.length+1)
    t++⟨16,(at_+t.length+1+b.length+1:Nat),0,0⟩::(b++⟨15,(at_+t.length+1+b.length+1+o.length:Nat),0,0⟩::o)
  else if x.kind=14 then
   let t:=jE ns N f (x.of.getD 0 0) at_
   let b:=jE ns N f (x.of.getD 1 0) (at_+t.length+1)
   t++⟨16,(at_+t.length+1+b.length+1:Nat),0,0⟩::(b++[⟨15,(at_:Nat),0,0⟩])
  else layAll (jE ns N f) x.of at_++eS N x
def sb (p:Pg) (s:Str):Nat:=match p.decls.findIdx? fun d=>decide (d.name=s) with
 | some i=>dG (p.decls.take i) ((bk p s).getD 0)
 | none=>0
def fD:List Nd->List Str->List Str
 | [],l=>l
 | x::r,l=>fD r (if x.kind=11/\x.name2∉l then l++[x.name2] else l)
def bL (p:Pg):List Str:=fD p.nodes []
def lV (l:List Str) (s:Str):Option Int:=(l.findIdx? fun t=>decide (t=s)).map fun (i:Nat)=>(i:Int)
def fh (p:Pg) (f:Nat):Nms:=⟨fun s=>(bk p s).map fun k=>(k,(sb p s:Nat)),fun s=>((db p s).getD 0:Nat),fun s=>match lV (bL p) s with|some i=>(p.ag.length:Nat)+i|none=>0,fun s=>lV ((ak p).getD f []) s⟩
structure Bd where
 args:Int
 locals:Int
 ins:List In4
 deriving DecidableEq,Inhabited
def bdC (b:Bd):List Dat:=[I b.args,I b.locals,.slice 4 (b.ins.map in4) false]
structure Cd where
 ag:List Bd
 cells:List Int
 maps:Int
 stacks:Int
 chans:Int
 main:Int
 deriving DecidableEq,Inhabited
def cdD (c:Cd):Dat:=.agg [.slice 3 (c.ag.map bdC) false,cG c.cells,I c.maps,I c.stacks,I c.chans,I c.main]
def d5 (p:Pg) (f:Nat) (g:Fu):Bd:=⟨(g.args.length:Nat),(((ak p).getD f []).length:Nat),jE p.nodes (fh p f) p.nodes.length g.body 0++[⟨1,0,0,0⟩,⟨17,0,0,0⟩]⟩
def ix (f own:Int):Bd:=⟨2,5,[⟨2,0,0,0⟩,⟨2,1,0,0⟩,⟨9,0,0,0⟩,⟨16,28,0,0⟩,⟨2,0,0,0⟩,⟨1,1,0,0⟩,⟨6,0,0,0⟩,⟨2,1,0,0⟩,⟨10,0,0,0⟩,⟨16,14,0,0⟩,⟨2,0,0,0⟩,⟨13,f,1,3⟩,⟨2,3,0,0⟩,⟨17,0,0,0⟩,⟨2,0,0,0⟩,⟨2,1,0,0⟩,⟨19,0,0,0⟩,⟨3,2,0,0⟩,⟨2,0,0,0⟩,⟨2,2,0,0⟩,⟨13,own,2,3⟩,⟨2,2,0,0⟩,⟨2,1,0,0⟩,⟨13,own,2,4⟩,⟨2,3,0,0⟩,⟨2,4,0,0⟩,⟨6,0,0,0⟩,⟨17,0,0,0⟩,⟨1,0,0,0⟩,⟨17,0,0,0⟩]⟩
def fO (p:Pg):Nat->List Fu->List Bd
 | _,[]=>[]
 | i,g::r=>d5 p i g::fO p (i+1) r
def li (p:Pg):Nat->List Str->List Bd
 | _,[]=>[]
 | i,s::r=>ix ((db p s).getD 0:Nat) (i:Nat)::li p (i+1) r
def Ij (p:Pg):List Int:=(p.decls.filter fun d=>decide (d.kind=0)).map (·.n)
def gw (p:Pg):Cd:=⟨fO p 0 p.ag++li p p.ag.length (bL p),Ij p,(dG p.decls 1:Nat),(dG p.decls 2:Nat),(dG p.decls 3:Nat),((db p fU).getD 0:Nat)⟩
def Eo:Cd:=⟨[],[],0,0,0,0⟩
def ofP (p:Pg):Cd×Int:=if mX p≠0 then (Eo,mX p) else if (fO p 0 p.ag).any fun b=>decide (400<b.ins.length) then (Eo,2) else (gw p,0)
end Uw.Tryz
namespace Uw.Tryz
open Go Uw
theorem qp {g g' : Int->Nat->List In4}:∀(l:List Int) (a:Nat),(∀k∈l,∀a,g k a=g' k a)->layAll g l a=layAll g' l a
 | [],_,_=>rfl
 | k::r,a,h=>by
  rw [layAll,layAll,h k (by simp),qp r _ fun k hk=>h k (by simp [hk])]
structure Lays (ns:List Nd):Prop where
 low:∀(i:Nat) (h:i<ns.length),∀k∈ns[i].of,0<=k/\k<(i:Int)
 ifs:∀(i:Nat) (h:i<ns.length),ns[i].kind=13->ns[i].of.length=2\/ns[i].of.length=3
 xg:∀(i:Nat) (h:i<ns.length),ns[i].kind=14->ns[i].of.length=2
theorem kO {p:Pg} (h:bC p=true):Lays p.nodes:=by
 refine ⟨fun i hi=>(jf h i hi).1,fun i hi hk=>?_,fun i hi hk=>?_⟩
 ·have:=(jf h i hi).2
  have hl:(dw p.nodes p.nodes[i]).length=p.nodes[i].of.length:=by simp [dw]
  rw [eR,hk] at this;generalize dw p.nodes p.nodes[i]=so at *;have:so=[1,3]\/so=[1,3,3]:=by simpa [nT] using this
  rcases this with rfl|rfl
  ·exact .inl hl.symm
  ·exact .inr hl.symm
 ·have:=(jf h i hi).2
  have hl:(dw p.nodes p.nodes[i]).length=p.nodes[i].of.length:=by simp [dw]
  rw [eR,hk] at this;generalize dw p.nodes p.nodes[i]=so at *;have:so=[1,3]:=by simpa [nT] using this
  subst this;exact hl.symm
theorem getD_mem {l:List Int} {i:Nat} (h:i<l.length):l.getD i 0∈l:=by
 rw [List.getD,Xw h];exact XF h
theorem Aa {ns:List Nd} (N:Nms) (h:Lays ns) (k:Nat):k<ns.length->∀(f a:Nat),k<f->jE ns N f (k:Int) a=jE ns N (k+1) (k:Int) a:=by
 induction k using Nat.strongRecOn with
 | ind k ih=>
  intro hk f a hf;obtain ⟨f,rfl⟩:∃g,f=g+1:=⟨f - 1,by omega⟩
  have hx:ns.getD (k:Int).toNat default=ns[k]:=by simp [List.getD,hk]
  have hc:∀c∈ns[k].of,∀a,jE ns N f c a=jE ns N k c a:=fun c hcm a=>by
   obtain ⟨h1,h2⟩:=h.low k hk c hcm;obtain ⟨m,rfl⟩:∃m:Nat,c=(m:Int):=⟨c.toNat,by omega⟩
   rw [ih m (by omega) (by omega) f a (by omega),ih m (by omega) (by omega) k a (by omega)]
  have h13:=h.ifs k hk;have h14:=h.xg k hk;rw [jE,jE,hx];generalize ns[k]=x at *;by_cases k13:x.kind=13
  ·have h13:=h13 k13
   simp only [if_pos k13];rw [hc _ (getD_mem (by omega))];simp only [hc _ (getD_mem (show 1<x.of.length by omega))];by_cases h3:x.of.length<3
   ·rw [if_pos h3,if_pos h3]
   ·rw [if_neg h3,if_neg h3]
    simp only [hc _ (getD_mem (show 2<x.of.length by omega))]
  ·simp only [if_neg k13]
   by_cases k14:x.kind=14
   ·have h14:=h14 k14
    simp only [if_pos k14];rw [hc _ (getD_mem (by omega))];simp only [hc _ (getD_mem (show 1<x.of.length by omega))]
   ·simp only [if_neg k14]
    rw [qp _ _ hc]
def lay (ns:List Nd) (N:Nms) (k:Int) (a:Nat):List In4:=jE ns N ns.length k a
theorem Ab {ns:List Nd} (N:Nms) (h:Lays ns) (k:Nat) (hk:k<ns.length) (a:Nat):lay ns N k a =
  if ns[k].kind=13 then
   if ns[k].of.length<3 then lay ns N (ns[k].of.getD 0 0) a++⟨16,(a+(lay ns N (ns[k].of.getD 0 0) a).length+1+(lay ns N (ns[k].of.getD 1 0) (a+(lay ns N (ns[k].of.getD 0 0) a).length+1)).length:Nat),0,0⟩::lay ns N (ns[k].of.getD 1 0) (a+(lay ns N (ns[k].of.getD 0 0) a).length+1)
   else lay ns N (ns[k].of.getD 0 0) a++⟨16,(a+(lay ns N (ns[k].of.getD 0 0) a).length+1+(lay ns N (ns[k].of.getD 1 0) (a+(lay ns N (ns[k].of.getD 0 0) a).length+1)).length+1:Nat),0,0⟩::(lay ns N (ns[k].of.getD 1 0) (a+(lay ns N (ns[k].of.getD 0 0) a).length+1)++⟨15,(a+(lay ns N (ns[k].of.getD 0 0) a).length+1+(lay ns N (ns[k].of.getD 1 0) (a+(lay ns N (ns[k].of.getD 0 0) a).length+1)).length+1+(lay ns N (ns[k].of.getD 2 0) (a+(lay ns N (ns[k].of.getD 0 0) a).length+1+(lay ns N (ns[k].of.getD 1 0) (a+(lay ns N (ns[k].of.getD 0 0) a).length+1)).length+1)).length:Nat),0,0⟩::lay ns N (ns[k].of.getD 2 0) (a+(lay ns N (ns[k].of.getD 0 0) a).length+1+(lay ns N (ns[k].of.getD 1 0) (a+(lay ns N (ns[k].of.getD 0 0) a).length+1)).length+1))
  else if ns[k].kind=14 then lay ns N (ns[k].of.getD 0 0) a++⟨16,(a+(lay ns N (ns[k].of.getD 0 0) a).length+1+(lay ns N (ns[k].of.getD 1 0) (a+(lay ns N (ns[k].of.getD 0 0) a).length+1)).length+1:Nat),0,0⟩::(lay ns N (ns[k].of.getD 1 0) (a+(lay ns N (ns[k].of.getD 0 0) a).length+1)++[⟨15,(a:Nat),0,0⟩])
  else layAll (lay ns N) ns[k].of a++eS N ns[k]:=by
 have hx:ns.getD (k:Int).toNat default=ns[k]:=by simp [List.getD,hk]
 have hc:∀c∈ns[k].of,∀a,jE ns N k c a=lay ns N c a:=fun c hcm a=>by
  obtain ⟨h1,h2⟩:=h.low k hk c hcm;obtain ⟨m,rfl⟩:∃m:Nat,c=(m:Int):=⟨c.toNat,by omega⟩
  rw [lay,Aa N h m (by omega) ns.length a (by omega),Aa N h m (by omega) k a (by omega)]
 have h13:=h.ifs k hk;have h14:=h.xg k hk;rw [lay,Aa N h k hk _ _ hk,jE,hx];generalize ns[k]=x at *;by_cases k13:x.kind=13
 ·have h13:=h13 k13
  simp only [if_pos k13];rw [hc _ (getD_mem (by omega))];simp only [hc _ (getD_mem (show 1<x.of.length by omega))];by_cases h3:x.of.length<3
  ·rw [if_pos h3,if_pos h3]
  ·rw [if_neg h3,if_neg h3]
   simp only [hc _ (getD_mem (show 2<x.of.length by omega))]
 ·simp only [if_neg k13]
  by_cases k14:x.kind=14
  ·have h14:=h14 k14
   simp only [if_pos k14];rw [hc _ (getD_mem (by omega))];simp only [hc _ (getD_mem (show 1<x.of.length by omega))]
  ·simp only [if_neg k14]
   rw [qp _ _ hc]
end Uw.Tryz
namespace Uw.Tryz
open Go Uw
def lj (i:In4):Int×Int:=
 if i.op=1\/i.op=2\/i.op=4 then (0,1)
 else if i.op=3\/i.op=5\/i.op=12\/i.op=16\/i.op=17\/i.op=18 then (1,0)
 else if (6<=i.op/\i.op<=10)\/i.op=19 then (2,1)
 else if i.op=11 then (i.c,1)
 else if i.op=13 then (i.b,0)
 else (0,0)
def onI (i:In4) (k:Int):List Int:=if i.op=15 then [i.a] else if i.op=16 then [k+1,i.a] else if i.op=17 then [] else [k+1]
def hTo (n:Nat) (v:Int):List Int->List Int->List Int->Option (List Int×List Int)
 | [],hi,td=>some (hi,td)
 | t::r,hi,td=>
  if t<0\/(n:Int)<=t then none
  else if hi.getD t.toNat 0 = -1 then hTo n v r (hi.set t.toNat v) (td++[t])
  else if hi.getD t.toNat 0=v then hTo n v r hi td
  else none
def Q8 (ins:List In4):Nat->List Int->List Int->Option (List Int)
 | 0,_,_=>none
 | f+1,hi,td=>match td.getLast? with
  | none=>some hi
  | some k=>
   let i:=ins.getD k.toNat default
   if (lj i).1<0\/hi.getD k.toNat 0<(lj i).1 then none
   else match hTo ins.length (hi.getD k.toNat 0 - (lj i).1+(lj i).2) (onI i k) hi td.dropLast with
    | none=>none
    | some s=>Q8 ins f s.1 s.2
def Nz (ins:List In4):List Int:=
 if ins=[] then [] else if ins.any fun i=>decide (i.op<1)||decide (19<i.op) then []
 else (Q8 ins (2 * ins.length+2) (0::List.replicate (ins.length - 1) (-1)) [0]).getD []
def dT (n m:Int):Bool:=decide (0<=n)&&decide (n<m)
def Ep (c:Cd) (i:In4):Bool:=
 let o:=if i.a=1\/i.a=3\/i.a=2 then c.maps else if i.a=4\/i.a=5 then c.stacks else if i.a=6\/i.a=7 then c.chans else 0
 let t:=if i.a=2 then 2 else if i.a=5\/i.a=7 then 0 else 1
 dT i.b o&&decide (i.c=t)
def dU (c:Cd) (f:Bd) (i:In4):Bool:=
 if i.op=1 then dT i.a 4294967296
 else if i.op=2\/i.op=3 then dT i.a f.locals
 else if i.op=4\/i.op=5 then dT i.a (c.cells.length:Nat)
 else if i.op=11 then Ep c i
 else if i.op=13 then dT i.a (c.ag.length:Nat)&&decide (i.b=(c.ag.getD i.a.toNat default).args)&&(decide (i.c = -1)||dT i.c f.locals)
 else true
structure WG (ins:List In4) (H:Nat->Int):Prop where
 ops:∀i∈ins,1<=i.op/\i.op<=19
 zero:H 0=0
 pos:∀k,0<=H k
 step:∀(k:Nat) (h:k<ins.length),0<=(lj ins[k]).1/\(lj ins[k]).1<=H k/\∀t∈onI ins[k] (k:Int),0<=t/\t<ins.length/\H t.toNat=H k - (lj ins[k]).1+(lj ins[k]).2
structure WH (n:Nat) (H:Nat->Int) (hi td:List Int):Prop where
 len:hi.length=n
 val:∀(k:Nat),k<n->hi.getD k 0 = -1\/hi.getD k 0=H k
 todo:∀t∈td,0<=t/\t<n/\hi.getD t.toNat 0=H t.toNat
end Uw.Tryz
namespace Uw.Tryz
open Go Uw
structure V5 (E:Int->Int->Prop) (l:List In4) (a:Nat) (h h2:Int) (H:Nat->Int):Prop where
 pos:∀k,0<=H k
 bgn:H a=h
 fin:H (a+l.length)=h2
 ops:∀(j:Nat) (hj:j<l.length),1<=l[j].op/\l[j].op<=19/\(l[j].op=17->H (a+j)=1)
 step:∀(j:Nat) (hj:j<l.length),0<=(lj l[j]).1/\(lj l[j]).1<=H (a+j)/\∀t∈onI l[j] ((a+j:Nat):Int),((a:Int)<=t/\t<=((a+l.length:Nat):Int)/\H t.toNat=H (a+j) - (lj l[j]).1+(lj l[j]).2)\/E t (H (a+j) - (lj l[j]).1+(lj l[j]).2)
def v7 (E:Int->Int->Prop) (l:List In4) (a:Nat) (h h2:Int):Prop:=∃H,V5 E l a h h2 H
theorem v7.nil {E:Int->Int->Prop} {a:Nat} {h:Int} (hh:0<=h):v7 E [] a h h:=
 ⟨fun _=>h,fun _=>hh,rfl,rfl,fun j hj=>absurd hj (YY j),fun j hj=>absurd hj (YY j)⟩
theorem v7.mono {E E2:Int->Int->Prop} (hE:∀t v,E t v->E2 t v) {l:List In4} {a:Nat} {h h2:Int}:v7 E l a h h2->v7 E2 l a h h2
 | ⟨H,s⟩=>⟨H,s.pos,s.bgn,s.fin,s.ops,fun j hj=>⟨(s.step j hj).1,(s.step j hj).2.1,fun t ht=>((s.step j hj).2.2 t ht).imp id (hE t _)⟩⟩
theorem v7.app {E:Int->Int->Prop} {l1 l2:List In4} {a:Nat} {h h1 h2:Int}:v7 E l1 a h h1->v7 E l2 (a+l1.length) h1 h2->v7 E (l1++l2) a h h2
 | ⟨H1,s1⟩,⟨H2,s2⟩=>by
  have hl:∀k,k<=a+l1.length->(if k<a+l1.length then H1 k else H2 k)=H1 k:=fun k hk=>by
   by_cases e:k<a+l1.length
   ·rw [if_pos e]
   ·rw [if_neg e,show k=a+l1.length by omega,s1.fin,s2.bgn]
  have hr:∀k,a+l1.length<=k->(if k<a+l1.length then H1 k else H2 k)=H2 k:=fun k hk=>by rw [if_neg (by omega)]
  refine ⟨fun k=>if k<a+l1.length then H1 k else H2 k,fun k=>?_,?_,?_,fun j hj=>?_,fun j hj=>?_⟩
  ·show 0<=(if k<a+l1.length then H1 k else H2 k)
   split
   ·exact s1.pos k
   ·exact s2.pos k
  ·show (if a<a+l1.length then H1 a else H2 a)=h
   rw [hl a (by omega),s1.bgn]
  ·show (if a+(l1++l2).length<a+l1.length then H1 _ else H2 _)=h2
   rw [hr _ (by simp),Xr,<- Yj,s2.fin]
  ·by_cases e:j<l1.length
   ·rw [Zh e,hl _ (by omega)]
    exact s1.ops j e
   ·have hj2:j - l1.length<l2.length:=by rw [Xr] at hj;omega
    have:=s2.ops (j - l1.length) hj2;rw [show a+l1.length+(j - l1.length)=a+j by omega] at this;rw [aaf (by omega),hr _ (by omega)];exact this
  ·by_cases e:j<l1.length
   ·have h3:=s1.step j e
    rw [Zh e,hl _ (by omega)];refine ⟨h3.1,h3.2.1,fun t ht=>?_⟩
    rcases h3.2.2 t ht with ⟨h4,h5,h6⟩|h4
    ·refine .inl ⟨h4,by rw [Xr];omega,?_⟩
     rw [hl _ (by omega)];exact h6
    ·exact .inr h4
   ·have hj2:j - l1.length<l2.length:=by rw [Xr] at hj;omega
    have h3:=s2.step (j - l1.length) hj2;rw [show a+l1.length+(j - l1.length)=a+j by omega] at h3;rw [aaf (by omega),hr _ (by omega)];refine ⟨h3.1,h3.2.1,fun t ht=>?_⟩
    rcases h3.2.2 t ht with ⟨h4,h5,h6⟩|h4
    ·refine .inl ⟨by omega,by rw [Xr];omega,?_⟩
     rw [hr _ (by omega)];exact h6
    ·exact .inr h4
theorem v7.one {E:Int->Int->Prop} (i:In4) (a:Nat) (h h2:Int) (ho:1<=i.op/\i.op<=19) (hr:i.op=17->h=1) (h0:0<=(lj i).1) (h1:(lj i).1<=h) (hh:0<=h2) (ht:∀t∈onI i (a:Int),(t=((a+1:Nat):Int)/\h2=h - (lj i).1+(lj i).2)\/E t (h - (lj i).1+(lj i).2)):v7 E [i] a h h2:=by
 refine ⟨fun k=>if k=a then h else h2,fun k=>?_,if_pos rfl,if_neg (by simp),fun j hj=>?_,fun j hj=>?_⟩
 ·show 0<=(if k=a then h else h2)
  split<;>omega
 ·obtain rfl:j=0:=by simpa using hj
  simp only [YW,Yx,if_true];exact ⟨ho.1,ho.2,hr⟩
 ·obtain rfl:j=0:=by simpa using hj
  simp only [YW,Yx,if_true];refine ⟨h0,h1,fun t hm=>?_⟩
  rcases ht t hm with ⟨rfl,h3⟩|h3
  ·refine .inl ⟨by omega,by simp,?_⟩
   rw [YH,if_neg (by omega),h3]
  ·exact .inr h3
theorem v7.plain {E:Int->Int->Prop} (i:In4) (a:Nat) (h:Int) (ho:1<=i.op/\i.op<=19) (hj:i.op≠15/\i.op≠16/\i.op≠17) (h0:0<=(lj i).1) (h1:(lj i).1<=h) (h2:0<=(lj i).2):v7 E [i] a h (h - (lj i).1+(lj i).2):=
 v7.one i a h _ ho (fun e=>absurd e hj.2.2) h0 h1 (by omega) fun t ht=>by
  rw [onI,if_neg hj.1,if_neg hj.2.1,if_neg hj.2.2] at ht;simp at ht;exact .inl ⟨by omega,rfl⟩
end Uw.Tryz
