/- B7: Xb Xc Xd Xe Xf Xg Xh Xi Xj Xm Qa Wa Wb Wc Wd We Tb Tc Td Pb Pc Pd Pe (merged by merge2.py from the working texts). -/
import Derived.Test.YtkmkjfkpnmhaiaaGreatDoorB6
import Derived.Test.YtkmkjfkpnmhaiaaGreatDoorB5
import Derived.Test.YtkmkjfkpnmhaiaaGreatDoorB4
import Derived.Test.YtkmkjfkpnmhaiaaGreatDoorBs
import Derived.Lib.AtoiErrMem
import Derived.Lib.AppendIntMem
set_option maxRecDepth 4000
set_option maxHeartbeats 2000000
set_option linter.unusedSimpArgs false
set_option linter.unnecessarySimpa false
set_option linter.unusedVariables false
set_option linter.unusedSectionVars false
namespace Uw.Tryz
open Go Uw
end Uw.Tryz
namespace Uw.Tryz
open Go Uw
def endOf (r:List UInt8):Nat:=
 match r with
 | []=>0
 | c::t=>if cls c=5 then (if c.toNat=61/\eqq t=true then 2 else 1)
  else if cls c=1 then 1+(t.takeWhile nameB).length else 1+(t.takeWhile eG).length
theorem nZ (c:UInt8) (t:List UInt8) (h:cls c=5):endOf (c::t)=if c.toNat=61/\eqq t=true then 2 else 1:=by
 rw [endOf,if_pos h]
theorem wV {α:Type} (p:α->Bool) (l:List α) (k:Nat) (h:k<=l.length) (h1:∀(j:Nat) (hj:j<l.length),j<k->p l[j]=true) (h2:∀b,l[k]? = some b->p b=false):(l.takeWhile p).length=k:=by
 have e:l=l.take k++l.drop k:=by simp
 have h1' : ∀a∈l.take k,p a=true:=by
  intro a ha;rw [adq] at ha;obtain ⟨j,hj,rfl⟩:=ha;exact h1 j (by omega) (by omega)
 rw [e,List.takeWhile_append_of_pos h1'];have:(l.drop k).takeWhile p=[]:=by
  cases hd:l.drop k with
  | nil=>rfl
  | cons b r=>
   have hb:l[k]? = some b:=by
    have:=congrArg (fun l=>l[0]?) hd;simpa using this
   rw [aa1,h2 b hb];rfl
 rw [this];simp;omega
end Uw.Tryz
namespace Uw.Tryz
open Go Uw
theorem vC {b:UInt8} (h:eG b=true):48<=b.toNat/\b.toNat<=57:=by
 simp only [eG,decide_eq_true_eq] at h;unfold cls at h
 repeat' split at h
 all_goals first|omega|cases h
def zo (w:List UInt8):Int:=if 10<w.length\/(w.head? = some 48/\1<w.length) then -1 else if 4294967296<=jC w then -1 else ((jC w:Nat):Int)
theorem K9 (w:List UInt8) (h:0<w.length):(w.head? = some 48)<->w[0].toNat=48:=by
 cases w with
 | nil=>simp at h
 | cons b r=>
  simp only [List.head?_cons,aaP,ab8];constructor
  ·intro e;rw [e];rfl
  ·intro e;exact adg.1 e
end Uw.Tryz
namespace Uw.Tryz
open Go Uw
theorem lO (c:UInt8) (t:List UInt8) (h:cls c=1):bu (c::t)=if endOf (c::t)<=12 then some (1,endOf (c::t),0) else none:=by
 have e:endOf (c::t)=1+(t.takeWhile nameB).length:=by simp [endOf,h]
 rw [bu,if_pos h,e]
theorem lP (c:UInt8) (t:List UInt8) (h:cls c=5):bu (c::t)=some (3,endOf (c::t),0):=by
 rw [bu,if_neg (by omega),if_neg (by omega),if_pos h,nZ c t h]
 split<;>rfl
theorem iV (c:UInt8) (t:List UInt8) (h:cls c≠1) (h2:cls c≠2) (h3:cls c≠5):bu (c::t)=none:=by
 rw [bu,if_neg h,if_neg h2,if_neg h3]
theorem yk (c:UInt8) (t:List UInt8) (h:cls c=2):endOf (c::t)=1+(t.takeWhile eG).length:=by simp [endOf,h]
theorem s6 {α:Type} (p:α->Bool):∀(l:List α),l.drop (l.takeWhile p).length=l.dropWhile p
 | []=>rfl
 | y::r=>by
  rw [aa1,ab6]
  split
  ·rw [aaA,ab5,s6 p r]
  ·rfl
theorem take_takeWhile {α:Type} (p:α->Bool):∀(l:List α),l.take (l.takeWhile p).length=l.takeWhile p
 | []=>rfl
 | y::r=>by
  rw [aa1]
  split
  ·rw [aaA,abd,take_takeWhile p r]
  ·rfl
theorem wX (c:UInt8) (t:List UInt8) (h:cls c=2):(c::t).take (endOf (c::t))=c::t.takeWhile eG:=by
 rw [yk c t h,abX,abd,take_takeWhile]
theorem PY (c:UInt8) (t:List UInt8) (h:cls c=2):(c::t).drop (endOf (c::t))=t.dropWhile eG:=by
 rw [yk c t h,abX,ab5,s6]
theorem all_takeWhile {α:Type} (p:α->Bool) (l:List α):(l.takeWhile p).all p=true:=by
 induction l with
 | nil=>rfl
 | cons y r ih=>
  rw [aa1]
  split
  ·rename_i h;simp [h]
  ·rfl
theorem La (c:UInt8) (t:List UInt8) (h:cls c=2):((c::t).take (endOf (c::t))).all eG=true:=by
 rw [wX c t h,acP,all_takeWhile];simp [eG,h]
theorem oa (c:UInt8) (t:List UInt8) (h:cls c=2):bu (c::t)=if 0<=zo ((c::t).take (endOf (c::t)))/\zf ((c::t).drop (endOf (c::t)))=false then some (2,endOf (c::t),zo ((c::t).take (endOf (c::t)))) else none:=by
 rw [bu,if_neg (by omega),if_pos h,wX c t h,PY c t h,yk c t h];have hc:(c.toNat=48)<->((c::t.takeWhile eG).head? = some 48):=by rw [K9 _ (by simp)];rfl
 have n1:(10<(t.takeWhile eG).length+1\/c.toNat=48/\1<(t.takeWhile eG).length+1)->zo (c::t.takeWhile eG) = -1:=fun h=>by
  rw [zo,if_pos (by rw [<- hc];exact h)]
 have n2:¬(10<(t.takeWhile eG).length+1\/c.toNat=48/\1<(t.takeWhile eG).length+1)->zo (c::t.takeWhile eG)=if 4294967296<=jC (c::t.takeWhile eG) then -1 else ((jC (c::t.takeWhile eG):Nat):Int):=fun h=>by
  rw [zo,if_neg (by rw [<- hc];exact h)]
 generalize zo (c::t.takeWhile eG)=R at n1 n2;by_cases h1:1+(t.takeWhile eG).length<=10/\¬(1<1+(t.takeWhile eG).length/\c.toNat=48)
 ·have n2:=n2 (by omega)
  by_cases h2:jC (c::t.takeWhile eG)<4294967296
  ·rw [if_neg (by omega)] at n2
   by_cases h3:zf (t.dropWhile eG)=false
   ·rw [if_pos ⟨h1.1,h1.2,h2,h3⟩,if_pos ⟨by omega,h3⟩,n2]
   ·rw [if_neg (fun h=>h3 h.2.2.2),if_neg (fun h=>h3 h.2)]
  ·rw [if_pos (by omega)] at n2
   rw [if_neg (fun h=>h2 h.2.2.1),if_neg (fun h=>by have:=h.1;omega)]
 ·have n1:=n1 (by omega)
  rw [if_neg (fun h=>h1 ⟨h.1,h.2.1⟩),if_neg (fun h=>by have:=h.1;omega)]
theorem H9 (c:UInt8) (t:List UInt8):1<=endOf (c::t)/\endOf (c::t)<=t.length+1:=by
 have h1:=mR nameB t;have h2:=mR eG t;rw [endOf]
 split
 ·split
  ·rename_i h
   cases t with
   | nil=>simp [eqq] at h
   | cons b r=>simp
  ·omega
 ·split<;>omega
def Read (s:List UInt8) (a:Nat) (out:List Tok):Prop:=jD s 0=(jD (s.drop a) (a:Int)).map (out++·)
theorem Read.init (s:List UInt8):Read s 0 []:=by
 rw [Read,aa9];simp
theorem Read.blank {s:List UInt8} {a:Nat} {out:List Tok} (h:Read s a out) (ha:a<s.length) (hb:cls s[a]=4):Read s (a+1) out:=by
 rw [Read,aaW ha,vl _ _ _ hb] at h;rw [Read,h];rfl
theorem Read.none {s:List UInt8} {a:Nat} {out:List Tok} (h:Read s a out) (ha:a<s.length) (hb:cls s[a]≠4) (ht:bu (s.drop a)=none):jD s 0=none:=by
 rw [Read] at h;rw [h];rw [aaW ha] at ht ⊢;rw [Ej _ _ _ hb ht];rfl
theorem Read.tok {s:List UInt8} {a:Nat} {out:List Tok} (h:Read s a out) (ha:a<s.length) (hb:cls s[a]≠4) {k:Int} {n:Nat} {v:Int} (ht:bu (s.drop a)=some (k,n,v)) :
  Read s (a+n) (out++[⟨k,(s.drop a).take n,v,a⟩]):=by
 rw [Read,h];rw [aaW ha] at ht ⊢;rw [Aw _ _ _ hb ht,<- aaW ha,ach];rw [show ((a:Int)+(n:Int))=((a+n:Nat):Int) by omega]
 cases jD (s.drop (a+n)) ((a+n:Nat):Int) with
 | none=>rfl
 | some l=>simp
theorem Read.end {s:List UInt8} {a:Nat} {out:List Tok} (h:Read s a out) (ha:s.length<=a):jD s 0=some out:=by
 rw [Read] at h;rw [h,abh ha,Av];simp
def DC (s:List UInt8):Dat:=if 4000<s.length then .tuple [.nil,I 2] else match jD s 0 with|none=>.tuple [.nil,I 3]|some l=>.tuple [wk l,I 0]
theorem S4 (s:List UInt8):DLe (DC s) (PT (fh s)):=by
 rw [DC,fh];by_cases h:4000<s.length
 ·rw [if_pos h,if_pos h];exact .tuple (.cons (.nil 4) (.refl _))
 ·rw [if_neg h,if_neg h]
  cases jD s 0 with
  | none=>exact .tuple (.cons (.nil 4) (.refl _))
  | some l=>exact .refl _
theorem S5 {s:List UInt8} {a n:Nat} (h:a+n<=s.length):((s.drop a).take n).length=n:=by simp;omega
end Uw.Tryz
namespace Uw.Tryz
open Go Uw
def uy (r:Int):Bool:=decide ((97<=r/\r<=122)\/(65<=r/\r<=90))
def yl (r:Int):Bool:=decide (48<=r/\r<=57)
def A4 (r:Int):Bool:=decide (r=9\/r=10\/r=32)
theorem rj (r:Int):Ret P0 mY [.int .i32 r] (.bool (uy r)):=by
 refine aU uQ rfl ?_
 repeat' first|refine aw ?_|refine bw (fun _=>?_) fun _=>?_
 all_goals
  refine aC (P:=P0) rfl rfl rfl rfl ?_;exact congrArg Dat.bool (abv.2 (by simp only [decide_eq_true_eq,abg,uy,yl,A4,eq_self,true_iff,aaX,false_iff];omega))
theorem yQ (r:Int):Ret P0 pg [.int .i32 r] (.bool (yl r)):=by
 refine aU wN rfl ?_
 repeat' first|refine aw ?_|refine bw (fun _=>?_) fun _=>?_
 all_goals
  refine aC (P:=P0) rfl rfl rfl rfl ?_;exact congrArg Dat.bool (abv.2 (by simp only [decide_eq_true_eq,abg,uy,yl,A4,eq_self,true_iff,aaX,false_iff];omega))
theorem Ib (r:Int):Ret P0 yO [.int .i32 r] (.bool (A4 r)):=by
 refine aU FT rfl ?_
 repeat' first|refine aw ?_|refine bw (fun _=>?_) fun _=>?_
 all_goals
  refine aC (P:=P0) rfl rfl rfl rfl ?_;exact congrArg Dat.bool (abv.2 (by simp only [decide_eq_true_eq,abg,uy,yl,A4,eq_self,true_iff,aaX,false_iff];omega))
theorem F2 (r:Int):Ret P0 mZ [.int .i32 r] (.bool (uy r||yl r||decide (r=95))):=by
 have h1:=rj r;have h2:=yQ r;refine aU uR rfl ?_
 repeat' first|refine aw ?_|refine bw (fun _=>?_) fun _=>?_
 all_goals
  refine aC (P:=P0) rfl rfl rfl rfl ?_;exact congrArg Dat.bool (abv.2 (by simp only [decide_eq_true_eq,abg,uy,yl,A4,eq_self,true_iff,aaX,false_iff];omega))
theorem A5 (r:Int):Ret P0 ke [.int .i32 r] (.bool (uy r||decide (r=95))):=by
 have h1:=rj r;refine aU rS rfl ?_
 repeat' first|refine aw ?_|refine bw (fun _=>?_) fun _=>?_
 all_goals
  refine aC (P:=P0) rfl rfl rfl rfl ?_;exact congrArg Dat.bool (abv.2 (by simp only [decide_eq_true_eq,abg,uy,yl,A4,eq_self,true_iff,aaX,false_iff];omega))
theorem rl (f:FuncId) (p:Int->Bool) (hb:mN P0 f) (hf:∀r,Ret P0 f [.int .i32 r] (.bool (p r))) (hp:∀r,128<=r->p r=false) (s:List UInt8) (hs:s.length<1000000):Ret P0 kT [.str s,.func f] (I ((s.takeWhile (fun b=>p (b.toNat:Int))).length:Nat)):=by
 refine aU H6 rfl ?_
 repeat' first|refine aw ?_|refine bw (fun _=>?_) fun _=>?_
 refine du (fun k:Nat=>⟨[(8,.hnd 0),(0,.d (.str s)),(1,.d (.func f))],[(0,.iter s k)],1,[],0⟩)
  (fun k=>k<=s.length/\∀(i:Nat) (hi:i<s.length),i<k->p (s[i].toNat:Int)=true) (fun k=>s.length - k) 0 (by exact Uw.wW) ⟨by omega,by intros;omega⟩ ?_
 rintro k ⟨h1,h2⟩;by_cases hk:k<s.length
 ·have hk' : s[k]? = some s[k]:=by simp [hk]
  have stop:p (s[k].toNat:Int)=false->(s.takeWhile (fun b=>p (b.toNat:Int))).length=k:=fun h=>wV _ s k h1 h2 (fun b hb=>by rw [hk'] at hb;injection hb with hb;rw [<- hb];exact h);by_cases hlow:s[k].toNat<128
  ·have hr:=vh s k s[k] hk' hlow
   have hr1:((ca s k).1:Int)=s[k].toNat:=by rw [hr]
   have hr2:(ca s k).2=1:=by rw [hr]
   have hfr:=hf ((ca s k).1:Int);rw [show p ((ca s k).1:Int)=p (s[k].toNat:Int) by rw [hr1]] at hfr;have hk1:k+(ca s k).2=k+1:=by rw [hr2]
   clear hr hr1
   cases hpk:p (s[k].toNat:Int) with
   | false=>
    rw [hpk] at hfr;have hst:=stop hpk;clear stop h2
    repeat' first|refine aw ?_|refine bw (fun _=>?_) fun _=>?_
    refine iQ _ hb rfl hfr ?_
    repeat' first|refine aw ?_|refine bw (fun _=>?_) fun _=>?_
    exact aC (P:=P0) rfl rfl rfl rfl (by rw [hst];rfl)
   | true=>
    rw [hpk] at hfr;have h3:∀(i:Nat) (hi:i<s.length),i<k+(ca s k).2->p (s[i].toNat:Int)=true:=by
     intro i hi hik;by_cases e:i=k
     ·subst e;exact hpk
     ·exact h2 i hi (by omega)
    clear stop h2
    repeat' first|refine aw ?_|refine bw (fun _=>?_) fun _=>?_
    refine iQ _ hb rfl hfr ?_
    repeat' first|refine aw ?_|refine bw (fun _=>?_) fun _=>?_
    exact cn (k+(ca s k).2) ⟨by omega,h3⟩ (by omega) (by exact Uw.wW)
  ·obtain ⟨a1,a2,a3,a4,a5⟩:=yK s k s[k] hk' (by omega)
   have hfr:=hf ((ca s k).1:Int);rw [hp _ (by omega)] at hfr;have hst:=stop (hp _ (by omega));clear stop h2 a5
   repeat' first|refine aw ?_|refine bw (fun _=>?_) fun _=>?_
   refine iQ _ hb rfl hfr ?_
   repeat' first|refine aw ?_|refine bw (fun _=>?_) fun _=>?_
   exact aC (P:=P0) rfl rfl rfl rfl (by rw [hst];rfl)
 ·have hst:(s.takeWhile (fun b=>p (b.toNat:Int))).length=s.length:=by
   have e:k=s.length:=by omega
   exact wV _ s s.length (aax _) (fun j hj _=>h2 j hj (by omega)) (fun b hb=>by rw [aaJ (aax _)] at hb;cases hb)
  clear h2
  repeat' first|refine aw ?_|refine bw (fun _=>?_) fun _=>?_
  exact aC (P:=P0) rfl rfl rfl rfl (by rw [hst];rfl)
end Uw.Tryz
namespace Uw.Tryz
open Go Uw Go.Proofs Go.RowKit
theorem yR:∀(l:List UInt8) (n:Nat),l.all eG=true->Lib.decFrom n l=some (l.foldl (fun n b=>10 * n+(b.toNat - 48)) n)
 | [],n,_=>rfl
 | b::r,n,h=>by
  rw [acP,aay] at h;have hb:=vC h.1;rw [Lib.decFrom,Lib.digitVal,if_pos hb];simp only;rw [yR r _ h.2,abQ,Nat.mul_comm]
theorem PZ (l:List UInt8) (h0:l≠[]) (h:l.all eG=true):Lib.atoi l=some (jC l:Nat):=by
 cases l with
 | nil=>exact absurd rfl h0
 | cons b r=>
  have hb:=vC (by rw [acP,aay] at h;exact h.1);have h1:(b == 45)=false:=by
   rw [beq_eq_false_iff_ne];intro e;subst e;simp at hb
  have h2:(b == 43)=false:=by
   rw [beq_eq_false_iff_ne];intro e;subst e;simp at hb
  rw [Lib.atoi,h1,h2];simp only [aaX,if_false];rw [Lib.decNat,yR _ _ h];rfl
theorem A6 (l:List UInt8) (h0:l≠[]) (h:l.all eG=true) (hl:l.length<=18):Ret P0 AL [.str l] (.tuple [I (jC l:Nat),.nilIface]):=by
 intro w J vs hG hr;obtain ⟨v,vs',rfl,hv,hr⟩:=hr;simp only [bp] at hr;subst hr;simp only [aI] at hv;subst hv;refine (Tryz.strconv_Atoi ⟨l.toArray⟩ (jC l:Nat) (by simpa [ByteArray.size] using hl) (by simpa using PZ l h0 h) w).mono ?_;rintro e w' ⟨rfl,t,rfl⟩;exact ⟨_,rfl,⟨[_,_],rfl,⟨_,_,rfl,rfl,⟨_,_,rfl,rfl,rfl⟩⟩⟩,Lib.bytesWorld_below _ _ _⟩
theorem uz (s p:List UInt8):Ret P0 uc [.str s,.str p] (.bool (Lib.hasPrefix s p)):=by
 intro w J vs hG hr;obtain ⟨v,vs',rfl,hv,u,vs'',rfl,hu,hr⟩:=hr;simp only [bp] at hr;subst hr;simp only [aI] at hv hu;subst hv hu;refine (Tryz.strings_HasPrefix ⟨s.toArray⟩ ⟨p.toArray⟩ w).mono ?_;rintro e w' ⟨rfl,rfl⟩;exact ⟨_,rfl,rfl,Below.refl _ _⟩
theorem uA (s:List UInt8) (c:UInt8):Ret P0 ud [.str s,.int .u8 (c.toNat:Int)] (I (Lib.indexByte s c)):=by
 intro w J vs hG hr;obtain ⟨v,vs',rfl,hv,u,vs'',rfl,hu,hr⟩:=hr;simp only [bp] at hr;subst hr;simp only [aI] at hv hu;subst hv hu;refine (Tryz.strings_IndexByte ⟨s.toArray⟩ (c.toNat:Int) w).mono ?_;rintro e w' ⟨rfl,rfl⟩;refine ⟨_,rfl,?_,Below.refl _ _⟩;simp [aI]
theorem yS (l:List UInt8) (h0:l≠[]) (h:l.all eG=true) (hl:l.length<=18):Ret P0 yP [.str l] (I (jC l:Nat)):=by
 have ha:=A6 l h0 h hl;clear h h0;refine aU FY rfl ?_
 repeat' first|refine aw ?_|refine bw (fun _=>?_) fun _=>?_
 exact aC (P:=P0) rfl rfl rfl rfl rfl
end Uw.Tryz
namespace Uw.Tryz
open Go Uw Go.Proofs Go.RowKit
theorem A7 (b:UInt8):uy (b.toNat:Int)=decide (cls b=1):=by
 refine abv.2 ?_;simp only [uy,decide_eq_true_eq];unfold cls;constructor
 ·intro h;rw [if_pos (by omega)]
 ·intro h
  split at h
  ·omega
  ·repeat' split at h
   all_goals omega
theorem Ic (b:UInt8):yl (b.toNat:Int)=decide (cls b=2):=by
 refine abv.2 ?_;simp only [yl,decide_eq_true_eq];unfold cls;constructor
 ·intro h;rw [if_neg (by omega),if_pos (by omega)]
 ·intro h
  repeat' split at h
  all_goals omega
theorem Lc (b:UInt8):decide ((b.toNat:Int)=95)=decide (cls b=3):=by
 refine abv.2 ?_;simp only [decide_eq_true_eq];unfold cls;constructor
 ·intro h;rw [if_neg (by omega),if_neg (by omega),if_pos (by omega)]
 ·intro h
  repeat' split at h
  all_goals omega
theorem P1 (b:UInt8):A4 (b.toNat:Int)=decide (cls b=4):=by
 refine abv.2 ?_;simp only [A4,decide_eq_true_eq];unfold cls;constructor
 ·intro h;rw [if_neg (by omega),if_neg (by omega),if_neg (by omega),if_pos (by omega)]
 ·intro h
  repeat' split at h
  all_goals omega
theorem M4 (s:List UInt8) (hs:s.length<1000000):Ret P0 kT [.str s,.func mY] (I ((s.takeWhile (fun b=>decide (cls b=1))).length:Nat)):=by
 have:=rl mY uy uQ.body rj (fun r hr=>by simp [uy];omega) s hs;simpa only [A7] using this
theorem P2 (s:List UInt8) (hs:s.length<1000000):Ret P0 kT [.str s,.func pg] (I ((s.takeWhile eG).length:Nat)):=by
 have:=rl pg yl wN.body yQ (fun r hr=>by simp [yl];omega) s hs;simp only [Ic] at this;exact this
theorem S7 (s:List UInt8) (hs:s.length<1000000):Ret P0 kT [.str s,.func mZ] (I ((s.takeWhile nameB).length:Nat)):=by
 have:=rl mZ (fun r=>uy r||yl r||decide (r=95)) uR.body F2 (fun r hr=>by simp [uy,yl];omega) s hs;simp only [A7,Ic,Lc] at this;exact this
theorem M5 (s:List UInt8) (hs:s.length<1000000):Ret P0 kT [.str s,.func ke] (I ((s.takeWhile (fun b=>decide (cls b=1)||decide (cls b=3))).length:Nat)):=by
 have:=rl ke (fun r=>uy r||decide (r=95)) rS.body A5 (fun r hr=>by simp [uy];omega) s hs;simp only [A7,Lc] at this;exact this
def jG (r:List UInt8):Nat:=match bu r with|some (k,n,_)=>if k=1 then n else 0|none=>0
def kJ (r:List UInt8):Nat:=match bu r with|some (k,n,_)=>if k=2 then n else 0|none=>0
def oc (r:List UInt8):Nat:=match bu r with|some (k,n,_)=>if k=3 then n else 0|none=>0
theorem M6 (c:UInt8) (t:List UInt8) (h:cls c≠1):jG (c::t)=0:=by
 rw [jG];by_cases h2:cls c=2
 ·rw [oa c t h2];split
  ·rename_i h3;split at h3
   ·simp at h3;simp [<- h3.1]
   ·cases h3
  ·rfl
 ·by_cases h5:cls c=5
  ·rw [lP c t h5];rfl
  ·rw [iV c t h h2 h5]
theorem JP (c:UInt8) (t:List UInt8) (h:cls c=1):jG (c::t)=if endOf (c::t)<=12 then endOf (c::t) else 0:=by
 rw [jG,lO c t h];by_cases h2:endOf (c::t)<=12
 ·rw [if_pos h2,if_pos h2];rfl
 ·rw [if_neg h2,if_neg h2]
theorem JQ (c:UInt8) (t:List UInt8) (hs:(c::t).length<1000000):Ret P0 iz [.str (c::t)] (I (jG (c::t))):=by
 have h1:=M4 (c::t) hs;have h2:=S7 (c::t) hs;by_cases h:cls c=1
 ·have e1:0<((c::t).takeWhile (fun b=>decide (cls b=1))).length:=by rw [aa1,if_pos (by simp [h])];simp
  have e2:((c::t).takeWhile nameB).length=endOf (c::t):=by rw [aa1,if_pos (by simp [nameB,h])];simp [endOf,h];omega
  have e3:=JP c t h;rw [e2] at h2;generalize endOf (c::t)=E at *;generalize ((c::t).takeWhile (fun b=>decide (cls b=1))).length=A at *;generalize jG (c::t)=R at *;clear e2;generalize c::t=s at *;by_cases hE:E<=12
  ·rw [if_pos hE] at e3
   subst e3;refine aU lE rfl ?_
   repeat' first|refine aw ?_|refine bw (fun _=>?_) fun _=>?_
   exact aC (P:=P0) rfl rfl rfl rfl rfl
  ·rw [if_neg hE] at e3
   subst e3;refine aU lE rfl ?_
   repeat' first|refine aw ?_|refine bw (fun _=>?_) fun _=>?_
   exact aC (P:=P0) rfl rfl rfl rfl rfl
 ·have e1:((c::t).takeWhile (fun b=>decide (cls b=1))).length=0:=by rw [aa1,if_neg (by simp [h])];rfl
  rw [e1] at h1;have e3:=M6 c t h;rw [e3];clear h2 e1 e3 h;generalize c::t=s at *;refine aU lE rfl ?_
  repeat' first|refine aw ?_|refine bw (fun _=>?_) fun _=>?_
  exact aC (P:=P0) rfl rfl rfl rfl rfl
theorem P3 (c:UInt8) (t:List UInt8) (h:cls c≠2):kJ (c::t)=0:=by
 rw [kJ];by_cases h2:cls c=1
 ·rw [lO c t h2];split
  ·rename_i h3;split at h3
   ·simp at h3;simp [<- h3.1]
   ·cases h3
  ·rfl
 ·by_cases h5:cls c=5
  ·rw [lP c t h5];rfl
  ·rw [iV c t h2 h h5]
theorem M7 (c:UInt8) (t:List UInt8) (h:cls c=2):kJ (c::t)=if 0<=zo ((c::t).take (endOf (c::t)))/\zf ((c::t).drop (endOf (c::t)))=false then endOf (c::t) else 0:=by
 rw [kJ,oa c t h];by_cases h2:0<=zo ((c::t).take (endOf (c::t)))/\zf ((c::t).drop (endOf (c::t)))=false
 ·rw [if_pos h2,if_pos h2];rfl
 ·rw [if_neg h2,if_neg h2]
theorem S8 (r:List UInt8):zf r=decide (0<(r.takeWhile (fun b=>decide (cls b=1)||decide (cls b=3))).length):=by
 cases r with
 | nil=>rfl
 | cons b t=>
  rw [zf,aa1]
  cases decide (cls b=1)||decide (cls b=3)<;>simp
theorem F3 (c:UInt8) (t:List UInt8) (hs:(c::t).length<1000000):Ret P0 fB [.str (c::t)] (I (kJ (c::t))):=by
 have h1:=P2 (c::t) hs;by_cases h:cls c=2
 ·have e1:((c::t).takeWhile eG).length=endOf (c::t):=by rw [aa1,if_pos (by simp [eG,h])];simp [endOf,h];omega
  have hall:=La c t h;have hle:=H9 c t;have e3:=M7 c t h;rw [e1] at h1;have hl0:(c::t).length=t.length+1:=rfl;have hc0:∀hp:0<(c::t).length,(c::t)[0]'hp=c:=fun _=>rfl;have hhd:((c::t).take (endOf (c::t))).head? = some 48<->c.toNat=48:=by
   rw [wX c t h,K9 _ (by simp)];rfl
  have h0:0<(c::t).length:=by simp
  generalize endOf (c::t)=E at *;clear e1;generalize kJ (c::t)=R at *;generalize c::t=s at *;have hc0:=congrArg UInt8.toNat (hc0 h0);have hwl:(s.take E).length=E:=by simp;omega
  have hsp:=M5 ((s.take s.length).drop E) (by simp;omega);have hlt:=S8 (s.drop E);have e5:(s.take s.length).drop E=s.drop E:=by rw [aaK]
  rw [<- e5] at e3 hlt;generalize zf ((s.take s.length).drop E)=L at *;generalize (((s.take s.length).drop E).takeWhile (fun b=>decide (cls b=1)||decide (cls b=3))).length=A at *;have hnr:zo (s.take E)=if 10<E\/(c.toNat=48/\1<E) then -1 else if 4294967296<=jC (s.take E) then -1 else ((jC (s.take E):Nat):Int):=by
   rw [zo,hwl];simp only [hhd]
  by_cases hb:10<E\/(c.toNat=48/\1<E)
  ·rw [if_pos hb] at hnr
   rw [if_neg (by rintro ⟨q,_⟩;omega)] at e3;subst e3;clear hsp hlt hall hhd e5 hnr;refine aU fL rfl ?_
   repeat' first|refine aw ?_|refine bw (fun _=>?_) fun _=>?_
   all_goals exact aC (P:=P0) rfl rfl rfl rfl rfl
  ·rw [if_neg hb] at hnr
   have hv:=yS ((s.take E).drop 0) (by rw [aa9];intro e;rw [e] at hwl;simp at hwl;omega) (by rw [aa9];exact hall) (by rw [aa9,hwl];omega);rw [show jC ((s.take E).drop 0)=jC (s.take E) by rw [aa9]] at hv;generalize jC (s.take E)=V at *;by_cases hA:0<A
   ·rw [decide_eq_true hA] at hlt
    rw [if_neg (by rintro ⟨_,q⟩;rw [hlt] at q;cases q)] at e3;subst e3;clear hall hhd e5 hnr;refine aU fL rfl ?_
    repeat' first|refine aw ?_|refine bw (fun _=>?_) fun _=>?_
    all_goals exact aC (P:=P0) rfl rfl rfl rfl rfl
   ·rw [decide_eq_false hA] at hlt
    by_cases hV:4294967296<=V
    ·rw [if_pos hV] at hnr
     rw [if_neg (by rintro ⟨q,_⟩;omega)] at e3;subst e3;clear hall hhd e5 hnr hlt;refine aU fL rfl ?_
     repeat' first|refine aw ?_|refine bw (fun _=>?_) fun _=>?_
     all_goals exact aC (P:=P0) rfl rfl rfl rfl rfl
    ·rw [if_neg hV] at hnr
     rw [if_pos ⟨by omega,hlt⟩] at e3;subst e3;clear hall hhd e5 hnr hlt;refine aU fL rfl ?_
     repeat' first|refine aw ?_|refine bw (fun _=>?_) fun _=>?_
     all_goals exact aC (P:=P0) rfl rfl rfl rfl rfl
 ·have e1:((c::t).takeWhile eG).length=0:=by rw [aa1,if_neg (by simp [eG,h])];rfl
  rw [e1] at h1;rw [P3 c t h];clear e1 h;generalize c::t=s at *;refine aU fL rfl ?_
  repeat' first|refine aw ?_|refine bw (fun _=>?_) fun _=>?_
  exact aC (P:=P0) rfl rfl rfl rfl rfl
end Uw.Tryz
namespace Uw.Tryz
open Go Uw Go.Proofs Go.RowKit
def F4:List UInt8:=[40,41,123,125,44,59,46,61,43,45,42,60]
theorem M8:∀n:Fin 256,decide (0<=Lib.indexByte F4 (UInt8.ofNat n.val))=decide (cls (UInt8.ofNat n.val)=5):=by decide +kernel
theorem M9 (c:UInt8):0<=Lib.indexByte F4 c<->cls c=5:=by
 have h:=M8 ⟨c.toNat,c.toNat_lt⟩;simp only [UInt8.ofNat_toNat] at h;exact decide_eq_decide.1 h
theorem JR (c:UInt8) (t:List UInt8):Lib.hasPrefix (c::t) [61,61]=(decide (c.toNat=61)&&eqq t):=by
 have key:∀b:UInt8,(61 == b)=decide (b.toNat=61):=by
  intro b;rw [abv,beq_iff_eq,decide_eq_true_eq];exact ⟨fun h=>by rw [<- h];rfl,fun h=>(adg.1 (by rw [h];rfl)).symm⟩
 rw [Lib.hasPrefix]
 cases t with
 | nil=>simp [List.isPrefixOf,eqq]
 | cons b r=>simp only [List.isPrefixOf,eqq,key,Bool.and_true]
theorem Eu (c:UInt8) (t:List UInt8) (h:cls c=5):oc (c::t)=endOf (c::t):=by rw [oc,lP c t h];rfl
theorem P4 (c:UInt8) (t:List UInt8) (h:cls c≠5):oc (c::t)=0:=by
 rw [oc];by_cases h1:cls c=1
 ·rw [lO c t h1];split
  ·rename_i h3;split at h3
   ·simp at h3;simp [<- h3.1]
   ·cases h3
  ·rfl
 ·by_cases h2:cls c=2
  ·rw [oa c t h2];split
   ·rename_i h3;split at h3
    ·simp at h3;simp [<- h3.1]
    ·cases h3
   ·rfl
  ·rw [iV c t h1 h2 h]
theorem JS (c:UInt8) (t:List UInt8) (hs:(c::t).length<1000000):Ret P0 iC [.str (c::t)] (I (oc (c::t))):=by
 have h1:=uz (c::t) [61,61];have h2:=uA F4 c;rw [JR] at h1;have h3:=M9 c;have h0:0<(c::t).length:=by simp
 have hc0:∀hp:0<(c::t).length,(c::t)[0]'hp=c:=fun _=>rfl;have hc0:=hc0 h0;have he:cls c=5->(decide (c.toNat=61)&&eqq t)=true->oc (c::t)=2:=fun h h'=>by
  simp at h';rw [Eu c t h,nZ c t h,if_pos h']
 have he2:cls c=5->(decide (c.toNat=61)&&eqq t)=false->oc (c::t)=1:=fun h h'=>by
  rw [Eu c t h,nZ c t h,if_neg (by rintro ⟨q1,q2⟩;rw [decide_eq_true q1,q2] at h';cases h')]
 have he3:cls c≠5->oc (c::t)=0:=P4 c t;have h61:(decide (c.toNat=61)&&eqq t)=true->cls c=5:=fun h=>by
  simp at h;have:c=61:=adg.1 h.1;subst this;rfl
 generalize (decide (c.toNat=61)&&eqq t)=q at *;generalize oc (c::t)=R at *;generalize Lib.indexByte F4 c=X at *;by_cases h5:cls c=5
 ·have hX:0<=X:=h3.2 h5
  cases q with
  | true=>
   have he:=he h5 rfl;subst he;clear h2 h3 hX he2 he3 h61 hc0;generalize c::t=s at *;refine aU lF rfl ?_
   repeat' first|refine aw ?_|refine bw (fun _=>?_) fun _=>?_
   exact aC (P:=P0) rfl rfl rfl rfl rfl
  | false=>
   have he:=he2 h5 rfl;subst he;clear he2 he3 h61;rw [<- hc0] at h2;clear hc0 h3;generalize c::t=s at *;refine aU lF rfl ?_
   repeat' first|refine aw ?_|refine bw (fun _=>?_) fun _=>?_
   exact aC (P:=P0) rfl rfl rfl rfl rfl
 ·have hX:¬0<=X:=fun h=>h5 (h3.1 h)
  have he:=he3 h5;subst he
  cases q with
  | true=>exact absurd (h61 rfl) h5
  | false=>
   clear he2 he3 h61;rw [<- hc0] at h2;clear hc0 h3;generalize c::t=s at *;refine aU lF rfl ?_
   repeat' first|refine aw ?_|refine bw (fun _=>?_) fun _=>?_
   exact aC (P:=P0) rfl rfl rfl rfl rfl
def l7 (r:List UInt8):Tok×Bool:=match bu r with|none=>(⟨0,[],0,0⟩,false)|some (k,n,v)=>(⟨k,r.take n,v,0⟩,true)
def P5 (x:Tok×Bool):Dat:=.tuple [.agg (sE x.1),.bool x.2]
def P6:Dat:=.slice 2 [[I 1,.func iz],[I 2,.func fB],[I 3,.func iC]] false
theorem Ie {r:List UInt8} {k:Int} {n:Nat} {v:Int} (h:bu r=some (k,n,v)) :
  (k=1/\v=0/\n<=12)\/(k=2/\v=(jC (r.take n):Nat)/\(r.take n).all eG=true/\n<=10/\v<4294967296)\/(k=3/\v=0/\n<=2):=by
 cases r with
 | nil=>simp [bu] at h
 | cons c t=>
  by_cases h1:cls c=1
  ·rw [lO c t h1] at h
   split at h
   ·simp only [aaP,abf] at h;omega
   ·cases h
  ·by_cases h2:cls c=2
   ·have ha:=La c t h2
    rw [oa c t h2] at h
    split at h
    ·rename_i hc
     simp only [aaP,abf] at h;obtain ⟨q1,q2,q3⟩:=h;have hc:=hc.1;have hel:=H9 c t;rw [q2] at ha hc q3 hel;have hl:((c::t).take n).length=n:=by simp;omega
     rw [zo] at q3 hc
     split at hc
     ·omega
     ·rename_i q4
      rw [if_neg q4] at q3
      split at hc
      ·omega
      ·rename_i q5
       rw [if_neg q5] at q3;right;left;exact ⟨q1.symm,q3.symm,ha,by omega,by omega⟩
    ·cases h
   ·by_cases h5:cls c=5
    ·rw [lP c t h5] at h
     simp only [aaP,abf] at h;have:=nZ c t h5
     split at this<;>omega
    ·rw [iV c t h1 h2 h5] at h;cases h
theorem Ig (r:List UInt8):(jG r≠0->l7 r=(⟨1,r.take (jG r),0,0⟩,true)/\jG r<=r.length)/\
  (jG r=0->kJ r≠0->l7 r=(⟨2,r.take (kJ r),(jC (r.take (kJ r)):Nat),0⟩,true)/\(r.take (kJ r)).all eG=true/\kJ r<=10/\kJ r<=r.length)/\
  (jG r=0->kJ r=0->oc r≠0->l7 r=(⟨3,r.take (oc r),0,0⟩,true)/\oc r<=r.length)/\(jG r=0->kJ r=0->oc r=0->l7 r=(⟨0,[],0,0⟩,false)):=by
 rw [jG,kJ,oc,l7]
 cases h:bu r with
 | none=>simp
 | some x=>
  obtain ⟨k,n,v⟩:=x;have hn:=ft h
  rcases Ie h with ⟨rfl,rfl,_⟩|⟨rfl,rfl,h2,h3,_⟩|⟨rfl,rfl,_⟩
  ·simp only [if_true]
   exact ⟨fun _=>⟨trivial,hn.2⟩,fun h=>by omega,fun h=>by omega,fun h=>by omega⟩
  ·simp only [show ¬(2:Int)=1 by omega,if_false,if_true]
   exact ⟨fun h=>by omega,fun _ _=>⟨trivial,h2,h3,hn.2⟩,fun _ h=>by omega,fun _ h=>by omega⟩
  ·simp only [show ¬(3:Int)=1 by omega,show ¬(3:Int)=2 by omega,if_false,if_true]
   exact ⟨fun h=>by omega,fun _ h=>by omega,fun _ _ _=>⟨trivial,hn.2⟩,fun _ _ h=>by omega⟩
theorem Ih (c:UInt8) (t:List UInt8) (hs:(c::t).length<1000000):Ret P0 sK [P6,.str (c::t)] (P5 (l7 (c::t))):=by
 have h1:=JQ c t hs;have h2:=F3 c t hs;have h3:=JS c t hs;obtain ⟨f1,f2,f3,f4⟩:=Ig (c::t);have hv:=fun (q:(jG (c::t)=0/\kJ (c::t)≠0))=>yS (((c::t).take (kJ (c::t))).drop 0) (by rw [aa9];intro e;have:=congrArg List.length e;rw [aa5] at this;have:=(f2 q.1 q.2).2.2.2;simp at *;omega) (by rw [aa9];exact (f2 q.1 q.2).2.1) (by rw [aa9,aa5];have:=(f2 q.1 q.2).2.2.1;omega);simp only [aa9] at hv;generalize jG (c::t)=A at *;generalize kJ (c::t)=B at *;generalize oc (c::t)=C at *;generalize l7 (c::t)=R at *;generalize c::t=s at *;refine aU FU rfl ?_
 repeat' first|refine aw ?_|refine bw (fun _=>?_) fun _=>?_
 refine du (fun k:Nat=>⟨[(12,.d (I k)),(11,.d (I (↑[[I 1,Dat.func iz],[I 2,Dat.func fB],[I 3,Dat.func iC]].length))),(10,.d P6),(4,.ptr 0 0),(1,.d (.str s))],[(0,.var [.d (I 0),.d (.str []),.d (I 0),.d (I 0)])],1,[],0⟩)
  (fun k=>k<=3/\(1<=k->A=0)/\(2<=k->B=0)/\(3<=k->C=0)) (fun k=>3 - k) 0 (by exact Uw.wW) (by omega) ?_
 rintro k ⟨k1,k2,k3,k4⟩;have hk:k=0\/k=1\/k=2\/k=3:=by omega
 rcases hk with rfl|rfl|rfl|rfl
 ·by_cases hA:A=0
  ·clear f1 f2 f3 f4 hv
   subst hA
   repeat' first|refine aw ?_|refine bw (fun _=>?_) fun _=>?_
   refine jx _ rfl ?_
   repeat' first|refine aw ?_|refine bw (fun _=>?_) fun _=>?_
   refine iQ _ lE.body rfl h1 ?_
   repeat' first|refine aw ?_|refine bw (fun _=>?_) fun _=>?_
   exact cn 1 (by omega) (by omega) (by exact Uw.wW)
  ·obtain ⟨e,hle⟩:=f1 hA
   subst e;clear f1 f2 f3 f4 hv
   repeat' first|refine aw ?_|refine bw (fun _=>?_) fun _=>?_
   refine jx _ rfl ?_
   repeat' first|refine aw ?_|refine bw (fun _=>?_) fun _=>?_
   refine iQ _ lE.body rfl h1 ?_
   repeat' first|refine aw ?_|refine bw (fun _=>?_) fun _=>?_
   refine cm ⟨[(7,.ptr 1 0),(9,.ptr 2 0),(4,.ptr 0 0)],[(2,.var [.d (I 1),.d (.str ((s.take A).drop 0)),.d (I 0),.d (I 0)]),(1,.var [.d (I 1),.d (.func iz)]),(0,.var [.d (I 0),.d (.str []),.d (I 0),.d (I 0)])],3,[],0⟩ ?_ ?_
   ·repeat' first|refine aw ?_|refine bw (fun _=>?_) fun _=>?_
    exact aS (.inl ⟨rfl,by exact Uw.wW⟩)
   ·repeat' first|refine aw ?_|refine bw (fun _=>?_) fun _=>?_
    exact bV (aC (P:=P0) rfl rfl rfl rfl rfl)
 ·have hA:=k2 (by omega)
  by_cases hB:B=0
  ·clear f1 f2 f3 f4 hv
   subst hB
   repeat' first|refine aw ?_|refine bw (fun _=>?_) fun _=>?_
   refine jx _ rfl ?_
   repeat' first|refine aw ?_|refine bw (fun _=>?_) fun _=>?_
   refine iQ _ fL.body rfl h2 ?_
   repeat' first|refine aw ?_|refine bw (fun _=>?_) fun _=>?_
   exact cn 2 (by omega) (by omega) (by exact Uw.wW)
  ·obtain ⟨e,q1,q2,hle⟩:=f2 hA hB
   have hv:=hv ⟨hA,hB⟩;subst e;clear f1 f2 f3 f4
   repeat' first|refine aw ?_|refine bw (fun _=>?_) fun _=>?_
   refine jx _ rfl ?_
   repeat' first|refine aw ?_|refine bw (fun _=>?_) fun _=>?_
   refine iQ _ fL.body rfl h2 ?_
   repeat' first|refine aw ?_|refine bw (fun _=>?_) fun _=>?_
   refine cm ⟨[(7,.ptr 1 0),(9,.ptr 2 0),(4,.ptr 0 0)],[(2,.var [.d (I 2),.d (.str ((s.take B).drop 0)),.d (I 0),.d (I 0)]),(1,.var [.d (I 2),.d (.func fB)]),(0,.var [.d (I 0),.d (.str []),.d (I 0),.d (I 0)])],3,[],0⟩ ?_ ?_
   ·repeat' first|refine aw ?_|refine bw (fun _=>?_) fun _=>?_
    exact aS (.inl ⟨rfl,by exact Uw.wW⟩)
   ·repeat' first|refine aw ?_|refine bw (fun _=>?_) fun _=>?_
    exact bV (aC (P:=P0) rfl rfl rfl rfl rfl)
 ·have hA:=k2 (by omega)
  have hB:=k3 (by omega);by_cases hC:C=0
  ·clear f1 f2 f3 f4 hv
   subst hC
   repeat' first|refine aw ?_|refine bw (fun _=>?_) fun _=>?_
   refine jx _ rfl ?_
   repeat' first|refine aw ?_|refine bw (fun _=>?_) fun _=>?_
   refine iQ _ lF.body rfl h3 ?_
   repeat' first|refine aw ?_|refine bw (fun _=>?_) fun _=>?_
   exact cn 3 (by omega) (by omega) (by exact Uw.wW)
  ·obtain ⟨e,hle⟩:=f3 hA hB hC
   subst e;clear f1 f2 f3 f4 hv
   repeat' first|refine aw ?_|refine bw (fun _=>?_) fun _=>?_
   refine jx _ rfl ?_
   repeat' first|refine aw ?_|refine bw (fun _=>?_) fun _=>?_
   refine iQ _ lF.body rfl h3 ?_
   repeat' first|refine aw ?_|refine bw (fun _=>?_) fun _=>?_
   refine cm ⟨[(7,.ptr 1 0),(9,.ptr 2 0),(4,.ptr 0 0)],[(2,.var [.d (I 3),.d (.str ((s.take C).drop 0)),.d (I 0),.d (I 0)]),(1,.var [.d (I 3),.d (.func iC)]),(0,.var [.d (I 0),.d (.str []),.d (I 0),.d (I 0)])],3,[],0⟩ ?_ ?_
   ·repeat' first|refine aw ?_|refine bw (fun _=>?_) fun _=>?_
    exact aS (.inl ⟨rfl,by exact Uw.wW⟩)
   ·repeat' first|refine aw ?_|refine bw (fun _=>?_) fun _=>?_
    exact bV (aC (P:=P0) rfl rfl rfl rfl rfl)
 ·have hA:=k2 (by omega)
  have hB:=k3 (by omega);have hC:=k4 (by omega);have e:=f4 hA hB hC;subst e;clear f1 f2 f3 f4 hv k2 k3 k4
  repeat' first|refine aw ?_|refine bw (fun _=>?_) fun _=>?_
  exact aC (P:=P0) rfl rfl rfl rfl rfl
end Uw.Tryz
namespace Uw.Tryz
open Go Uw Go.Proofs Go.RowKit
theorem yT {r:List UInt8} (h:bu r=none):l7 r=(⟨0,[],0,0⟩,false):=by rw [l7,h]
theorem Ii {r:List UInt8} {k:Int} {n:Nat} {v:Int} (h:bu r=some (k,n,v)):l7 r=(⟨k,r.take n,v,0⟩,true):=by rw [l7,h]
theorem Na {b:UInt8} (h:nameB b=true):b.toNat<128:=by
 simp only [nameB,abg,decide_eq_true_eq] at h;unfold cls at h
 repeat' split at h
 all_goals omega
theorem zE {b:UInt8} (h:cls b≠0):b.toNat<128:=by
 unfold cls at h
 repeat' split at h
 all_goals omega
theorem uT {α:Type} (p:α->Bool) (l:List α):∀x∈l.takeWhile p,p x=true:=aaS.1 (all_takeWhile p l)
theorem S9 {r:List UInt8} {k:Int} {n:Nat} {v:Int} (h:bu r=some (k,n,v)):∀b∈r.take n,b.toNat<128:=by
 cases r with
 | nil=>simp [bu] at h
 | cons c t=>
  by_cases h1:cls c=1
  ·rw [lO c t h1] at h
   have e:endOf (c::t)=1+(t.takeWhile nameB).length:=by simp [endOf,h1]
   split at h
   ·simp only [aaP,abf] at h
    rw [<- h.2.1,e,abX,abd,take_takeWhile];intro b hb
    rcases aaN.1 hb with rfl|hb
    ·exact zE (by omega)
    ·exact Na (uT _ _ b hb)
   ·cases h
  ·by_cases h2:cls c=2
   ·have hd:=wX c t h2
    rw [oa c t h2] at h
    split at h
    ·simp only [aaP,abf] at h
     rw [<- h.2.1,hd];intro b hb
     rcases aaN.1 hb with rfl|hb
     ·exact zE (by omega)
     ·have:=vC (uT _ _ b hb);omega
    ·cases h
   ·by_cases h5:cls c=5
    ·have he:=nZ c t h5
     rw [lP c t h5] at h;simp only [aaP,abf] at h;rw [<- h.2.1,he];intro b hb
     split at hb
     ·rename_i q
      cases t with
      | nil=>simp [eqq] at q
      | cons d u=>
       simp only [eqq,decide_eq_true_eq] at q;simp at hb
       rcases hb with rfl|rfl<;>omega
     ·simp at hb;subst hb;exact zE (by omega)
    ·rw [iV c t h1 h2 h5] at h;cases h
def Ld (s:List UInt8) (k b:Nat):Prop:=∀i,k<=i->i<b->∀c,s[i]? = some c->c.toNat<128
theorem pq (s:List UInt8) (hs:s.length<1000000):Ret P0 yN [.str s] (PT (fh s)):=by
 refine Ret.res (r:=DC s) ?_ (S4 s);by_cases h4:4000<s.length
 ·have e:DC s = .tuple [.nil,I 2]:=by rw [DC,if_pos h4]
  rw [e];refine aU wy rfl ?_
  repeat' first|refine aw ?_|refine bw (fun _=>?_) fun _=>?_
  exact aC (P:=P0) rfl rfl rfl rfl rfl
 ·have bad:jD s 0=none->DC s = .tuple [.nil,I 3]:=fun h=>by rw [DC,if_neg h4,h]
  have good:∀l,jD s 0=some l->DC s = .tuple [wk l,I 0]:=fun l h=>by rw [DC,if_neg h4,h]
  generalize DC s=R at bad good;refine aU wy rfl ?_
  repeat' first|refine aw ?_|refine bw (fun _=>?_) fun _=>?_
  refine du (fun ((k,b,n,xs):Nat×Nat×Nat×List (List Dat))=>⟨[(19,.hnd 0),(6,.d (I b)),(5,.ref 1 0 0 n),(4,.d (Dat.slice 2 ((((List.replicate 3 [Dat.int IntKind.i64 0,Dat.nilFunc]).set 0 [Dat.int IntKind.i64 1,Dat.func iz]).set 1 [Dat.int IntKind.i64 2,Dat.func fB]).set 2 [Dat.int IntKind.i64 3,Dat.func iC]) true)),(0,.d (.str s))],[(1,.arr 4 xs),(0,.iter s k)],2,[],0⟩)
   (fun (k,b,n,xs)=>k<=s.length/\b<=s.length/\n=xs.length/\n<=b/\n<=k/\Ld s k b/\∃out,xs=out.map sE/\Read s (max k b) out) (fun (k,_)=>s.length - k) (0,0,0,[]) (by exact Uw.wW) ⟨by omega,by omega,rfl,by omega,by omega,by intro i h1 h2;omega,[],rfl,Read.init s⟩ ?_
  rintro ⟨k,b,n,xs⟩ ⟨h1,h2,h3,h3',ZY,hlow,out,h5,h6⟩;by_cases hk:k<s.length
  ·have hk' : s[k]? = some s[k]:=by simp [hk]
   have hd:s.drop k=s[k]::s.drop (k+1):=aaW hk;by_cases hkb:k<b
   ·have hl:=hlow k (aax _) hkb s[k] hk'
    have hr:=vh s k s[k] hk' hl;have hr2:(ca s k).2=1:=by rw [hr]
    clear hr;have hm:max (k+(ca s k).2) b=max k b:=by omega
    have h7:Read s (max (k+(ca s k).2) b) out:=by rw [hm];exact h6
    have hl2:Ld s (k+(ca s k).2) b:=fun i q1 q2=>hlow i (by omega) q2;clear good bad h6 hd hlow
    repeat' first|refine aw ?_|refine bw (fun _=>?_) fun _=>?_
    exact cn (k+(ca s k).2,b,n,xs) ⟨by omega,h2,h3,h3',by omega,hl2,out,h5,h7⟩ (by simp only;omega) (by exact Uw.wW)
   ·have hm:max k b=k:=by omega
    rw [hm] at h6;have hbl:=Ib ((ca s k).1:Int);have hfi:=(Ih s[k] (s.drop (k+1)) (by rw [<- hd];simp;omega)).args (ds:=[.slice 2 [[I 1,.func iz],[I 2,.func fB],[I 3,.func iC]] true,.str (s[k]::s.drop (k+1))]) (.cons (.slice (.refl _)) (.refl _));rw [<- hd] at hfi;have Ti : Ret P0 sK [.slice 2 [[I 1,.func iz],[I 2,.func fB],[I 3,.func iC]] true,.str ((s.take s.length).drop k)] (P5 (l7 (s.drop k))):=by rw [aaK];exact hfi
    clear hfi;by_cases hl:s[k].toNat<128
    ·have hr:=vh s k s[k] hk' hl
     have hr1:((ca s k).1:Int)=s[k].toNat:=by rw [hr]
     have hr2:(ca s k).2=1:=by rw [hr]
     clear hr;rw [show A4 ((ca s k).1:Int)=decide (cls s[k]=4) by rw [hr1,P1]] at hbl;by_cases k4:cls s[k]=4
     ·rw [decide_eq_true k4] at hbl
      have h7:Read s (max (k+(ca s k).2) b) out:=by rw [hr2,show max (k+1) b=k+1 by omega];exact h6.blank hk k4
      have hl2:Ld s (k+(ca s k).2) b:=fun i q1 q2=>by omega
      clear good bad h6 hd hlow Ti
      repeat' first|refine aw ?_|refine bw (fun _=>?_) fun _=>?_
      exact cn (k+(ca s k).2,b,n,xs) ⟨by omega,h2,h3,h3',by omega,hl2,out,h5,h7⟩ (by simp only;omega) (by exact Uw.wW)
     ·rw [decide_eq_false k4] at hbl
      cases ht:bu (s.drop k) with
      | none=>
       rw [yT ht] at Ti;have hb:=bad (h6.none hk k4 ht);subst hb;clear good bad h6 hd hlow ht
       repeat' first|refine aw ?_|refine bw (fun _=>?_) fun _=>?_
       exact bV (aC (P:=P0) rfl rfl rfl rfl rfl)
      | some x=>
       obtain ⟨K,N,v⟩:=x;rw [Ii ht] at Ti;have hn:=ft ht;have hlw:=S9 ht;have h8:=h6.tok hk k4 ht;have hN:k+N<=s.length:=by have:=hn.2;simp at this;omega
       have hxl:((s.drop k).take N).length=N:=S5 hN;have h7:Read s (max (k+(ca s k).2) (k+N)) (out++[⟨K,(s.drop k).take N,v,k⟩]):=by rw [hr2,show max (k+1) (k+N)=k+N by omega];exact h8
       have hl2:Ld s (k+(ca s k).2) (k+N):=by
        intro i q1 q2 c hc;refine hlw c ?_;rw [adq];refine ⟨i - k,by simp;have:=(aa0.1 hc).1;omega,?_⟩;rw [List.getElem_drop];have:=(aa0.1 hc).2;simp only [show k+(i - k)=i by omega];exact this
       generalize (s.drop k).take N=w at *;clear good bad h6 hd hlow ht h8 hlw;have hen:(k:Int)+(w.length:Int)=((k+N:Nat):Int):=by omega
       repeat' first|refine aw ?_|refine bw (fun _=>?_) fun _=>?_
       refine cn (k+(ca s k).2,k+N,n+1,xs++[[I K,.str w,I v,I k]]) ⟨by omega,hN,by simp [h3],by omega,by omega,hl2,out++[⟨K,w,v,k⟩],?_,h7⟩ (by simp only;omega) (by exact Uw.wW);rw [h5];simp [sE]
    ·obtain ⟨a1,a2,a3,a4,a5⟩:=yK s k s[k] hk' (by omega)
     have hc0:cls s[k]=0:=by
      by_cases h:cls s[k]=0
      ·exact h
      ·exact absurd (zE h) hl
     have ht:bu (s.drop k)=none:=by rw [hd];exact iV _ _ (by omega) (by omega) (by omega)
     rw [show A4 ((ca s k).1:Int)=false by simp [A4];omega] at hbl;rw [yT ht] at Ti;have hb:=bad (h6.none hk (by omega) ht);subst hb;clear good bad h6 hd hlow ht a5
     repeat' first|refine aw ?_|refine bw (fun _=>?_) fun _=>?_
     exact bV (aC (P:=P0) rfl rfl rfl rfl rfl)
  ·have hg:=good out (h6.end (by omega))
   subst hg;clear good bad h6 hlow
   repeat' first|refine aw ?_|refine bw (fun _=>?_) fun _=>?_
   exact aC (P:=P0) rfl rfl rfl rfl (by rw [Wh h3 h5];rfl)
end Uw.Tryz
namespace Uw.Tryz
open Go Uw Go.Proofs
inductive Placed (s:List UInt8):Nat->List Tok->Prop
 | nil {a:Nat} (h:∀(k:Nat) (hk:k<s.length),a<=k->cls s[k]=4):Placed s a []
 | cons {a p n:Nat} {k:Int} {v:Int} {l:List Tok} (h1:a<=p) (h2:∀(k:Nat) (hk:k<s.length),a<=k->k<p->cls s[k]=4) (h3:bu (s.drop p)=some (k,n,v)) (h4:Placed s (p+n) l):Placed s a (⟨k,(s.drop p).take n,v,p⟩::l)
theorem Placed.blank {s:List UInt8} {a:Nat} {l:List Tok} (h:Placed s (a+1) l) (ha:a<s.length) (hb:cls s[a]=4):Placed s a l:=by
 have key:∀(k:Nat) (hk:k<s.length),a<=k->(a+1<=k->cls s[k]=4)->cls s[k]=4:=by
  intro k hk h1 h2;by_cases e:k=a
  ·subst e;exact hb
  ·exact h2 (by omega)
 cases h with
 | nil h=>exact .nil (fun k hk h1=>key k hk h1 (h k hk))
 | cons h1 h2 h3 h4=>exact .cons (by omega) (fun k hk q1 q2=>key k hk q1 (fun q=>h2 k hk q q2)) h3 h4
theorem Ij (s:List UInt8):∀(f a:Nat),s.length - a<=f->∀l,jD (s.drop a) (a:Int)=some l->Placed s a l:=by
 intro f
 induction f with
 | zero=>
  intro a h l hl;rw [abh (by omega),Av] at hl;injection hl with hl;subst hl
  exact .nil (fun k hk h1=>by omega)
 | succ f ih=>
  intro a h l hl;by_cases ha:a<s.length
  ·rw [aaW ha] at hl
   by_cases hb:cls s[a]=4
   ·rw [vl _ _ _ hb] at hl
    exact (ih (a+1) (by omega) l hl).blank ha hb
   ·cases ht:bu (s[a]::s.drop (a+1)) with
    | none=>rw [Ej _ _ _ hb ht] at hl;cases hl
    | some q=>
     obtain ⟨k,n,v⟩:=q;have hn:=ft ht;rw [Aw _ _ _ hb ht,<- aaW ha,ach,show (a:Int)+(n:Int)=((a+n:Nat):Int) by omega] at hl;rw [<- aaW ha] at ht
     cases hr:jD (s.drop (a+n)) ((a+n:Nat):Int) with
     | none=>rw [hr] at hl;cases hl
     | some l'=>
      rw [hr] at hl;simp only [adh,aaP] at hl;subst hl;exact .cons (aax _) (fun k hk q1 q2=>by omega) ht (ih (a+n) (by omega) l' hr)
  ·rw [abh (by omega),Av] at hl
   injection hl with hl;subst hl
   exact .nil (fun k hk h1=>by omega)
theorem Nb {s:List UInt8} {l:List Tok} (h:jD s 0=some l):Placed s 0 l:=Ij s s.length 0 (by omega) l (by simpa using h)
theorem Placed.len {s:List UInt8} {a:Nat} {l:List Tok} (h:Placed s a l):l.length<=s.length - a/\(l.map fun t=>t.text.length+1).sum<=2 * (s.length - a):=by
 induction h with
 | nil h=>simp
 | @cons a p n k v l h1 h2 h3 h4 ih=>
  have:=(ft h3).2;have:=(ft h3).1;simp at *;omega
theorem Ik {s:List UInt8} {l:List Tok} (h:jD s 0=some l):l.length<=s.length/\(l.map fun t=>t.text.length+1).sum<=2 * s.length:=by
 have:=(Nb h).len;simpa using this
end Uw.Tryz
namespace Uw.Tryz
open Go Uw
def ofT (l:List Tok):Pg×Int:=
 if 40<iw l 0 0 then (yc,2)
 else match oZ l with
  | none=>(yc,3)
  | some x=>(mW x,0)
theorem Il {s:List UInt8} {l:List Tok} (h:jD s 0=some l) (hs:s.length<=4000):ofR s=ofT l:=by
 have hw:fh s=(l,0):=by unfold fh;rw [if_neg (by omega),h]
 unfold ofR ofT;rw [hw];rfl
theorem P7 {s:List UInt8} (h:jD s 0=none) (hs:s.length<=4000):ofR s=(yc,3):=by
 have hw:fh s=([],3):=by unfold fh;rw [if_neg (by omega),h]
 unfold ofR;rw [hw];rfl
theorem yU:∀(l:List Tok) (d m:Int),iw (l.map strip) d m=iw l d m
 | [],_,_=>rfl
 | t::r,d,m=>yU r _ _
theorem Nc (l:List Tok):ofT (l.map strip)=ofT l:=by
 unfold ofT;rw [HT,yU]
theorem WM {l:List Tok} (h:(ofT l).2=0):∃ds fs,Prg l ds fs/\ofT l=(mW (ds,fs),0)/\iw l 0 0<=40:=by
 unfold ofT at h ⊢;by_cases hd:40<iw l 0 0
 ·rw [if_pos hd] at h;cases h
 ·rw [if_neg hd] at h ⊢
  cases hp:oZ l with
  | none=>rw [hp] at h;cases h
  | some x=>
   obtain ⟨ds,fs⟩:=x;exact ⟨ds,fs,yb.1 hp,rfl,by omega⟩
theorem Tm {l:List Tok} {ds:List Dec} {fs:List Fn} (h:Prg l ds fs) (hd:iw l 0 0<=40):ofT l=(mW (ds,fs),0):=by
 unfold ofT;rw [if_neg (by omega),yb.2 h]
theorem Tn {r r' : List Tok} {f:Fn} (h:Reads lZ r f r') (r2:List Tok):Reads lZ (r++r2) f (r'++r2):=by
 obtain ⟨n,h⟩:=h;obtain ⟨c,e⟩:=(tN n).pre _ _ _ h;refine ⟨n,?_⟩;rw [e] at h ⊢;rw [aaD];exact S0 h _
theorem oJ.app {l1 r1:List Tok} {ds:List Dec} (h:oJ l1 ds r1) (r2:List Tok) (h2:r2=[]\/hd r2=fW):oJ (l1++r2) ds (r1++r2):=by
 induction h with
 | stop h=>
  rename_i r;refine .stop ?_;by_cases hr:r=[]
  ·subst hr;exact h2
  ·rw [vn r r2 [] hr,aa6];exact .inr (h.resolve_left hr)
 | cons h hd' _ ih=>
  rename_i r r' r'' d ds1 _;obtain ⟨c,e⟩:=qp.pre _ _ _ hd';have hp:mg (r++r2) = .ok d (r'++r2):=by
   rw [e] at hd' ⊢;rw [aaD];exact PW hd' _
  have hne:r≠[]:=fun e=>h (.inl e);refine .cons ?_ hp ih;rintro (hh|hh)
  ·exact hne (List.append_eq_nil_iff.1 hh).1
  ·rw [vn r r2 [] hne,aa6] at hh;exact h (.inr hh)
theorem mV.app {l1:List Tok} {fs1:List Fn} (h:mV l1 fs1) {l2:List Tok} {fs2:List Fn} (h2:mV l2 fs2):mV (l1++l2) (fs1++fs2):=by
 induction h with
 | nil=>exact h2
 | cons h _ ih=>exact .cons (Tn h l2) ih
theorem Prg.app {l1 l2:List Tok} {ds1:List Dec} {fs1 fs2:List Fn} (h1:Prg l1 ds1 fs1) (h2:Prg l2 [] fs2):Prg (l1++l2) ds1 (fs1++fs2):=by
 obtain ⟨q1,a1,b1⟩:=h1;obtain ⟨q2,a2,b2⟩:=h2
 cases a2 with
 | stop h=>exact ⟨_,a1.app l2 h,b1.app b2⟩
theorem oJ.bal {r r' : List Tok} {ds:List Dec} (h:oJ r ds r'):(∀t∈r,Wf t)->Uw.Tryz.bal r=Uw.Tryz.bal r'/\∀t∈r',Wf t:=by
 induction h with
 | stop _=>exact fun h=>⟨rfl,h⟩
 | cons _ h1 _ ih=>
  intro ht;have h2:=qp.bal _ _ _ ht h1;obtain ⟨c,e⟩:=qp.pre _ _ _ h1;obtain ⟨g1,g2⟩:=ih (fun t h=>ht t (by rw [e];exact abt _ h));exact ⟨by rw [h2,g1];omega,g2⟩
theorem mV.bal {r:List Tok} {fs:List Fn} (h:mV r fs):(∀t∈r,Wf t)->Uw.Tryz.bal r=0:=by
 induction h with
 | nil=>exact fun _=>rfl
 | cons h1 _ ih=>
  intro ht;obtain ⟨n,h1⟩:=h1;have h2:=(tN n).bal _ _ _ ht h1;obtain ⟨c,e⟩:=(tN n).pre _ _ _ h1;rw [h2,ih (fun t h=>ht t (by rw [e];exact abt _ h))];rfl
theorem Prg.bal {l:List Tok} {ds:List Dec} {fs:List Fn} (h:Prg l ds fs) (ht:∀t∈l,Wf t):Uw.Tryz.bal l=0:=by
 obtain ⟨q,a,b⟩:=h;obtain ⟨h1,h2⟩:=a.bal ht;rw [h1,b.bal h2]
end Uw.Tryz
namespace Uw.Tryz
open Go Uw
abbrev txs (l:List Tok):List Str:=l.map (·.text)
def uB:List Str->Int
 | []=>0
 | s::r=>delta s+uB r
def uC:List Str->Int->Int->Int
 | [],_,m=>m
 | s::r,d,m=>uC r (d+delta s) (max m (d+delta s))
theorem F5:∀(l:List Tok) (d m:Int),iw l d m=uC (txs l) d m
 | [],_,_=>rfl
 | t::r,d,m=>F5 r _ _
theorem ym:∀(l:List Str) {d m d' m' : Int},d<=d'->m<=m'->uC l d m<=uC l d' m'
 | [],_,_,_,_,_,h=>h
 | s::r,d,m,d',m',h1,h2=>ym r (by omega) (by omega)
theorem wY:∀(a b:List Str) (d m:Int),uC (a++b) d m=uC b (d+uB a) (uC a d m)
 | [],b,d,m=>by simp [uC,uB]
 | t::r,b,d,m=>by
  rw [aaE,uC,wY r b,uC,uB,Int.add_assoc]
theorem wZ:∀(a b:List Str),uB (a++b)=uB a+uB b
 | [],b=>by simp [uB]
 | t::r,b=>by
  rw [aaE,uB,wZ r b,uB];omega
structure T (c o:List Str):Prop where
 sub:o.Sublist c
 bal:uB o=uB c
 dep:∀d m,uC o d m<=uC c d m
theorem T.refl (c:List Str):T c c:=⟨List.Sublist.refl c,rfl,fun _ _=>Int.le_refl _⟩
theorem T.of {c o:List Str} (h:c=o):T c o:=h ▸ T.refl c
theorem T.trans {a b c:List Str} (h1:T a b) (h2:T b c):T a c:=⟨h2.sub.trans h1.sub,h2.bal.trans h1.bal,fun d m=>adw (h2.dep d m) (h1.dep d m)⟩
theorem T.app {a b c d:List Str} (h1:T a b) (h2:T c d):T (a++c) (b++d):=by
 refine ⟨h1.sub.append h2.sub,by rw [wZ,wZ,h1.bal,h2.bal],fun k m=>?_⟩;rw [wY,wY];refine adw (ym d (Int.le_refl _) (h1.dep k m)) ?_;rw [h1.bal];exact h2.dep _ _
theorem T.br (c:List Str):T ([40]::(c++[[41]])) c:=by
 have e1:delta [40]=1:=by decide
 have e2:delta [41] = -1:=by decide
 refine ⟨((List.sublist_append_left c [[41]])).cons _,?_,fun d m=>?_⟩
 ·rw [uB,wZ,e1,uB,uB,e2];omega
 ·rw [uC,wY,e1,uC,uC,e2]
  have:=ym c (show d<=d+1 by omega) (show m<=max m (d+1) by omega);omega
theorem T.zero {a b c:Str} (ha:delta a=0) (hb:delta b=0):T [a,b,c] [c]:=by
 refine ⟨((List.Sublist.refl [c]).cons b).cons a,?_,fun d m=>?_⟩
 ·simp only [uB,ha,hb];omega
 ·simp only [uC,ha,hb];omega
structure P8 (t:Tok):Prop where
 ok:uK t
 num:t.kind=2->t.text=Lib.itoa t.n
def TQ {α:Type} (pre:List Str) (p:List Tok->R α) (W:α->List Str):Prop:=∀r a r',(∀t∈r,P8 t)->p r = .ok a r'->∃c,r=c++r'/\T (pre++txs c) (W a)
section
variable {α β : Type} {pre pre' : List Str} {p q : List Tok -> R α} {W : α -> List Str} {W1 : β -> List Str}
theorem TQ.ret {a:α} (h:T pre (W a)):TQ pre (dL a) W:=by
 intro r b r' _ e;injection e with e1 e2
 subst e1 e2;exact ⟨[],rfl,by simpa using h⟩
theorem TQ.bad:TQ pre (JF (α:=α)) W:=by intro _ _ _ _ e;cases e
theorem kW (h:∀r,p r = .out):TQ pre p W:=by
 intro r a r' _ he;rw [h] at he;cases he
theorem TQ.fst (h:T pre pre') (hp:TQ pre' p W):TQ pre p W:=by
 intro r a r' ht e;obtain ⟨c,e1,h1⟩:=hp r a r' ht e;exact ⟨c,e1,(h.app (T.refl _)).trans h1⟩
theorem TQ.up (hp:TQ [] p W):TQ pre p fun a=>pre++W a:=by
 intro r a r' ht e;obtain ⟨c,e1,h1⟩:=hp r a r' ht e;exact ⟨c,e1,(T.refl pre).app (by simpa using h1)⟩
theorem TQ.mono {W' : α->List Str} (hp:TQ pre p W) (h:∀a,T (W a) (W' a)):TQ pre p W':=by
 intro r a r' ht e;obtain ⟨c,e1,h1⟩:=hp r a r' ht e;exact ⟨c,e1,h1.trans (h a)⟩
theorem TQ.P9 {p:List Tok->R β} {f:β->List Tok->R α} (h1:TQ pre p W1) (h2:∀b,TQ (W1 b) (f b) W):TQ pre (cI p f) W:=by
 intro r a r' ht e;obtain ⟨b,r1,e1,e2⟩:=bind_ok.1 e;obtain ⟨c1,g1,g2⟩:=h1 _ _ _ ht e1;obtain ⟨c2,g3,g4⟩:=h2 b _ _ _ (fun t h=>ht t (by rw [g1];exact abt _ h)) e2;refine ⟨c1++c2,by rw [g1,g3,aaD],?_⟩;rw [show txs (c1++c2)=txs c1++txs c2 from abn,<- aaD];exact (g2.app (T.refl _)).trans g4
theorem TQ.bind {p:List Tok->R β} {f:β->List Tok->R α} (h1:TQ [] p W1) (h2:∀b,TQ (pre++W1 b) (f b) W):TQ pre (cI p f) W:=.P9 h1.up h2
theorem TQ.Yv {p:List Tok->R β} {f:β->List Tok->R α} {Q:β->Prop} (hv:VV p Q) (h1:TQ [] p W1) (h2:∀b,Q b->TQ (pre++W1 b) (f b) W):TQ pre (cI p f) W:=by
 intro r a r' ht e;obtain ⟨b,r1,e1,e2⟩:=bind_ok.1 e;have hb:=(hv _ _ _ (fun t h=>(ht t h).ok) e1).1;obtain ⟨c1,g1,g2⟩:=h1 _ _ _ ht e1;obtain ⟨c2,g3,g4⟩:=h2 b hb _ _ _ (fun t h=>ht t (by rw [g1];exact abt _ h)) e2;refine ⟨c1++c2,by rw [g1,g3,aaD],?_⟩;rw [show txs (c1++c2)=txs c1++txs c2 from abn,<- aaD];exact (((T.refl pre).app (by simpa using g2)).app (T.refl _)).trans g4
theorem A8 {t:Tok} {l c r' : List Tok} {o:List Str} (e:l=c++r') (h:T ((pre++[t.text])++txs c) o):∃c,t::l=c++r'/\T (pre++txs c) o:=
 ⟨t::c,by rw [e];rfl,by simpa using h⟩
theorem TQ.want {s:Str} (hs:s≠[]) (h:TQ (pre++[s]) p W):TQ pre (gp s p) W:=by
 intro r a r' ht e;obtain ⟨b,r1,e1,e2⟩:=bind_ok.1 e;obtain ⟨hh,rfl⟩:=mS e1;obtain ⟨t,g1,g2⟩:=ia hh hs;obtain ⟨c,g3,g4⟩:=h _ _ _ (fun t h=>ht t (abZ h)) e2;rw [g1];exact A8 g3 (by rw [g2];exact g4)
theorem TQ.skip {s:Str} (hs:s≠[]) (h1:TQ (pre++[s]) p W) (h2:TQ pre q W):TQ pre (ei s p q) W:=by
 intro r a r' ht e;unfold ei at e
 split at e
 ·rename_i hh
  obtain ⟨t,g1,g2⟩:=ia hh hs;obtain ⟨c,g3,g4⟩:=h1 _ _ _ (fun t h=>ht t (abZ h)) e;rw [g1];exact A8 g3 (by rw [g2];exact g4)
 ·exact h2 _ _ _ ht e
theorem TQ.peek {s:Str} (h1:TQ pre p W) (h2:TQ pre q W):TQ pre (hQ s p q) W:=by
 intro r a r' ht e;unfold hQ at e
 split at e
 ·exact h1 _ _ _ ht e
 ·exact h2 _ _ _ ht e
theorem TQ.name {f:Str->List Tok->R α} (h:∀s,TQ (pre++[s]) (f s) W):TQ pre (cName f) W:=by
 intro r a r' ht e;obtain ⟨b,r1,e1,e2⟩:=bind_ok.1 e;obtain ⟨t,rfl,rfl,h4,h5⟩:=mU e1;obtain ⟨c,g3,g4⟩:=h _ _ _ _ (fun t h=>ht t (aaL _ h)) e2;exact A8 g3 g4
theorem TQ.word {k:Int} {f:Str->Int->List Tok->R α} (h:∀s n,(k=2->s=Lib.itoa n)->TQ (pre++[s]) (f s n) W):TQ pre (AA k f) W:=by
 intro r a r' ht e;obtain ⟨t,r1,e1,e2⟩:=bind_ok.1 e;obtain ⟨q,rfl,rfl,h4⟩:=mT e1;obtain ⟨c,g3,g4⟩:=h _ _ (fun hk=>(ht t (aaV ..)).num (by omega)) _ _ _ (fun t h=>ht t (aaL _ h)) e2;exact A8 g3 g4
theorem TQ.num {f:Int->List Tok->R α} (h1:∀n,TQ (pre++[Lib.itoa n]) (f n) W) (h2:TQ pre q W):TQ pre (wm f q) W:=by
 intro r a r' ht e;unfold wm at e
 split at e
 ·rename_i hn
  cases r with
  | nil=>cases hn
  | cons t l=>
   have hk:t.kind=2:=by simpa [isNum] using hn
   obtain ⟨c,g3,g4⟩:=h1 _ _ _ _ (fun t h=>ht t (aaL _ h)) e;exact A8 g3 (by rw [(ht t (aaV ..)).num hk];exact g4)
 ·exact h2 _ _ _ ht e
end
def tg:Ex->Int
 | .bin k _ _=>bP k
 | _=>3
theorem Nh (k:Int):0<=bP k/\bP k<=3:=by unfold bP;(repeat' split)<;>omega
theorem Bc (e:Ex) (l:Int) (hl:0<=l) (h3:l<=3):wEx e l=if tg e<l then [40]::(wEx e 0++[[41]]) else wEx e 0:=by
 cases e with
 | num n=>rw [if_neg (by show ¬(3:Int)<l;omega)];rfl
 | name n=>rw [if_neg (by show ¬(3:Int)<l;omega)];rfl
 | call o v ar=>rw [if_neg (by show ¬(3:Int)<l;omega)];rfl
 | bin k a b=>
  have h:=Nh k;show (if bP k<l then _ else _)=if bP k<l then _ else (if bP k<0 then _ else _)
  by_cases hk:bP k<l
  ·rw [if_pos hk,if_pos hk]
   show _=[40]::((if bP k<0 then _ else _)++[[41]])
   rw [if_neg (by omega)];simp
  ·rw [if_neg hk,if_neg hk,if_neg (by omega)]
theorem JU (e:Ex) (l m:Int) (hl:0<=l) (hm:m<=3) (h:l<=m):T (wEx e m) (wEx e l):=by
 rw [Bc e m (by omega) hm,Bc e l hl (by omega)];by_cases h1:tg e<l
 ·rw [if_pos h1,if_pos (by omega)];exact T.refl _
 ·rw [if_neg h1]
  split
  ·exact T.br _
  ·exact T.refl _
theorem WN (e:Ex) (l:Int) (hl:0<=l) (hm:l<=3):T ([40]::(wEx e 0++[[41]])) (wEx e l):=by
 rw [Bc e l hl hm]
 split
 ·exact T.refl _
 ·exact T.br _
structure TE (n:Nat):Prop where
 pK:TQ [] (gl n) fun e=>wEx e 3
 call:∀s,TQ [s] (gm n s) fun x=>wEx (.call s x.1 x.2) 3
 args:TQ [] (fY n) dT
 qj:TQ [] (dF n) fun es=>eK es++[[41]]
 prod:TQ [] (fA n) fun e=>wEx e 2
 oU:∀l,TQ (wEx l 2) (dC n l) fun e=>wEx e 2
 sum:TQ [] (j6 n) fun e=>wEx e 1
 sumT:∀l,TQ (wEx l 1) (eI n l) fun e=>wEx e 1
 expr:TQ [] (da n) fun e=>wEx e 0
theorem w5 (l e:Ex):wEx l 2++[[42]]++wEx e 3=wEx (.bin 5 l e) 2:=rfl
theorem w3 (l e:Ex):wEx l 1++[[43]]++wEx e 2=wEx (.bin 3 l e) 1:=rfl
theorem w4 (l e:Ex):wEx l 1++[[45]]++wEx e 2=wEx (.bin 4 l e) 1:=rfl
theorem w6 (l e:Ex):wEx l 1++[[60]]++wEx e 1=wEx (.bin 6 l e) 0:=rfl
theorem w7 (l e:Ex):wEx l 1++[[61,61]]++wEx e 1=wEx (.bin 7 l e) 0:=rfl
theorem te:∀n,TE n
 | 0=>⟨kW fun r=>by rw [gl],fun s=>kW fun r=>by rw [gm],kW fun r=>by rw [fY],kW fun r=>by rw [dF],kW fun r=>by rw [fA],fun l=>kW fun r=>by rw [dC],kW fun r=>by rw [j6],fun l=>kW fun r=>by rw [eI],kW fun r=>by rw [da]⟩
 | n+1=>by
  have ih:=te n;refine ⟨?_,?_,?_,?_,?_,?_,?_,?_,?_⟩
  ·rw [lA n]
   exact .skip (by decide) (.bind ih.expr fun e=>.want (by decide) (.ret (by simpa using WN e 3 (by decide) (by decide)))) (.num (fun v=>.ret (T.refl _)) (.name fun s=>.peek (.P9 (ih.call s) fun x=>.ret (T.refl _)) (.ret (T.refl _))))
  ·intro s
   rw [ql n];exact .want (by decide) (.name fun v=>.bind ih.args fun ar=>.ret (T.of (by simp [wEx,dT])))
  ·rw [qm n]
   exact .want (by decide) (.skip (by decide) (.ret (T.of (by simp [dT,gG]))) (.bind ih.expr fun e=>.bind ih.qj fun es=>.ret (T.of (by simp [dT,gG]))))
  ·rw [nh n]
   exact .skip (by decide) (.bind ih.expr fun e=>.bind ih.qj fun es=>.ret (T.of (by simp [eK]))) (.want (by decide) (.ret (T.of (by simp [eK]))))
  ·rw [sG n]
   exact .bind ih.pK fun e=>.fst (JU e 2 3 (by decide) (by decide) (by decide)) (ih.oU e)
  ·intro l
   rw [ni n];exact .skip (by decide) (.bind ih.pK fun e=>.fst (T.of (w5 l e)) (ih.oU _)) (.ret (T.refl _))
  ·rw [wn n]
   exact .bind ih.prod fun e=>.fst (JU e 1 2 (by decide) (by decide) (by decide)) (ih.sumT e)
  ·intro l
   rw [nM n];exact .skip (by decide) (.bind ih.prod fun e=>.fst (T.of (w3 l e)) (ih.sumT _)) (.skip (by decide) (.bind ih.prod fun e=>.fst (T.of (w4 l e)) (ih.sumT _)) (.ret (T.refl _)))
  ·rw [nN n]
   exact .bind ih.sum fun l=>.skip (by decide) (.bind ih.sum fun e=>.ret (T.of (w6 l e))) (.skip (by decide) (.bind ih.sum fun e=>.ret (T.of (w7 l e))) (.ret (JU l 0 1 (by decide) (by decide) (by decide))))
def qC:Stm->List Str
 | .set s e=>[s,[61]]++wEx e 0
 | .task par to f ar=>(if to=[] then [] else [to,[61]])++[if par then dZ else bT,f]++dT ar
 | .sync=>[jM]
 | .one k e=>[if k=15 then dW else dM]++wEx e 0
 | .act o v ar=>wEx (.call o v ar) 0
 | _=>[]
def Be:Stm->Prop
 | .if1 _ _=>False
 | .if2 _ _ _=>False
 | .loop _ _=>False
 | _=>True
theorem Le {s:Stm} (h:Be s):qC s++[[59]]=db s:=by
 cases s with
 | if1 _ _=>exact h.elim
 | if2 _ _ _=>exact h.elim
 | loop _ _=>exact h.elim
 | set s e=>simp [qC,db]
 | task par to f ar=>simp [qC,db]
 | sync=>rfl
 | one k e=>simp [qC,db]
 | act o v ar=>simp [qC,db]
theorem zF (n:Nat) (to:Str):VV (eu n to) Be:=by
 rw [nj n];refine .bind (Q1:=fun _=>True) (.skip (.ret trivial) (.want (.ret trivial))) fun par _=>.name fun f hf=>.bind (ve n).args fun ar har=>?_
 split
 ·exact .bad
 ·exact .ret trivial
theorem WO (n:Nat):VV (fP n) Be:=by
 rw [ew n];exact .peek (zF n []) (.peek (zF n []) (.skip (.ret trivial) (.skip (.bind (ve n).expr fun e he=>.ret trivial) (.skip (.bind (ve n).expr fun e he=>.ret trivial)
  (.name fun s hs=>.peek (.bind ((ve n).call s) fun x hx=>.ret trivial) (.want (.peek (zF n s) (.peek (zF n s) (.bind (ve n).expr fun e he=>.ret trivial)))))))))
theorem Io (n:Nat) (to:Str):TQ (if to=[] then [] else [to,[61]]) (eu n to) qC:=by
 rw [nj n];refine .bind (W1:=fun par=>[if par then dZ else bT]) (.skip (by decide) (.ret (T.refl _)) (.want (by decide) (.ret (T.refl _)))) fun par=>.name fun f=>.bind (te n).args fun ar=>?_;by_cases hp:par=true/\ar.length≠2
 ·rw [if_pos hp];exact .bad
 ·rw [if_neg hp];exact .ret (T.of (by simp [qC]))
theorem Ni (n:Nat):TQ [] (fP n) qC:=by
 rw [ew n];have hc:∀s:Str,s≠[]->TQ ([]++[s]++[[61]]) (eu n s) qC:=fun s hs=>by
  have:=Io n s;rw [if_neg hs] at this;exact this
 have h0:TQ [] (eu n []) qC:=Io n [];refine .peek h0 (.peek h0 (.skip (by decide) (.ret (T.refl _)) (.skip (by decide) (.bind (te n).expr fun e=>.ret (T.refl _)) (.skip (by decide) (.bind (te n).expr fun e=>.ret (T.refl _)) ?_))));intro r a r' ht e;obtain ⟨b,r1,e1,e2⟩:=bind_ok.1 e;have hb:b≠[]:=by
  obtain ⟨t,rfl,rfl,h4,h5⟩:=mU e1;have:=(ht t (aaV ..)).ok.name h4;intro hn;rw [hn] at this
  cases this
 refine (TQ.name (pre:=[]) (W:=qC) (f:=fun s=>hQ [46] (cI (gm n s) fun x=>dL (.act s x.1 x.2)) (gp [61] (if s=[] then JF else (hQ bT (eu n s) (hQ dZ (eu n s) (cI (da n) fun e=>dL (.set s e))))))) fun s=>?_) r a r' ht ?_
 ·refine .peek (.P9 ((te n).call s) fun x=>.ret (T.refl _)) (.want (by decide) ?_)
  split
  ·exact .bad
  ·rename_i hs
   exact .peek (hc s hs) (.peek (hc s hs) (.bind (te n).expr fun e=>.ret (T.refl _)))
 ·show R.bind _ _=_
  rw [e1,tO,if_neg hb];exact e2
structure TS (n:Nat):Prop where
 stmt:TQ [] (gU n) db
 block:TQ [] (cN n) df
 stmts:TQ [] (cT n) fun x=>wBl x++[[125]]
theorem ts:∀n,TS n
 | 0=>⟨kW fun r=>by rw [gU],kW fun r=>by rw [cN],kW fun r=>by rw [cT]⟩
 | n+1=>by
  have ih:=ts n;refine ⟨?_,?_,?_⟩
  ·rw [lB n]
   exact .skip (by decide) (.bind (te n).expr fun e=>.bind ih.block fun a=>.skip (by decide) (.bind ih.block fun b=>.ret (T.of (by simp [db,df]))) (.ret (T.of (by simp [db,df])))) (.skip (by decide) (.bind (te n).expr fun e=>.bind ih.block fun a=>.ret (T.of (by simp [db,df]))) (.Yv (WO n) (Ni n) fun s hs=>.want (by decide) (.ret (T.of (by simpa using Le hs)))))
  ·rw [qn n]
   exact .want (by decide) (ih.stmts.up.mono fun x=>T.of (by simp [df]))
  ·rw [nk n]
   exact .skip (by decide) (.ret (T.refl _)) (.bind ih.stmt fun s=>.bind ih.stmts fun ss=>.ret (T.of (by simp [wBl])))
theorem Ew:∀n,TQ [] (cq n) fun l=>(l.flatMap fun s=>[[44],s])++[[41]]
 | 0=>kW fun r=>by rw [cq]
 | n+1=>by
  rw [kP n];exact .skip (by decide) (.name fun s=>.bind (Ew n) fun l=>.ret (T.of (by simp))) (.want (by decide) (.ret (T.refl _)))
theorem WQ (n:Nat):TQ [] (lZ n) wFn:=by
 rw [tL n];refine .want (by decide) (.name fun s=>.bind (W1:=fun l=>[[40]]++ej l++[[41]]) ?_ fun l=>.bind (ts n).block fun b=>.ret (T.of (by simp [wFn])));rw [np n];exact .want (by decide) (.skip (by decide) (.ret (T.refl _)) (.name fun s=>.bind (Ew n) fun l=>.ret (T.of (by simp [ej]))))
theorem Qb {t:Str} {k:Int} (h:kindOf t=some k):t=ix k:=by
 unfold kindOf at h
 repeat' split at h
 all_goals first|(injection h with h;subst h;assumption)|cases h
theorem Tq:TQ [] mg fun d=>eL d:=by
 rw [nO];refine .word fun t _ _=>?_;unfold j7
 cases hk:kindOf t with
 | none=>exact .bad
 | some k=>
  have hk:=Qb hk;subst hk;refine .name fun s=>?_;have hz:T ([]++[ix k]++[s]++[[59]]) (eL ⟨k,s,0⟩):=T.of (by simp [eL]);show TQ _ (if k=0 then _ else _) _
  split
  ·refine .skip (by decide) (.word fun x n hn=>.want (by decide) (.ret ?_)) (.want (by decide) (.ret hz))
   rw [hn rfl];by_cases h0:n=0
   ·subst h0
    have:T ([[61],Lib.itoa 0,[59]]:List Str) [[59]]:=T.zero (by decide) (by
     have:Lib.itoa 0=[48]:=by unfold Lib.itoa;rw [if_neg (by decide)];exact Lib.decDigits_one (by decide)
     rw [this];decide)
    have h2:=(T.refl [ix k,s]).app this;simpa [eL] using h2
   ·exact T.of (by simp [eL,h0])
  ·exact .want (by decide) (.ret hz)
theorem oJ.tq {r r' : List Tok} {ds:List Dec} (h:oJ r ds r'):(∀t∈r,P8 t)->∃c,r=c++r'/\T (txs c) (ds.flatMap eL):=by
 induction h with
 | stop _=>exact fun _=>⟨[],rfl,T.refl _⟩
 | cons _ h1 _ ih=>
  intro ht;obtain ⟨c,e,h2⟩:=Tq _ _ _ ht h1;obtain ⟨c2,e2,h3⟩:=ih (fun t h=>ht t (by rw [e];exact abt _ h));refine ⟨c++c2,by rw [e,e2,aaD],?_⟩;rw [show txs (c++c2)=txs c++txs c2 from abn,abk];exact T.app (by simpa using h2) h3
theorem mV.tq {r:List Tok} {fs:List Fn} (h:mV r fs):(∀t∈r,P8 t)->T (txs r) (fs.flatMap wFn):=by
 induction h with
 | nil=>exact fun _=>T.refl _
 | cons h1 _ ih=>
  intro ht;obtain ⟨n,h1⟩:=h1;obtain ⟨c,e,h2⟩:=WQ n _ _ _ ht h1;have h3:=ih (fun t h=>ht t (by rw [e];exact abt _ h));rw [e,show txs (c++_)=txs c++txs _ from abn,abk];exact T.app (by simpa using h2) h3
theorem Prg.tq {l:List Tok} {ds:List Dec} {fs:List Fn} (h:Prg l ds fs) (ht:∀t∈l,P8 t):T (txs l) (nQ (ds,fs)):=by
 obtain ⟨r,h1,h2⟩:=h;obtain ⟨c,e,h3⟩:=h1.tq ht;have h4:=h2.tq (fun t h=>ht t (by rw [e];exact abt _ h));rw [e,show txs (c++r)=txs c++txs r from abn];exact h3.app h4
end Uw.Tryz
namespace Uw.Tryz
open Go Uw
theorem Tt (l:List UInt8):∀m:Nat,m<=l.foldl (fun n b=>10 * n+(b.toNat - 48)) m:=by
 induction l with
 | nil=>exact fun m=>aax m
 | cons b l ih=>intro m;rw [abQ];exact aa7 (show m<=10 * m+(b.toNat - 48) by omega) (ih _)
theorem Ey (l:List UInt8) (b:UInt8):jC (l++[b])=10 * jC l+(b.toNat - 48):=by
 simp [jC,ab2]
theorem Qc {c:UInt8}:cls c=2<->48<=c.toNat/\c.toNat<=57:=by
 unfold cls;constructor
 ·intro h
  repeat' split at h
  all_goals first|assumption|omega
 ·intro h
  rw [if_neg (by omega),if_pos h]
theorem Tv (k:Nat):∀(l:List UInt8),l.length=k->(∀b∈l,cls b=2)->l≠[]->(∀c r,l=c::r->r≠[]->c.toNat≠48)->Lib.decDigits (jC l)=l:=by
 induction k with
 | zero=>intro l h _ h2 _;exact absurd (aaM h) h2
 | succ k ih=>
  intro l hl hd hne h0;obtain ⟨l',b,rfl⟩:∃l' b,l=l'++[b]:=⟨l.dropLast,l.getLast hne,(adi hne).symm⟩
  have hb:=Qc.1 (hd b (by simp));rw [Ey]
  cases l' with
  | nil=>
   show Lib.decDigits (10 * 0+_)=[b]
   rw [Lib.decDigits_one (by omega)]
   congr 1
   apply acV;simp;omega
  | cons c r=>
   have hc:=h0 c (r++[b]) rfl (by simp);have hc2:=Qc.1 (hd c (by simp));have hv:1<=jC (c::r):=by
    have:(c.toNat - 48)<=jC (c::r):=by
     have:=Tt r (10 * 0+(c.toNat - 48));simp only [Nat.mul_zero,aaF] at this;simpa [jC] using this
    omega
   have h1:=ih (c::r) (by simp at hl ⊢;omega) (fun x hx=>hd x (by simp at hx ⊢;rcases hx with h|h;exact .inl h;exact .inr (.inl h))) (by simp) (fun c' r' e _=>by injection e with e1 e2;subst e1;exact hc);rw [Lib.decDigits,dif_neg (by omega),show (10 * jC (c::r)+(b.toNat - 48)) / 10=jC (c::r) by omega,h1]
   congr 2
   apply acV;simp;omega
theorem Qd {α:Type} (p:α->Bool):∀(l:List α),∀b∈l.takeWhile p,p b=true
 | [],b,h=>by cases h
 | a::l,b,h=>by
  rw [aa1] at h
  split at h
  ·rename_i hp
   rcases aaN.1 h with rfl|h
   ·exact hp
   ·exact Qd p l b h
  ·cases h
theorem Ip {r:List UInt8} {n:Nat} {v:Int} (h:bu r=some (2,n,v)):r.take n=Lib.itoa v:=by
 cases r with
 | nil=>simp [bu] at h
 | cons c t=>
  rw [bu] at h
  split at h
  ·split at h
   ·simp at h
   ·cases h
  ·split at h
   ·rename_i h1 h2
    split at h
    ·rename_i hl
     simp only [aaP,abf,true_and] at h;obtain ⟨rfl,rfl⟩:=h;rw [abX,abd,ib,Lib.itoa,if_neg (by omega),acM];refine (Tv _ _ rfl ?_ (by simp) ?_).symm
     ·intro b hb
      rcases aaN.1 hb with rfl|hb
      ·exact h2
      ·have:=Qd eG t b hb
       simpa [eG] using this
     ·intro c' r' e hr h48
      injection e with e1 e2
      subst e1 e2;refine hl.2.1 ⟨?_,h48⟩;have:=abR.2 hr;omega
    ·cases h
   ·split at h
    ·split at h<;>simp at h
    ·cases h
theorem JV:∀(f:Nat) (r:List UInt8) (a:Int) (l:List Tok),iu f r a=some l->∀t∈l,P8 t
 | 0,[],a,l,h=>by rw [iu] at h;injection h with h;subst h;simp
 | _+1,[],a,l,h=>by rw [iu] at h;injection h with h;subst h;simp
 | 0,c::t,a,l,h=>by unfold iu at h;cases h
 | f+1,c::t,a,l,h=>by
  rw [iu] at h
  split at h
  ·exact JV f _ _ _ h
  ·split at h
   ·cases h
   ·rename_i k n v ht
    rw [aaC] at h;obtain ⟨l',h1,rfl⟩:=h;intro x hx
    rcases aaN.1 hx with rfl|hx
    ·refine ⟨PX ht a,fun hk=>?_⟩
     have hk:k=2:=hk;subst hk;exact Ip ht
    ·exact JV f _ _ _ h1 x hx
theorem tR (c:UInt8) (x:List UInt8):jN (c::x)=(decide (cls c=1)||decide (cls c=2)):=by
 show ((decide (97<=c.toNat)&&decide (c.toNat<=122))||(decide (65<=c.toNat)&&decide (c.toNat<=90))||(decide (48<=c.toNat)&&decide (c.toNat<=57)))=_;unfold cls;by_cases h1:97<=c.toNat/\c.toNat<=122\/65<=c.toNat/\c.toNat<=90
 ·rw [if_pos h1]
  rcases h1 with h|h<;>simp [h.1,h.2]
 ·rw [if_neg h1]
  by_cases h2:48<=c.toNat/\c.toNat<=57
  ·rw [if_pos h2];simp [h2.1,h2.2]
  ·rw [if_neg h2]
   have e1:(decide (97<=c.toNat)&&decide (c.toNat<=122))=false:=by simp;omega
   have e2:(decide (65<=c.toNat)&&decide (c.toNat<=90))=false:=by simp;omega
   have e3:(decide (48<=c.toNat)&&decide (c.toNat<=57))=false:=by simp;omega
   rw [e1,e2,e3]
   repeat' split
   all_goals decide
theorem Lh (a s:Str) (l:List Str):(dw a l).length<=(dw s l).length+1:=by
 cases l with
 | nil=>simp [dw]
 | cons x l=>
  rw [dw,dw];have:(if jN a&&jN x then ([32]:Str) else []).length<=1:=by split<;>simp
  simp only [aaw];omega
theorem WR {o c:List Str} (h:o.Sublist c):(∀s∈c,s≠[])->∀a,(dw a o).length<=(dw a c).length:=by
 induction h with
 | slnil=>exact fun _ a=>aax _
 | cons s _ ih=>
  intro hc a;rename_i c' _;have h1:=ih (fun x hx=>hc x (aaL _ hx)) a;have h2:=Lh a s c';have h3:=abR.2 (hc s (aaV ..))
  conv=>rhs;rw [dw]
  simp only [aaw];omega
 | cons_cons s _ ih=>
  intro hc a;have h1:=ih (fun x hx=>hc x (aaL _ hx)) s;rw [dw,dw];simp only [aaw];omega
theorem od {α:Type} (p:α->Bool):∀(l:List α) (c:α) (t:List α),l.dropWhile p=c::t->p c=false
 | [],_,_,h=>by cases h
 | a::l,c,t,h=>by
  rw [ab6] at h
  split at h
  ·exact od p l c t h
  ·rename_i hp
   injection h with h _
   subst h;simpa using hp
theorem kg {α:Type} (p:α->Bool):∀(l:List α),l.drop (l.takeWhile p).length=l.dropWhile p
 | []=>rfl
 | a::l=>by
  rw [aa1,ab6]
  split
  ·rw [aaA,ab5,kg p l]
  ·rfl
theorem Qe {c:UInt8} {t:List UInt8} {k:Int} {n:Nat} {v:Int} (h:bu (c::t)=some (k,n,v)) (hl:jN ((c::t).take n)=true):∀x y,(c::t).drop n=x::y->nameB x=false:=by
 have hn:=(ft h).1;obtain ⟨m,rfl⟩:∃m,n=m+1:=⟨n - 1,by omega⟩
 rw [abd,tR] at hl;rw [bu] at h
 split at h
 ·split at h
  ·simp only [aaP,abf] at h
   obtain ⟨_,h2,_⟩:=h;obtain rfl:(t.takeWhile nameB).length=m:=by omega
   intro x y e;rw [ab5,kg] at e;exact od _ _ _ _ e
  ·cases h
 ·split at h
  ·rename_i h1 h2
   split at h
   ·rename_i hl
    simp only [aaP,abf] at h;obtain ⟨_,h3,_⟩:=h;obtain rfl:(t.takeWhile eG).length=m:=by omega
    intro x y e;rw [ab5,kg] at e;have h4:=od _ _ _ _ e;have h5:=hl.2.2.2;rw [e] at h5;simp [zf] at h5;simp [eG] at h4;simp [nameB,h4,h5]
   ·cases h
  ·rename_i h1 h2
   simp [h1,h2] at hl
theorem F6:∀(f:Nat) (r:List UInt8) (p:Int) (l:List Tok) (a:Str),iu f r p=some l->(jN a=true->∀c t,r=c::t->nameB c=false)->(dw a (txs l)).length<=r.length
 | 0,[],p,l,a,h,_=>by rw [iu] at h;injection h with h;subst h;simp [dw]
 | _+1,[],p,l,a,h,_=>by rw [iu] at h;injection h with h;subst h;simp [dw]
 | 0,c::t,p,l,a,h,_=>by unfold iu at h;cases h
 | f+1,c::t,p,l,a,h,ha=>by
  rw [iu] at h
  split at h
  ·have h1:=F6 f _ _ _ [] h (fun h=>by cases h)
   have h2:=Lh a [] (txs l);rw [aaA];omega
  ·split at h
   ·cases h
   ·rename_i hb k n v ht
    rw [aaC] at h;obtain ⟨l',h1,rfl⟩:=h;have hl:=ft ht;have h2:=F6 f _ _ _ ((c::t).take n) h1 (fun hh=>Qe ht hh);show (dw a ((c::t).take n::txs l')).length<=_;rw [dw];have h3:(jN a&&jN ((c::t).take n))=false:=by
     cases h4:jN a with
     | false=>rfl
     | true=>
      have h5:=ha h4 c t rfl;obtain ⟨m,rfl⟩:∃m,n=m+1:=⟨n - 1,by omega⟩
      rw [abd,tR];simp [nameB] at h5;simp [h5]
    rw [h3];simp only [aaw,aa5,List.length_drop,aaX,if_false,aa3] at h2 ⊢;omega
end Uw.Tryz
namespace Uw.Tryz
open Go Uw
def GW (s:Str):Prop:=∃k v,bu s=some (k,s.length,v)
def bZ (s:Str):Tok:=match bu s with|some (k,_,v)=>⟨k,s,v,0⟩|none=>⟨3,s,0,0⟩
abbrev wt (l:List Str):List Tok:=l.map bZ
theorem F7 {s:Str} {k:Int} {n:Nat} {v:Int} (h:bu s=some (k,n,v)):bZ s=⟨k,s,v,0⟩:=by unfold bZ;rw [h]
theorem WS (l:List Str):txs (wt l)=l:=by
 rw [txs,acU];have:((fun (t:Tok)=>t.text) ∘ bZ)=id:=by
  funext s
  show (bZ s).text=s;unfold bZ
  split<;>rfl
 rw [this,List.map_id]
theorem JW {α:Type} (p:α->Bool) (x Y:List α) (hx:(x.takeWhile p).length=x.length) (hY:∀c t,Y=c::t->p c=false):(x++Y).takeWhile p=x.takeWhile p/\(x++Y).dropWhile p=Y:=by
 have h0:Y.takeWhile p=[]/\Y.dropWhile p=Y:=by
  cases Y with
  | nil=>exact ⟨rfl,rfl⟩
  | cons c t=>have:=hY c t rfl;simp [aa1,ab6,this]
 have h1:x.takeWhile p=x:=by
  have:=ady (p:=p) (l:=x);exact this.eq_of_length hx
 constructor
 ·rw [List.takeWhile_append,if_pos hx,h0.1,aa6,h1]
 ·have h2:∀(x:List α),x.takeWhile p=x->(x++Y).dropWhile p=Y:=by
   intro x
   induction x with
   | nil=>exact fun _=>h0.2
   | cons a x ih=>
    intro h;rw [aa1] at h
    split at h
    ·rename_i ha
     injection h with _ h
     rw [aaE,ab6,if_pos ha];exact ih h
    ·cases h
  exact h2 x h1
theorem Qf {s:Str} {k:Int} {v:Int} (h:bu s=some (k,s.length,v)) (Y:List UInt8) (hY:∀c t,Y=c::t->(jN s=true->nameB c=false)/\(s=[61]->c.toNat≠61)):bu (s++Y)=some (k,s.length,v):=by
 cases s with
 | nil=>simp [bu] at h
 | cons c x=>
  rw [tR] at hY;rw [aaE];rw [bu] at h ⊢;by_cases a1:cls c=1
  ·have hh:∀c t,Y=c::t->nameB c=false:=fun c' t e=>(hY c' t e).1 (by simp [a1])
   rw [if_pos a1] at h ⊢
   split at h
   ·rename_i hl
    simp only [aaP,abf,aaA] at h;obtain ⟨h1,h2,h3⟩:=h;have e:=(JW nameB x Y (by omega) hh).1;rw [e,if_pos hl,h1,<- h3];simp;omega
   ·cases h
  ·rw [if_neg a1] at h ⊢
   by_cases a2:cls c=2
   ·have hh:∀c t,Y=c::t->nameB c=false:=fun c' t e=>(hY c' t e).1 (by simp [a2])
    rw [if_pos a2] at h ⊢
    split at h
    ·rename_i hl
     simp only [aaP,abf,aaA] at h;obtain ⟨h1,h2,h3⟩:=h;obtain ⟨e1,e2⟩:=JW eG x Y (by omega) (fun c' t e=>by have:=hh c' t e;simp [nameB] at this;simp [eG,this]);have e3:zf Y=false:=by
      cases Y with
      | nil=>rfl
      | cons c' t=>have:=hh c' t rfl;simp [nameB] at this;simp [zf,this]
     rw [e1,e2,e3,if_pos ⟨hl.1,hl.2.1,hl.2.2.1,rfl⟩,h1,<- h3];simp;omega
    ·cases h
   ·rw [if_neg a2] at h ⊢
    by_cases a5:cls c=5
    ·rw [if_pos a5] at h ⊢
     cases x with
     | cons d y=>
      split at h
      ·rename_i hq
       simp only [aaP,abf,aaA] at h;rw [aaE,if_pos ⟨hq.1,by simpa [eqq] using hq.2⟩,h.1,h.2.2,h.2.1];simp
      ·simp only [aaP,abf,aaA] at h
       omega
     | nil=>
      rw [if_neg (by simp [eqq])] at h;rw [acd,if_neg ?_]
      ·exact h
      ·rintro ⟨h1,h2⟩
       cases Y with
       | nil=>cases h2
       | cons d y=>
        have hc:c=61:=acV h1;subst hc;exact (hY d y rfl).2 rfl (by simpa [eqq] using h2)
    ·rw [if_neg a5] at h;cases h
def NQ:List Str->Prop
 | a::b::r=>(a=[61]->b.head?≠some 61)/\NQ (b::r)
 | _=>True
theorem Iq:∀(l:List Str) (a:Str) (p:Int),(∀s∈l,GW s)->NQ l->∃m,jD (dw a l) p=some m/\m.map strip=wt l
 | [],a,p,_,_=>⟨[],rfl,rfl⟩
 | s::r,a,p,hg,hn=>by
  obtain ⟨k,v,hk⟩:=hg s (aaV ..);have hcore:∀p,∃m,jD (s++dw s r) p=some m/\m.map strip=wt (s::r):=by
   intro p;obtain ⟨m,h1,h2⟩:=Iq r s (p+s.length) (fun x hx=>hg x (aaL _ hx)) (by cases r with|nil=>trivial|cons b r=>exact hn.2);have hst:bu (s++dw s r)=some (k,s.length,v):=by
    refine Qf hk _ fun c t e=>?_
    cases r with
    | nil=>cases e
    | cons b r=>
     obtain ⟨kb,vb,hb⟩:=hg b (by simp);rw [dw] at e
     cases hlb:jN s with
     | true=>
      refine ⟨fun _=>?_,fun h=>by rw [h] at hlb;cases hlb⟩;rw [hlb,acB] at e
      cases hl2:jN b with
      | true=>rw [hl2] at e;injection e with e _;subst e;decide
      | false=>
       rw [hl2] at e
       cases b with
       | nil=>simp [bu] at hb
       | cons d y=>
        injection e with e _
        subst e;rw [tR] at hl2;simp at hl2;rw [bu,if_neg hl2.1,if_neg hl2.2] at hb
        split at hb
        ·rename_i h5;simp [nameB,h5]
        ·cases hb
     | false=>
      refine ⟨fun h=>(by cases h),fun hs=>?_⟩;rw [hlb] at e
      cases b with
      | nil=>simp [bu] at hb
      | cons d y=>
       injection e with e _
       subst e;have:=hn.1 hs;intro h61;exact this (by rw [show d=61 from acV h61];rfl)
   cases s with
   | nil=>simp [bu] at hk
   | cons c x=>
    have hb4:cls c≠4:=by
     intro h4;rw [bu,if_neg (by omega),if_neg (by omega),if_neg (by omega)] at hk
     cases hk
    rw [aaE] at hst ⊢;rw [Aw c _ p hb4 hst,<- aaE,List.drop_left,adn,h1];exact ⟨_,rfl,by rw [abG,h2];show _=bZ (c::x)::wt r;rw [F7 hk];rfl⟩
  rw [dw]
  split
  ·obtain ⟨m,h1,h2⟩:=hcore (p+1)
   refine ⟨m,?_,h2⟩;rw [aaD];show jD (32::(s++dw s r)) p=_;rw [vl 32 _ p (by decide),h1]
  ·exact hcore p
def vD (l:List Str):Prop:=∀s∈l,GW s
theorem vD.app {a b:List Str} (ha:vD a) (hb:vD b):vD (a++b):=fun s hs=>(aaZ.1 hs).elim (ha s) (hb s)
theorem vD.one {s:Str} (h:GW s):vD [s]:=fun x hx=>by rw [ac4.1 hx];exact h
theorem vD.nil:vD []:=fun _ h=>by cases h
theorem T.Zk {c o:List Str} (h:T c o) (hc:vD c):vD o:=fun s hs=>hc s (h.sub.subset hs)
theorem Bf:∀(f:Nat) (r:List UInt8) (a:Int) (l:List Tok),iu f r a=some l->vD (txs l)
 | 0,[],a,l,h=>by rw [iu] at h;injection h with h;subst h;exact vD.nil
 | _+1,[],a,l,h=>by rw [iu] at h;injection h with h;subst h;exact vD.nil
 | 0,c::t,a,l,h=>by unfold iu at h;cases h
 | f+1,c::t,a,l,h=>by
  rw [iu] at h
  split at h
  ·exact Bf f _ _ _ h
  ·split at h
   ·cases h
   ·rename_i k n v ht
    rw [aaC] at h;obtain ⟨l',h1,rfl⟩:=h;refine vD.app (a:=[(c::t).take n]) (vD.one ?_) (Bf f _ _ _ h1);have hl:=ft ht;refine ⟨k,v,?_⟩;rw [(AH ht).1,aa5,acE hl.2]
theorem NQ.app:∀{a b:List Str},NQ a->NQ b->(∀x,a.getLast? = some x->x≠[61])->NQ (a++b)
 | [],b,_,hb,_=>hb
 | [x],[],_,_,_=>trivial
 | [x],y::b,_,hb,h=>⟨fun e=>absurd e (h x rfl),hb⟩
 | x::y::a,b,ha,hb,h=>⟨ha.1,NQ.app (a:=y::a) ha.2 hb (fun z hz=>h z (by rw [List.getLast?_cons_cons];exact hz))⟩
def EN (l:List Str):Prop:=∀x,l.getLast? = some x->x≠[61]
theorem EN.app {a b:List Str} (hb:EN b) (hne:b≠[]):EN (a++b):=by
 intro x hx;rw [List.getLast?_append] at hx
 cases h:b.getLast? with
 | none=>rw [List.getLast?_eq_none_iff] at h;exact absurd h hne
 | some y=>rw [h] at hx;exact hb x (by rw [h];exact hx)
theorem EN.one {s:Str} (h:s≠[61]):EN [s]:=fun x hx=>by injection hx with hx;subst hx;exact h
def NH (l:List Str):Prop:=l≠[]/\∀s r,l=s::r->s.head?≠some 61
theorem NH.app {a b:List Str} (h:NH a):NH (a++b):=by
 obtain ⟨h1,h2⟩:=h
 cases a with
 | nil=>exact absurd rfl h1
 | cons s r=>exact ⟨by simp,fun s' r' e=>by injection e with e _;subst e;exact h2 s r rfl⟩
structure Fine (l:List Str):Prop where
 ne:NQ l
 en:EN l
 so:l≠[]
theorem Fine.app {a b:List Str} (ha:Fine a) (hb:Fine b):Fine (a++b):=⟨ha.ne.app hb.ne ha.en,hb.en.app hb.so,by have:=ha.so;simp [this]⟩
theorem Fine.one {s:Str} (h:s≠[61]) (h0:s≠[]):Fine [s]:=⟨trivial,EN.one h,by simp⟩
theorem Fine.eq {b:List Str} (hb:Fine b) (hh:NH b):Fine ([61]::b):=by
 cases b with
 | nil=>exact absurd rfl hb.so
 | cons s r=>exact ⟨⟨fun _=>hh.2 s r rfl,hb.ne⟩,EN.app (a:=[[61]]) hb.en hb.so,by simp⟩
theorem gd {s:Str} (h:dq s):Fine [s]/\NH [s]:=by
 have h1:s≠[]:=by rintro rfl;have:=h.1;cases this
 have h2:s.head?≠some 61:=by
  intro e
  cases s with
  | nil=>exact h1 rfl
  | cons c t=>
   injection e with e
   subst e;have:=h.1;unfold HU at this;rw [bu,if_neg (by decide),if_neg (by decide),if_pos (by decide)] at this
   split at this<;>simp at this
 refine ⟨.one (by rintro rfl;exact h2 rfl) h1,by simp,fun s' r e=>by injection e with e _;subst e;exact h2⟩
theorem Lj:∀n,∃c r,Lib.decDigits n=c::r/\cls c=2:=by
 intro n
 induction n using Nat.strongRecOn with
 | _ n ih=>
  by_cases h:n<10
  ·refine ⟨UInt8.ofNat (48+n),[],Lib.decDigits_one h,?_⟩
   rw [Qc];simp;omega
  ·obtain ⟨c,r,h1,h2⟩:=ih (n / 10) (by omega)
   rw [Lib.decDigits,dif_neg h,h1];exact ⟨c,_,rfl,h2⟩
theorem Ir {n:Int} (h:nP n):Fine [Lib.itoa n]/\NH [Lib.itoa n]:=by
 obtain ⟨c,r,h1,h2⟩:=Lj n.toNat;have e:Lib.itoa n=c::r:=by rw [Lib.itoa,if_neg (by have:=h.1;omega),h1]
 have hc:c≠61:=by rintro rfl;cases h2
 rw [e];exact ⟨.one (by rintro h;injection h with h _;exact hc h) (by simp),by simp,fun s' r' e=>by injection e with e _;subst e;intro h;injection h with h;exact hc h⟩
theorem Nj (k:Int) (h:3<=k/\k<=7):Fine [lC k]:=by
 unfold lC
 repeat' split
 all_goals first|exact .one (by decide) (by decide)|omega
end Uw.Tryz
namespace Uw.Tryz
open Go Uw
theorem Tz:∀n,∃c r,Lib.decDigits n=c::r/\(∀b∈c::r,cls b=2)/\jC (c::r)=n/\(r≠[]->c.toNat≠48)/\(∀k,n<10 ^ (k+1)->r.length<=k):=by
 intro n
 induction n using Nat.strongRecOn with
 | _ n ih=>
  by_cases h:n<10
  ·refine ⟨UInt8.ofNat (48+n),[],Lib.decDigits_one h,?_,?_,fun h=>absurd rfl h,fun k _=>abr _⟩
   ·intro b hb
    rw [ac4.1 hb,Qc];simp;omega
   ·simp [jC];omega
  ·obtain ⟨c,r,h1,h2,h3,h4,h5⟩:=ih (n / 10) (by omega)
   refine ⟨c,r++[UInt8.ofNat (48+n % 10)],by rw [Lib.decDigits,dif_neg h,h1];rfl,?_,?_,?_,?_⟩
   ·intro b hb
    rw [<- aaE] at hb
    rcases aaZ.1 hb with hb|hb
    ·exact h2 b hb
    ·rw [ac4.1 hb,Qc];simp;omega
   ·rw [<- aaE,Ey,h3];simp;omega
   ·intro _ h48
    cases r with
    | nil=>
     have:jC [c]=n / 10:=h3;simp [jC] at this;omega
    | cons x y=>exact h4 (by simp) h48
   ·intro k hk
    cases k with
    | zero=>omega
    | succ k=>
     have:=h5 k (by rw [Nat.pow_succ] at hk;omega);simp;omega
theorem JY {α:Type} {p:α->Bool}:∀{l:List α},(∀b∈l,p b=true)->l.takeWhile p=l
 | [],_=>rfl
 | a::l,h=>by rw [aa1,if_pos (h a (aaV ..)),JY fun b hb=>h b (aaL _ hb)]
theorem Qg {n:Int} (h:nP n):bu (Lib.itoa n)=some (2,(Lib.itoa n).length,n):=by
 obtain ⟨c,r,h1,h2,h3,h4,h5⟩:=Tz n.toNat;have e:Lib.itoa n=c::r:=by rw [Lib.itoa,if_neg (by have:=h.1;omega),h1]
 have hr:∀b∈r,eG b=true:=fun b hb=>by simp [eG,h2 b (aaL _ hb)]
 have hc:=h2 c (aaV ..);have hl:=h5 9 (by have:=h.2;have:=h.1;omega);have h6:=JY hr;have h7:=(JW eG r [] (by rw [JY hr]) (fun _ _ h=>by cases h)).2;rw [aa6] at h7;have hz:1+r.length<=10/\¬(1<1+r.length/\c.toNat=48)/\n.toNat<4294967296/\zf []=false:=by
  refine ⟨by omega,?_,by have:=h.2;have:=h.1;omega,rfl⟩;rintro ⟨a,b⟩;exact h4 (by rintro rfl;simp at a) b
 have h0:=h.1;have e2:((n.toNat:Nat):Int)=n:=by omega
 rw [e,bu,if_neg (by rw [hc];decide),if_pos hc,h6,h7,h3,if_pos hz,e2,aaA,abX]
theorem Is {n:Int} (h:nP n):bZ (Lib.itoa n)=⟨2,Lib.itoa n,n,0⟩:=F7 (Qg h)
theorem Ez {s:Str} (h:dq s):bZ s=⟨1,s,0,0⟩:=F7 h.1
theorem Nk (s:Str):(bZ s).text=s:=by unfold bZ;split<;>rfl
theorem gg (s:Str) (r:List Tok):hd (bZ s::r)=s:=Nk s
def Ev {α:Type} (p:Nat->List Tok->R α) (r:List Tok) (a:α) (r' : List Tok):Prop:=∃N,∀n,N<=n->p n r = .ok a r'
section
variable {α β : Type} {p q : Nat -> List Tok -> R α} {r r1 r' : List Tok} {a : α} {b : β}
theorem Ev.ret:Ev (fun _=>dL a) r a r:=⟨0,fun _ _=>rfl⟩
theorem Ev.step (h:∀n,p (n+1)=q n) (hq:Ev q r a r'):Ev p r a r':=by
 obtain ⟨N,h1⟩:=hq;refine ⟨N+1,fun n hn=>?_⟩;obtain ⟨m,rfl⟩:∃m,n=m+1:=⟨n - 1,by omega⟩
 rw [h];exact h1 m (by omega)
theorem Ev.same (h:∀n,p n=q n) (hq:Ev q r a r'):Ev p r a r':=by
 obtain ⟨N,h1⟩:=hq;exact ⟨N,fun n hn=>by rw [h];exact h1 n hn⟩
theorem Ev.bind {p:Nat->List Tok->R β} {f:Nat->β->List Tok->R α} (h1:Ev p r b r1) (h2:Ev (fun n=>f n b) r1 a r'):Ev (fun n=>cI (p n) (f n)) r a r':=by
 obtain ⟨N,h1⟩:=h1;obtain ⟨M,h2⟩:=h2;refine ⟨max N M,fun n hn=>?_⟩;show (p n r).bind (f n)=_;rw [h1 n (by omega)];exact h2 n (by omega)
theorem Ev.want {s:Str} (h:Ev p r a r'):Ev (fun n=>gp s (p n)) (bZ s::r) a r':=by
 obtain ⟨N,h⟩:=h;refine ⟨N,fun n hn=>?_⟩;show (Uw.Tryz.want s (bZ s::r)).bind _=_;rw [Uw.Tryz.want,if_pos (gg s r)];exact h n hn
theorem Ev.kh {s:Str} (h:Ev p r a r'):Ev (fun n=>ei s (p n) (q n)) (bZ s::r) a r':=by
 obtain ⟨N,h⟩:=h;refine ⟨N,fun n hn=>?_⟩;show (if hd (bZ s::r)=s then _ else _)=_;rw [if_pos (gg s r)];exact h n hn
theorem Ev.eV {s:Str} (hs:hd r≠s) (h:Ev q r a r'):Ev (fun n=>ei s (p n) (q n)) r a r':=by
 obtain ⟨N,h⟩:=h;refine ⟨N,fun n hn=>?_⟩;show (if hd r=s then _ else _)=_;rw [if_neg hs];exact h n hn
theorem Ev.EA {s:Str} (h:Ev p (bZ s::r) a r'):Ev (fun n=>hQ s (p n) (q n)) (bZ s::r) a r':=by
 obtain ⟨N,h⟩:=h;refine ⟨N,fun n hn=>?_⟩;show (if hd (bZ s::r)=s then _ else _)=_;rw [if_pos (gg s r)];exact h n hn
theorem Ev.ki {s:Str} (hs:hd r≠s) (h:Ev q r a r'):Ev (fun n=>hQ s (p n) (q n)) r a r':=by
 obtain ⟨N,h⟩:=h;refine ⟨N,fun n hn=>?_⟩;show (if hd r=s then _ else _)=_;rw [if_neg hs];exact h n hn
theorem Ll {s:Str} (hs:dq s) (r:List Tok):dD (bZ s::r) = .ok s r:=by
 rw [Ez hs];show (if oI s=true then (R.bad:R Str) else R.ok s r)=_;rw [if_neg (by rw [hs.2];decide)]
theorem Ev.name {s:Str} {f:Nat->Str->List Tok->R α} (hs:dq s) (h:Ev (fun n=>f n s) r a r'):Ev (fun n=>cName (f n)) (bZ s::r) a r':=by
 obtain ⟨N,h⟩:=h;refine ⟨N,fun n hn=>?_⟩;show (dD (bZ s::r)).bind _=_;rw [Ll hs];exact h n hn
theorem Ev.Zl {v:Int} {f:Nat->Int->List Tok->R α} (hv:nP v) (h:Ev (fun n=>f n v) r a r'):Ev (fun n=>wm (f n) (q n)) (bZ (Lib.itoa v)::r) a r':=by
 obtain ⟨N,h⟩:=h;refine ⟨N,fun n hn=>?_⟩;rw [Is hv];exact h n hn
theorem Ev.Yw {s:Str} {f:Nat->Int->List Tok->R α} (hs:dq s) (h:Ev q (bZ s::r) a r'):Ev (fun n=>wm (f n) (q n)) (bZ s::r) a r':=by
 obtain ⟨N,h⟩:=h;refine ⟨N,fun n hn=>?_⟩;show (if isNum (bZ s::r)=true then f n (numOf (bZ s::r)) (bZ s::r).tail else q n (bZ s::r))=_;rw [Ez hs] at h ⊢;exact h n hn
end
theorem Bg {s:Str} (h:dq s) {k:Str} (hk:oI k=true):s≠k:=by
 rintro rfl;rw [h.2] at hk;cases hk
def Lead (s:Str):Prop:=s=[40]\/(∃n,nP n/\s=Lib.itoa n)\/dq s
theorem Bh {n:Int} (h:nP n):∃c r,Lib.itoa n=c::r/\cls c=2:=by
 obtain ⟨c,r,h1,h2⟩:=Lj n.toNat;exact ⟨c,r,by rw [Lib.itoa,if_neg (by have:=h.1;omega),h1],h2⟩
theorem qD {s:Str} (h:dq s):∃c r,s=c::r/\cls c=1:=by
 have h1:=h.1;unfold HU at h1
 cases s with
 | nil=>cases h1
 | cons c r=>
  refine ⟨c,r,rfl,?_⟩;rw [bu] at h1;by_cases hc:cls c=1
  ·exact hc
  ·rw [if_neg hc] at h1
   split at h1
   ·split at h1<;>simp at h1
   ·split at h1
    ·split at h1<;>simp at h1
    ·cases h1
theorem Lead.ne {s:Str} (h:Lead s) {c:UInt8} {r:Str} (h1:cls c=5) (h2:c≠40):s≠c::r:=by
 rcases h with rfl|⟨n,hn,rfl⟩|h
 ·intro e;injection e with e _;exact h2 e.symm
 ·obtain ⟨d,t,e,hd⟩:=Bh hn
  rw [e];intro e;injection e with e _;subst e;omega
 ·obtain ⟨d,t,rfl,hd⟩:=qD h
  intro e;injection e with e _;subst e;omega
theorem Lead.key {s:Str} (h:Lead s) {k:Str} (hk:oI k=true) (hc:∀c r,k=c::r->cls c=1):s≠k:=by
 rcases h with rfl|⟨n,hn,rfl⟩|h
 ·rintro rfl;exact absurd (hc 40 [] rfl) (by decide)
 ·obtain ⟨d,t,e,hd⟩:=Bh hn
  rintro rfl;have:=hc _ _ e;omega
 ·exact Bg h hk
theorem Lm:∀(e:Ex) (l:Int),e.good->∃s r,wEx e l=s::r/\Lead s
 | .num n,_,h=>⟨_,[],rfl,.inr (.inl ⟨n,h,rfl⟩)⟩
 | .name s,_,h=>⟨s,[],rfl,.inr (.inr h)⟩
 | .call o v ar,_,h=>⟨o,_,rfl,.inr (.inr h.1)⟩
 | .bin k a b,l,h=>by
  obtain ⟨s,r,h1,h2⟩:=Lm a (max (bP k) 1) h.2.1;by_cases hk:bP k<l
  ·exact ⟨[40],_,by show (if bP k<l then _ else _)=_;rw [if_pos hk];rfl,.inl rfl⟩
  ·refine ⟨s,r++([lC k]++wEx b (bP k+1)),?_,h2⟩
   show (if bP k<l then _ else _)=_;rw [if_neg hk,h1];simp
theorem JZ (a b:List Str):wt (a++b)=wt a++wt b:=abn
theorem F8 (s:Str) (b:List Str):wt (s::b)=bZ s::wt b:=rfl
structure Lv (e:Ex):Prop where
 l3:∀Z,hd Z≠[46]->Ev gl (wt (wEx e 3)++Z) e Z
 l2:∀Z x Z',hd Z≠[46]->Ev (fun n=>dC n e) Z x Z'->Ev fA (wt (wEx e 2)++Z) x Z'
 l1:∀Z x Z',hd Z≠[46]->hd Z≠[42]->Ev (fun n=>eI n e) Z x Z'->Ev j6 (wt (wEx e 1)++Z) x Z'
 l0:∀Z,hd Z≠[46]->hd Z≠[42]->hd Z≠[43]->hd Z≠[45]->hd Z≠[60]->hd Z≠[61,61]->Ev da (wt (wEx e 0)++Z) e Z
theorem Bi {e:Ex} {Z:List Tok} (h:hd Z≠[42]):Ev (fun n=>dC n e) Z e Z:=.step (fun n=>ni n e) (.eV h .ret)
theorem EB {e:Ex} {Z:List Tok} (h:hd Z≠[43]) (h2:hd Z≠[45]):Ev (fun n=>eI n e) Z e Z:=.step (fun n=>nM n e) (.eV h (.eV h2 .ret))
theorem Lv.two {e:Ex} {Z:List Tok} (h:Lv e) (h1:hd Z≠[46]) (h2:hd Z≠[42]):Ev fA (wt (wEx e 2)++Z) e Z:=h.l2 Z e Z h1 (Bi h2)
theorem Lv.one {e:Ex} {Z:List Tok} (h:Lv e) (h1:hd Z≠[46]) (h2:hd Z≠[42]) (h3:hd Z≠[43]) (h4:hd Z≠[45]):Ev j6 (wt (wEx e 1)++Z) e Z:=h.l1 Z e Z h1 h2 (EB h3 h4)
theorem yn (e:Ex) {l:Int} (hl:0<=l) (h3:l<=3) (h:¬tg e<l):wEx e l=wEx e 0:=by rw [Bc e l hl h3,if_neg h]
theorem yo (e:Ex) {l:Int} (hl:0<=l) (h3:l<=3) (h:tg e<l):wEx e l=[40]::(wEx e 0++[[41]]):=by rw [Bc e l hl h3,if_pos h]
section
variable {e : Ex}
theorem up2 (h:∀Z,hd Z≠[46]->Ev gl (wt (wEx e 2)++Z) e Z):∀Z x Z',hd Z≠[46]->Ev (fun n=>dC n e) Z x Z'->Ev fA (wt (wEx e 2)++Z) x Z':=
 fun Z x Z' h1 h2=>.step sG (.bind (h Z h1) h2)
theorem up1 (h:∀Z x Z',hd Z≠[46]->Ev (fun n=>dC n e) Z x Z'->Ev fA (wt (wEx e 1)++Z) x Z'):∀Z x Z',hd Z≠[46]->hd Z≠[42]->Ev (fun n=>eI n e) Z x Z'->Ev j6 (wt (wEx e 1)++Z) x Z':=
 fun Z x Z' h1 h2 h3=>.step wn (.bind (h Z e Z h1 (Bi h2)) h3)
theorem up0 (h:∀Z x Z',hd Z≠[46]->hd Z≠[42]->Ev (fun n=>eI n e) Z x Z'->Ev j6 (wt (wEx e 0)++Z) x Z'):∀Z,hd Z≠[46]->hd Z≠[42]->hd Z≠[43]->hd Z≠[45]->hd Z≠[60]->hd Z≠[61,61]->Ev da (wt (wEx e 0)++Z) e Z:=
 fun Z h1 h2 h3 h4 h5 h6=>.step nN (.bind (h Z e Z h1 h2 (EB h3 h4)) (.eV h5 (.eV h6 .ret)))
theorem Qh (h:∀Z,hd Z≠[46]->hd Z≠[42]->hd Z≠[43]->hd Z≠[45]->hd Z≠[60]->hd Z≠[61,61]->Ev da (wt (wEx e 0)++Z) e Z) (Z:List Tok):Ev gl (wt ([40]::(wEx e 0++[[41]]))++Z) e Z:=by
 rw [F8,JZ,aaE,aaD];refine .step lA (.kh (.bind (h _ ?_ ?_ ?_ ?_ ?_ ?_) (.want .ret)))
 all_goals (show hd (bZ [41]::Z)≠_;rw [gg];decide)
theorem J1 (ht:tg e=3) (h:∀Z,hd Z≠[46]->Ev gl (wt (wEx e 0)++Z) e Z):Lv e:=by
 have a3:=yn e (l:=3) (by decide) (by decide) (by omega);have a2:=yn e (l:=2) (by decide) (by decide) (by omega);have a1:=yn e (l:=1) (by decide) (by decide) (by omega);have b2:=up2 (e:=e) (by rw [a2];exact h);have b1:=up1 (e:=e) (by rw [a1,<- a2];exact b2);exact ⟨by rw [a3];exact h,b2,b1,up0 (by rw [<- a1];exact b1)⟩
theorem WU (ht:tg e=2) (h:∀Z x Z',hd Z≠[46]->Ev (fun n=>dC n e) Z x Z'->Ev fA (wt (wEx e 0)++Z) x Z'):Lv e:=by
 have a3:=yo e (l:=3) (by decide) (by decide) (by omega);have a2:=yn e (l:=2) (by decide) (by decide) (by omega);have a1:=yn e (l:=1) (by decide) (by decide) (by omega);have b1:=up1 (e:=e) (by rw [a1];exact h);have b0:=up0 (e:=e) (by rw [<- a1];exact b1);exact ⟨fun Z _=>by rw [a3];exact Qh b0 Z,by rw [a2];exact h,b1,b0⟩
theorem Qi (ht:tg e=1) (h:∀Z x Z',hd Z≠[46]->hd Z≠[42]->Ev (fun n=>eI n e) Z x Z'->Ev j6 (wt (wEx e 0)++Z) x Z'):Lv e:=by
 have a3:=yo e (l:=3) (by decide) (by decide) (by omega);have a2:=yo e (l:=2) (by decide) (by decide) (by omega);have a1:=yn e (l:=1) (by decide) (by decide) (by omega);have b0:=up0 (e:=e) h;exact ⟨fun Z _=>by rw [a3];exact Qh b0 Z,up2 (fun Z _=>by rw [a2];exact Qh b0 Z),by rw [a1];exact h,b0⟩
theorem Qj (ht:tg e=0) (b0:∀Z,hd Z≠[46]->hd Z≠[42]->hd Z≠[43]->hd Z≠[45]->hd Z≠[60]->hd Z≠[61,61]->Ev da (wt (wEx e 0)++Z) e Z):Lv e:=by
 have a3:=yo e (l:=3) (by decide) (by decide) (by omega);have a2:=yo e (l:=2) (by decide) (by decide) (by omega);have a1:=yo e (l:=1) (by decide) (by decide) (by omega);have b2:=up2 (e:=e) (fun Z _=>by rw [a2];exact Qh b0 Z);exact ⟨fun Z _=>by rw [a3];exact Qh b0 Z,b2,up1 (by rw [a1,<- a2];exact b2),b0⟩
end
theorem Qk (a b c:List Str) (Z:List Tok):wt (a++b++c)++Z=wt a++(wt b++(wt c++Z)):=by simp
theorem Yx (a b:List Str) (Z:List Tok):wt (a++b)++Z=wt a++(wt b++Z):=by simp
structure Lz (es:Exs):Prop where
 args:∀Z,Ev fY (wt (dT es)++Z) es Z
 tail:∀Z,Ev dF (wt (eK es++[[41]])++Z) es Z
theorem Ln {e:Ex} (hg:e.good) (l:Int) (Z:List Tok):Lead (hd (wt (wEx e l)++Z)):=by
 obtain ⟨s,r,h1,h2⟩:=Lm e l hg;rw [h1,F8,aaE,gg];exact h2
theorem tailE (es:Exs) (Z:List Tok):hd (wt (eK es++[[41]])++Z)=[44]\/hd (wt (eK es++[[41]])++Z)=[41]:=by
 cases es with
 | nil=>exact .inr (gg _ _)
 | cons e r=>exact .inl (gg _ _)
mutual
theorem Iu:∀(e:Ex),e.good->Lv e
 | .num n,h=>J1 rfl fun Z _=>.step lA (.eV (by rw [show wt (wEx (.num n) 0)++Z=bZ (Lib.itoa n)::Z from rfl,gg];obtain ⟨c,r,e,hc⟩:=Bh h;rw [e];intro e;injection e with e _;subst e;cases hc) (.Zl h .ret))
 | .name s,h=>J1 rfl fun Z hZ=>.step lA (.eV (by rw [show wt (wEx (.name s) 0)++Z=bZ s::Z from rfl,gg];obtain ⟨c,r,e,hc⟩:=qD h;rw [e];intro e;injection e with e _;subst e;cases hc) (.Yw h (.name h (.ki hZ .ret))))
 | .call o v ar,h=>by
  have ih:=Lp ar h.2.2;refine J1 rfl fun Z hZ=>.step lA ?_;have e1:wt (wEx (.call o v ar) 0)++Z=bZ o::bZ [46]::bZ v::(wt (dT ar)++Z):=by simp [wEx,dT]
  rw [e1];refine .eV (by rw [gg];obtain ⟨c,r,e,hc⟩:=qD h.1;rw [e];intro e;injection e with e _;subst e;cases hc) (.Yw h.1 (.name h.1 (.EA (.bind (b:=(v,ar)) ?_ .ret))));exact .step (fun n=>ql n o) (.want (.name h.2.1 (.bind (ih.args Z) .ret)))
 | .bin k a b,h=>by
  have ha:=Iu a h.2.1;have hb:=Iu b h.2.2;have hk:=h.1;have hh:∀s l Z,hd (wt [s]++(wt (wEx b l)++Z))=s:=fun s l Z=>gg s _
  rcases (show k=3\/k=4\/k=5\/k=6\/k=7 by omega) with rfl|rfl|rfl|rfl|rfl
  ·refine Qi rfl fun Z x Z' z1 z2 h3=>?_
   rw [show wEx (.bin 3 a b) 0=wEx a 1++[[43]]++wEx b 2 from (w3 a b).symm,Qk];refine ha.l1 _ _ _ (by rw [hh];decide) (by rw [hh];decide) (.step (fun n=>nM n a) (.kh (.bind (hb.two z1 z2) h3)))
  ·refine Qi rfl fun Z x Z' z1 z2 h3=>?_
   rw [show wEx (.bin 4 a b) 0=wEx a 1++[[45]]++wEx b 2 from (w4 a b).symm,Qk];refine ha.l1 _ _ _ (by rw [hh];decide) (by rw [hh];decide) (.step (fun n=>nM n a) (.eV (by rw [hh];decide) (.kh (.bind (hb.two z1 z2) h3))))
  ·refine WU rfl fun Z x Z' z1 h3=>?_
   rw [show wEx (.bin 5 a b) 0=wEx a 2++[[42]]++wEx b 3 from (w5 a b).symm,Qk];refine ha.l2 _ _ _ (by rw [hh];decide) (.step (fun n=>ni n a) (.kh (.bind (hb.l3 _ z1) h3)))
  ·refine Qj rfl fun Z z1 z2 z3 z4 z5 z6=>?_
   rw [<- w6 a b,Qk];refine .step nN (.bind (ha.one (by rw [hh];decide) (by rw [hh];decide) (by rw [hh];decide) (by rw [hh];decide)) (.kh (.bind (hb.one z1 z2 z3 z4) .ret)))
  ·refine Qj rfl fun Z z1 z2 z3 z4 z5 z6=>?_
   rw [<- w7 a b,Qk];refine .step nN (.bind (ha.one (by rw [hh];decide) (by rw [hh];decide) (by rw [hh];decide) (by rw [hh];decide)) (.eV (by rw [hh];decide) (.kh (.bind (hb.one z1 z2 z3 z4) .ret))))
theorem Lp:∀(es:Exs),es.good->Lz es
 | .nil,_=>⟨fun Z=>.step qm (.want (.kh .ret)),fun Z=>.step nh (.eV (by rw [show wt (eK .nil++[[41]])++Z=bZ [41]::Z from rfl,gg];decide) (.want .ret))⟩
 | .cons e r,h=>by
  have he:=Iu e h.1;have hr:=Lp r h.2;have z:∀(s:Str) Z,s≠[44]->s≠[41]->hd (wt (eK r++[[41]])++Z)≠s:=fun s Z h1 h2=>by
   rcases tailE r Z with h|h<;>rw [h]
   ·exact h1.symm
   ·exact h2.symm
  refine ⟨fun Z=>?_,fun Z=>?_⟩
  ·have e1:wt (dT (.cons e r))++Z=bZ [40]::(wt (wEx e 0)++(wt (eK r++[[41]])++Z)):=by simp [dT,gG]
   rw [e1];refine .step qm (.want (.eV ((Ln h.1 0 _).ne (by decide) (by decide)) (.bind (he.l0 _ (z _ Z (by decide) (by decide)) (z _ Z (by decide) (by decide)) (z _ Z (by decide) (by decide)) (z _ Z (by decide) (by decide)) (z _ Z (by decide) (by decide)) (z _ Z (by decide) (by decide))) (.bind (hr.tail Z) .ret))))
  ·have e1:wt (eK (.cons e r)++[[41]])++Z=bZ [44]::(wt (wEx e 0)++(wt (eK r++[[41]])++Z)):=by simp [eK]
   rw [e1];refine .step nh (.kh (.bind (he.l0 _ (z _ Z (by decide) (by decide)) (z _ Z (by decide) (by decide)) (z _ Z (by decide) (by decide)) (z _ Z (by decide) (by decide)) (z _ Z (by decide) (by decide)) (z _ Z (by decide) (by decide))) (.bind (hr.tail Z) .ret)))
end
end Uw.Tryz
namespace Uw.Tryz
open Go Uw
theorem Iw {par:Bool} {to f:Str} {ar:Exs} (hf:dq f) (ha:ar.good) (hp:par=true->ar.length=2) (Z:List Tok) :
  Ev (fun n=>eu n to) (wt ([if par then dZ else bT,f]++dT ar)++Z) (.task par to f ar) Z:=by
 have h1:=(Lp ar ha).args Z;have e1:wt ([if par then dZ else bT,f]++dT ar)++Z=bZ (if par then dZ else bT)::bZ f::(wt (dT ar)++Z):=by simp
 rw [e1];refine .same (fun n=>nj n to) (.bind (b:=par) (r1:=bZ f::(wt (dT ar)++Z)) ?_ (.name hf (.bind h1 ?_)))
 ·cases par with
  | false=>exact .kh .ret
  | true=>exact .eV (by rw [gg];decide) (.want .ret)
 ·rw [if_neg (by rintro ⟨a,b⟩;exact b (hp a))]
  exact .ret
theorem Vv {k:Str} (hk:k=bT\/k=dZ\/k=jM\/k=dW\/k=dM\/k=sIf\/k=fX\/k=ja\/k=fW):oI k=true/\∀c r,k=c::r->cls c=1:=by
 rcases hk with rfl|rfl|rfl|rfl|rfl|rfl|rfl|rfl|rfl<;>exact ⟨by decide,fun c r e=>by injection e with e _;subst e;decide⟩
theorem Nl {s:Stm} (h:s.good) (hs:Be s) {Z:List Tok} (hZ:hd Z=[59]):Ev fP (wt (qC s)++Z) s Z:=by
 have z:∀k:Str,k≠[59]->hd Z≠k:=fun k hk=>by rw [hZ];exact hk.symm
 have ex:∀e:Ex,e.good->Ev da (wt (wEx e 0)++Z) e Z:=fun e he=>(Iu e he).l0 Z (z _ (by decide)) (z _ (by decide)) (z _ (by decide)) (z _ (by decide)) (z _ (by decide)) (z _ (by decide));have nm:∀{n:Str} (r:List Tok),dq n->∀k:Str,oI k=true->hd (bZ n::r)≠k:=fun r hn k hk=>by rw [gg];exact Bg hn hk
 cases s with
 | if1 _ _=>exact hs.elim
 | if2 _ _ _=>exact hs.elim
 | loop _ _=>exact hs.elim
 | set n e=>
  have e1:wt (qC (.set n e))++Z=bZ n::bZ [61]::(wt (wEx e 0)++Z):=by simp [qC]
  rw [e1];refine .same ew (.ki (nm _ h.1 _ (by decide)) (.ki (nm _ h.1 _ (by decide)) (.eV (nm _ h.1 _ (by decide)) (.eV (nm _ h.1 _ (by decide)) (.eV (nm _ h.1 _ (by decide)) (.name h.1 (.ki (by rw [gg];decide) (.want ?_))))))));have hl:=Ln h.2 0 Z;have k1:=Vv (k:=bT) (.inl rfl);have k2:=Vv (k:=dZ) (.inr (.inl rfl));exact .ki (hl.key k1.1 k1.2) (.ki (hl.key k2.1 k2.2) (.bind (ex e h.2) .ret))
 | task par to f ar=>
  obtain ⟨h1,h2,h3,h4⟩:=h;by_cases ht:to=[]
  ·subst ht
   have hc:=Iw (to:=[]) h2 h3 h4 Z;have e1:wt (qC (.task par [] f ar))++Z=wt ([if par then dZ else bT,f]++dT ar)++Z:=by simp [qC]
   rw [e1];refine .same ew ?_
   cases par with
   | false=>exact .EA hc
   | true=>exact .ki (by show hd (bZ dZ::_)≠_;rw [gg];decide) (.EA hc)
  ·have hn:dq to:=h1.resolve_left ht
   have hc:=Iw (to:=to) h2 h3 h4 Z;have e1:wt (qC (.task par to f ar))++Z=bZ to::bZ [61]::(wt ([if par then dZ else bT,f]++dT ar)++Z):=by simp [qC,ht]
   rw [e1];refine .same ew (.ki (nm _ hn _ (by decide)) (.ki (nm _ hn _ (by decide)) (.eV (nm _ hn _ (by decide)) (.eV (nm _ hn _ (by decide)) (.eV (nm _ hn _ (by decide)) (.name hn (.ki (by rw [gg];decide) (.want ?_))))))))
   cases par with
   | false=>exact .EA hc
   | true=>exact .ki (by show hd (bZ dZ::_)≠_;rw [gg];decide) (.EA hc)
 | sync=>
  refine .same ew (.ki (by show hd (bZ jM::_)≠_;rw [gg];decide) (.ki (by show hd (bZ jM::_)≠_;rw [gg];decide) (.kh .ret)))
 | one k e=>
  rcases h.1 with rfl|rfl
  ·refine .same ew (.ki (by show hd (bZ dW::_)≠_;rw [gg];decide) (.ki (by show hd (bZ dW::_)≠_;rw [gg];decide) (.eV (by show hd (bZ dW::_)≠_;rw [gg];decide) (.kh (.bind (ex e h.2) .ret)))))
  ·refine .same ew (.ki (by show hd (bZ dM::_)≠_;rw [gg];decide) (.ki (by show hd (bZ dM::_)≠_;rw [gg];decide) (.eV (by show hd (bZ dM::_)≠_;rw [gg];decide) (.eV (by show hd (bZ dM::_)≠_;rw [gg];decide) (.kh (.bind (ex e h.2) .ret))))))
 | act o v ar=>
  have e1:wt (qC (.act o v ar))++Z=bZ o::bZ [46]::bZ v::(wt (dT ar)++Z):=by simp [qC,wEx,dT]
  rw [e1];refine .same ew (.ki (nm _ h.1 _ (by decide)) (.ki (nm _ h.1 _ (by decide)) (.eV (nm _ h.1 _ (by decide)) (.eV (nm _ h.1 _ (by decide)) (.eV (nm _ h.1 _ (by decide)) (.name h.1 (.EA (.bind (b:=(v,ar)) ?_ .ret))))))));exact .step (fun n=>ql n o) (.want (.name h.2.1 (.bind ((Lp ar h.2.2).args Z) .ret)))
theorem Bj {s:Stm} (h:s.good):∃w r,db s=w::r/\w≠ja/\w≠[125]/\(Be s->w≠sIf/\w≠fX):=by
 have nm:∀{n:Str},dq n->n≠ja/\n≠[125]/\(Be s->n≠sIf/\n≠fX):=fun hn=>⟨Bg hn (by decide),(by obtain ⟨c,r,e,hc⟩:=qD hn;rw [e];intro e;injection e with e _;subst e;cases hc),fun _=>⟨Bg hn (by decide),Bg hn (by decide)⟩⟩
 cases s with
 | if1 e a=>exact ⟨sIf,_,rfl,by decide,by decide,fun h=>h.elim⟩
 | if2 e a b=>exact ⟨sIf,_,rfl,by decide,by decide,fun h=>h.elim⟩
 | loop e a=>exact ⟨fX,_,rfl,by decide,by decide,fun h=>h.elim⟩
 | set n e=>exact ⟨n,_,rfl,nm h.1⟩
 | task par to f ar=>
  by_cases ht:to=[]
  ·subst ht
   cases par with
   | false=>exact ⟨bT,_,rfl,by decide,by decide,fun _=>⟨by decide,by decide⟩⟩
   | true=>exact ⟨dZ,_,rfl,by decide,by decide,fun _=>⟨by decide,by decide⟩⟩
  ·exact ⟨to,[[61]]++([if par then dZ else bT,f]++(dT ar++[[59]])),by simp [db,ht],nm (h.1.resolve_left ht)⟩
 | sync=>exact ⟨jM,_,rfl,by decide,by decide,fun _=>⟨by decide,by decide⟩⟩
 | one k e=>
  rcases h.1 with rfl|rfl
  ·exact ⟨dW,_,rfl,by decide,by decide,fun _=>⟨by decide,by decide⟩⟩
  ·exact ⟨dM,_,rfl,by decide,by decide,fun _=>⟨by decide,by decide⟩⟩
 | act o v ar=>exact ⟨o,_,rfl,nm h.1⟩
theorem Bm {s:Stm} (h:s.good) (hs:Be s) (Z:List Tok):Ev gU (wt (db s)++Z) s Z:=by
 obtain ⟨w,r,h1,_,_,h4⟩:=Bj h;obtain ⟨h4,h5⟩:=h4 hs;have e1:hd (wt (db s)++Z)=w:=by rw [h1];exact gg _ _
 refine .step lB (.eV (by rw [e1];exact h4) (.eV (by rw [e1];exact h5) ?_));rw [<- Le hs,Yx];exact .bind (Nl h hs (gg _ _)) (.want .ret)
theorem F9 {e:Ex} (he:e.good) (Z:List Tok):Ev da (wt (wEx e 0)++(bZ [123]::Z)) e (bZ [123]::Z):=by
 have z:∀k:Str,k≠[123]->hd (bZ [123]::Z)≠k:=fun k hk=>by rw [gg];exact hk.symm
 exact (Iu e he).l0 _ (z _ (by decide)) (z _ (by decide)) (z _ (by decide)) (z _ (by decide)) (z _ (by decide)) (z _ (by decide))
theorem Bn {b:Bl} (h:∀Z,Ev cT (wt (wBl b++[[125]])++Z) b Z) (Z:List Tok):Ev cN (bZ [123]::(wt (wBl b++[[125]])++Z)) b Z:=.step qn (.want (h Z))
mutual
theorem WV:∀(s:Stm),s.good->∀Z,hd Z≠ja->Ev gU (wt (db s)++Z) s Z
 | .set n e,h,Z,_=>Bm h trivial Z
 | .task par to f ar,h,Z,_=>Bm h trivial Z
 | .sync,h,Z,_=>Bm h trivial Z
 | .one k e,h,Z,_=>Bm h trivial Z
 | .act o v ar,h,Z,_=>Bm h trivial Z
 | .if1 e a,h,Z,hZ=>by
  have e1:wt (db (.if1 e a))++Z=bZ sIf::(wt (wEx e 0)++(bZ [123]::(wt (wBl a++[[125]])++Z))):=by simp [db]
  rw [e1];exact .step lB (.kh (.bind (F9 h.1 _) (.bind (Bn (EC a h.2) Z) (.eV hZ .ret))))
 | .if2 e a b,h,Z,hZ=>by
  have e1:wt (db (.if2 e a b))++Z=bZ sIf::(wt (wEx e 0)++(bZ [123]::(wt (wBl a++[[125]])++(bZ ja::bZ [123]::(wt (wBl b++[[125]])++Z))))):=by simp [db]
  rw [e1];exact .step lB (.kh (.bind (F9 h.1 _) (.bind (Bn (EC a h.2.1) _) (.kh (.bind (Bn (EC b h.2.2) Z) .ret)))))
 | .loop e a,h,Z,hZ=>by
  have e1:wt (db (.loop e a))++Z=bZ fX::(wt (wEx e 0)++(bZ [123]::(wt (wBl a++[[125]])++Z))):=by simp [db]
  rw [e1];exact .step lB (.eV (by rw [gg];decide) (.kh (.bind (F9 h.1 _) (.bind (Bn (EC a h.2) Z) .ret))))
theorem EC:∀(b:Bl),b.good->∀Z,Ev cT (wt (wBl b++[[125]])++Z) b Z
 | .nil,_,Z=>.step nk (.kh .ret)
 | .cons s r,h,Z=>by
  have e1:wt (wBl (.cons s r)++[[125]])++Z=wt (db s)++(wt (wBl r++[[125]])++Z):=by simp [wBl]
  obtain ⟨w,q,h1,_,h3,_⟩:=Bj h.1;have e2:hd (wt (db s)++(wt (wBl r++[[125]])++Z))=w:=by rw [h1];exact gg _ _
  have e3:hd (wt (wBl r++[[125]])++Z)≠ja:=by
   cases r with
   | nil=>show hd (bZ [125]::_)≠_;rw [gg];decide
   | cons s2 r2=>
    obtain ⟨w2,q2,h1,h2,_,_⟩:=Bj h.2.1;rw [wBl,h1];show hd (bZ w2::_)≠_;rw [gg];exact h2
  rw [e1];exact .step nk (.eV (by rw [e2];exact h3) (.bind (WV s h.1 _ e3) (.bind (EC r h.2 Z) .ret)))
end
theorem ED:∀(l:List Str),(∀s∈l,dq s)->∀Z,Ev cq (wt ((l.flatMap fun s=>[[44],s])++[[41]])++Z) l Z
 | [],_,Z=>.step kP (.eV (by show hd (bZ [41]::Z)≠_;rw [gg];decide) (.want .ret))
 | s::l,h,Z=>by
  have e1:wt (((s::l).flatMap fun s=>[[44],s])++[[41]])++Z=bZ [44]::bZ s::(wt ((l.flatMap fun s=>[[44],s])++[[41]])++Z):=by simp
  rw [e1];exact .step kP (.kh (.name (h s (aaV ..)) (.bind (ED l (fun x hx=>h x (aaL _ hx)) Z) .ret)))
theorem WW {f:Fn} (h:f.good) (Z:List Tok):Ev lZ (wt (wFn f)++Z) f Z:=by
 obtain ⟨nm,al,b⟩:=f;have e1:wt (wFn ⟨nm,al,b⟩)++Z=bZ fW::bZ nm::bZ [40]::(wt (ej al++[[41]])++(bZ [123]::(wt (wBl b++[[125]])++Z))):=by simp [wFn,df]
 rw [e1];refine .same tL (.want (.name h.name (.bind (b:=al) ?_ (.bind (Bn (EC b h.body) Z) .ret))))
 cases al with
 | nil=>exact .same np (.want (.kh .ret))
 | cons s l=>
  have hs:dq s:=h.args s (aaV ..);have e2:∀Z,wt (ej (s::l)++[[41]])++Z=bZ s::(wt ((l.flatMap fun s=>[[44],s])++[[41]])++Z):=fun Z=>by simp [ej]
  rw [e2];exact .same np (.want (.eV (by rw [gg];obtain ⟨c,r,e,hc⟩:=qD hs;rw [e];intro e;injection e with e _;subst e;cases hc) (.name hs (.bind (ED l (fun x hx=>h.args x (aaL _ hx)) _) .ret))))
theorem Ix {k:Int} (h:0<=k/\k<=3):kindOf (ix k)=some k/\bZ (ix k)=⟨1,ix k,0,0⟩/\ix k≠fW:=by
 rcases (show k=0\/k=1\/k=2\/k=3 by omega) with rfl|rfl|rfl|rfl<;>exact ⟨by decide,by decide,by decide⟩
theorem TA {d:Dec} (h:d.good) (Z:List Tok):mg (wt (eL d)++Z) = .ok d Z:=by
 obtain ⟨k,nm,n⟩:=d;obtain ⟨k1,k2,_⟩:=Ix h.kind;have hw:∀(x:Dec) Z,gp [59] (dL x) (bZ [59]::Z) = .ok x Z:=fun x Z=>by
  show (want [59] (bZ [59]::Z)).bind _=_;rw [want,if_pos (gg _ _)];rfl
 have e1:wt (eL ⟨k,nm,n⟩)++Z=⟨1,ix k,0,0⟩::bZ nm::(wt ((if n≠0 then [[61],Lib.itoa n] else [])++[[59]])++Z):=by
  rw [<- k2];simp [eL]
 rw [e1,nO];show j7 (ix k) _=_;unfold j7;rw [k1];show (dD (bZ nm::_)).bind _=_;rw [Ll h.name,tO];by_cases h0:n=0
 ·subst h0
  show (if k=0 then (ei [61] _ _:List Tok->R Dec) else gp [59] (dL ⟨k,nm,0⟩)) (bZ [59]::Z)=_
  split
  ·show (if hd (bZ [59]::Z)=[61] then _ else _)=_
   rw [if_neg (by rw [gg];decide)];exact hw _ _
  ·exact hw _ _
 ·have hk:k=0:=by
   by_cases hk:k=0
   ·exact hk
   ·exact absurd (h.zero hk) h0
  rw [if_pos hk,if_pos h0];show (if hd (bZ [61]::_)=[61] then _ else _)=_;rw [if_pos (gg _ _)];show (eH 2 (bZ (Lib.itoa n)::bZ [59]::Z)).bind _=_;rw [Is h.n];exact hw _ _
theorem Nn (d:Dec):∃r,eL d=ix d.kind::r:=⟨_,rfl⟩
theorem Lq:∀(ds:List Dec),(∀d∈ds,d.good)->∀Z,(Z=[]\/hd Z=fW)->oJ (wt (ds.flatMap eL)++Z) ds Z
 | [],_,Z,hZ=>.stop hZ
 | d::ds,h,Z,hZ=>by
  rw [abk,Yx];have hd1:=h d (aaV ..);refine .cons ?_ (TA hd1 _) (Lq ds (fun x hx=>h x (aaL _ hx)) Z hZ);obtain ⟨r,e⟩:=Nn d;rw [e,F8];rintro (h|h)
  ·cases h
  ·rw [aaE,gg] at h
   exact (Ix hd1.kind).2.2 h
theorem Lr:∀(fs:List Fn),(∀f∈fs,f.good)->mV (wt (fs.flatMap wFn)) fs
 | [],_=>.nil
 | f::fs,h=>by
  rw [abk,JZ];obtain ⟨N,h1⟩:=WW (h f (aaV ..)) (wt (fs.flatMap wFn));exact .cons ⟨N,h1 N (aax _)⟩ (Lr fs fun x hx=>h x (aaL _ hx))
theorem TB (x:List Dec×List Fn) (hg:(∀d∈x.1,d.good)/\∀f∈x.2,f.good):Prg (wt (nQ x)) x.1 x.2:=by
 obtain ⟨ds,fs⟩:=x;refine ⟨wt (fs.flatMap wFn),?_,Lr fs hg.2⟩;rw [nQ,JZ];refine Lq ds hg.1 _ ?_
 cases fs with
 | nil=>exact .inl rfl
 | cons f fs=>
  refine .inr ?_;rw [abk,wFn];exact gg _ _
theorem oe (c:UInt8) (r:Str) (h:c≠61):Fine [c::r]/\NH [c::r]:=
 ⟨.one (by intro e;injection e with e _;exact h e) (by simp),by simp,fun s q e=>by injection e with e _;subst e;intro h2;injection h2 with h2;exact h h2⟩
theorem FN.app {a b:List Str} (ha:Fine a/\NH a) (hb:Fine b):Fine (a++b)/\NH (a++b):=⟨ha.1.app hb,ha.2.app⟩
theorem kj {k:Str} (hk:oI k=true):Fine [k]/\NH [k]:=by
 cases k with
 | nil=>exact absurd hk (by decide)
 | cons c r=>
  refine oe c r ?_;rintro rfl;unfold oI at hk;simp [kC,JE,vm,Ax,fW,bT,dZ,jM,sIf,ja,fX,dW,dM] at hk
theorem Gi:Fine [([40]:Str)]/\NH [([40]:Str)]:=oe 40 [] (by decide)
theorem Bo:Fine [([41]:Str)]/\NH [([41]:Str)]:=oe 41 [] (by decide)
mutual
theorem uU:∀(e:Ex) (l:Int),e.good->Fine (wEx e l)/\NH (wEx e l)
 | .num n,_,h=>Ir h
 | .name s,_,h=>gd h
 | .call o v ar,_,h=>by
  have e1:wEx (.call o v ar) 0=[o]++([[46]]++([v]++([[40]]++(gG ar++[[41]])))):=by simp [wEx]
  show Fine (wEx (.call o v ar) 0)/\NH (wEx (.call o v ar) 0);rw [e1];exact FN.app (gd h.1) ((oe 46 [] (by decide)).1.app ((gd h.2.1).1.app (Ql ar h.2.2)))
 | .bin k a b,l,h=>by
  have core:Fine (wEx a (max (bP k) 1)++[lC k]++wEx b (bP k+1))/\NH (wEx a (max (bP k) 1)++[lC k]++wEx b (bP k+1)):=by
   rw [aaD];exact FN.app (uU a _ h.2.1) ((Nj k h.1).app (uU b _ h.2.2).1)
  show Fine (if bP k<l then _ else _)/\NH (if bP k<l then _ else _)
  split
  ·rw [aaD]
   exact FN.app Gi (core.1.app Bo.1)
  ·exact core
theorem Ql:∀(es:Exs),es.good->Fine ([[40]]++(gG es++[[41]]))
 | .nil,_=>Gi.1.app Bo.1
 | .cons e r,h=>by
  have e1:[[40]]++(gG (.cons e r)++[[41]])=[[40]]++(wEx e 0++(eK r++[[41]])):=by simp [gG]
  rw [e1];exact Gi.1.app ((uU e 0 h.1).1.app (Ls r h.2))
theorem Ls:∀(es:Exs),es.good->Fine (eK es++[[41]])
 | .nil,_=>Bo.1
 | .cons e r,h=>by
  have e1:eK (.cons e r)++[[41]]=[[44]]++(wEx e 0++(eK r++[[41]])):=by simp [eK]
  rw [e1];exact (oe 44 [] (by decide)).1.app ((uU e 0 h.1).1.app (Ls r h.2))
end
theorem TC {es:Exs} (h:es.good):Fine (dT es):=by rw [dT,aaD];exact Ql es h
theorem vE:Fine [([59]:Str)]:=(oe 59 [] (by decide)).1
mutual
theorem Qm:∀(s:Stm),s.good->Fine (db s)
 | .set n e,h=>by
  have e1:db (.set n e)=[n]++([61]::(wEx e 0++[[59]])):=by simp [db]
  rw [e1];have:=uU e 0 h.2;exact (gd h.1).1.app (Fine.eq (this.1.app vE) this.2.app)
 | .task par to f ar,h=>by
  have k1:Fine [if par then dZ else bT]/\NH [if par then dZ else bT]:=by cases par<;>exact kj (by decide)
  have core:=FN.app k1 ((gd h.2.1).1.app ((TC h.2.2.1).app vE));by_cases ht:to=[]
  ·subst ht
   have e1:db (.task par [] f ar)=[if par then dZ else bT]++([f]++(dT ar++[[59]])):=by simp [db]
   rw [e1];exact core.1
  ·have e1:db (.task par to f ar)=[to]++([61]::([if par then dZ else bT]++([f]++(dT ar++[[59]])))):=by simp [db,ht]
   rw [e1];exact (gd (h.1.resolve_left ht)).1.app (Fine.eq core.1 core.2)
 | .sync,h=>(kj (k:=jM) (by decide)).1.app vE
 | .if1 e a,h=>by
  have e1:db (.if1 e a)=[sIf]++(wEx e 0++df a):=by simp [db,df]
  rw [e1];exact (kj (k:=sIf) (by decide)).1.app ((uU e 0 h.1).1.app (Bq a h.2))
 | .if2 e a b,h=>by
  have e1:db (.if2 e a b)=[sIf]++(wEx e 0++(df a++([ja]++df b))):=by simp [db,df]
  rw [e1];exact (kj (k:=sIf) (by decide)).1.app ((uU e 0 h.1).1.app ((Bq a h.2.1).app ((kj (k:=ja) (by decide)).1.app (Bq b h.2.2))))
 | .loop e a,h=>by
  have e1:db (.loop e a)=[fX]++(wEx e 0++df a):=by simp [db,df]
  rw [e1];exact (kj (k:=fX) (by decide)).1.app ((uU e 0 h.1).1.app (Bq a h.2))
 | .one k e,h=>by
  have e1:db (.one k e)=[if k=15 then dW else dM]++(wEx e 0++[[59]]):=by simp [db]
  rw [e1];refine Fine.app ?_ ((uU e 0 h.2).1.app vE)
  split<;>exact (kj (by decide)).1
 | .act o v ar,h=>((uU (.call o v ar) 0 h).1).app vE
theorem Bq:∀(b:Bl),b.good->Fine (df b)
 | .nil,_=>(oe 123 [] (by decide)).1.app (oe 125 [] (by decide)).1
 | .cons s r,h=>by
  have e1:df (.cons s r)=[[123]]++(db s++(wBl r++[[125]])):=by simp [df,wBl]
  rw [e1];exact (oe 123 [] (by decide)).1.app ((Qm s h.1).app (Vw r h.2))
theorem Vw:∀(b:Bl),b.good->Fine (wBl b++[[125]])
 | .nil,_=>(oe 125 [] (by decide)).1
 | .cons s r,h=>by
  have e1:wBl (.cons s r)++[[125]]=db s++(wBl r++[[125]]):=by simp [wBl]
  rw [e1];exact (Qm s h.1).app (Vw r h.2)
end
theorem WX {d:Dec} (h:d.good):Fine (eL d):=by
 have k1:Fine [ix d.kind]:=by
  have hk:=h.kind
  rcases (show d.kind=0\/d.kind=1\/d.kind=2\/d.kind=3 by omega) with e|e|e|e<;>rw [e]<;>exact (kj (by decide)).1
 by_cases h0:d.n=0
 ·have e1:eL d=[ix d.kind]++([d.name]++[[59]]):=by simp [eL,h0]
  rw [e1];exact k1.app ((gd h.name).1.app vE)
 ·have e1:eL d=[ix d.kind]++([d.name]++([61]::([Lib.itoa d.n]++[[59]]))):=by simp [eL,h0]
  rw [e1];have:=Ir h.n;exact k1.app ((gd h.name).1.app (Fine.eq (this.1.app vE) this.2.app))
theorem Iy:∀(l:List Str),(∀s∈l,dq s)->Fine ((l.flatMap fun s=>[[44],s])++[[41]])
 | [],_=>Bo.1
 | s::l,h=>by
  have e1:((s::l).flatMap fun s=>[[44],s])++[[41]]=[[44]]++([s]++((l.flatMap fun s=>[[44],s])++[[41]])):=by simp
  rw [e1];exact (oe 44 [] (by decide)).1.app ((gd (h s (aaV ..))).1.app (Iy l fun x hx=>h x (aaL _ hx)))
theorem WY {f:Fn} (h:f.good):Fine (wFn f):=by
 obtain ⟨nm,al,b⟩:=f;have hb:=Bq b h.body;have hk:=(kj (k:=fW) (by decide)).1.app ((gd h.name).1.app Gi.1)
 cases al with
 | nil=>
  have e1:wFn ⟨nm,[],b⟩=([fW]++([nm]++[[40]]))++([[41]]++df b):=by simp [wFn,ej]
  rw [e1];exact hk.app (Bo.1.app hb)
 | cons s l=>
  have e1:wFn ⟨nm,s::l,b⟩=([fW]++([nm]++[[40]]))++([s]++(((l.flatMap fun s=>[[44],s])++[[41]])++df b)):=by simp [wFn,ej]
  rw [e1];exact hk.app ((gd (h.args s (aaV ..))).1.app ((Iy l fun x hx=>h.args x (aaL _ hx)).app hb))
theorem Br {α:Type} {W:α->List Str}:∀(l:List α),(∀x∈l,Fine (W x))->NQ (l.flatMap W)/\EN (l.flatMap W)
 | [],_=>⟨trivial,fun _ h=>by cases h⟩
 | x::l,h=>by
  rw [abk];have h1:=h x (aaV ..);obtain ⟨h2,h3⟩:=Br l fun y hy=>h y (aaL _ hy);refine ⟨h1.ne.app h2 h1.en,?_⟩;by_cases hl:l.flatMap W=[]
  ·rw [hl,aa6];exact h1.en
  ·exact h3.app hl
theorem TD (x:List Dec×List Fn) (hg:(∀d∈x.1,d.good)/\∀f∈x.2,f.good):NQ (nQ x):=by
 obtain ⟨ds,fs⟩:=x;obtain ⟨h1,h2⟩:=Br (W:=eL) ds fun d hd=>WX (hg.1 d hd);exact h1.app (Br (W:=wFn) fs fun f hf=>WY (hg.2 f hf)).1 h2
theorem Gj {s:List UInt8} {L:List Tok} (h:jD s 0=some L) (hs:s.length<=1500) {ds:List Dec} {fs:List Fn} (hp:Prg L ds fs) (hd:iw L 0 0<=40) :
  (dw [] (nQ (ds,fs))).length<=s.length/\ofR (dw [] (nQ (ds,fs)))=(mW (ds,fs),0)/\((∀d∈ds,d.good)/\∀f∈fs,f.good)/\(nQ (ds,fs)).Sublist (txs L):=by
 have hw:=JV _ _ _ _ h;have hg:=hp.good fun t ht=>(hw t ht).ok;have ht:=hp.tq hw;have ha:=Bf _ _ _ _ h;have hl:(dw [] (nQ (ds,fs))).length<=s.length:=by
  refine aa7 (WR ht.sub (fun x hx=>?_) []) (F6 _ _ _ _ [] h (fun h=>by cases h));obtain ⟨k,v,e⟩:=ha x hx;rintro rfl
  cases e
 refine ⟨hl,?_,hg,ht.sub⟩;obtain ⟨m,h1,h2⟩:=Iq (nQ (ds,fs)) [] 0 (ht.Zk ha) (TD _ hg);rw [Il h1 (by omega),<- Nc,h2];refine Tm (TB (ds,fs) hg) ?_;rw [F5,WS];refine adw (ht.dep 0 0) ?_;rw [<- F5];exact hd
end Uw.Tryz
namespace Uw.Tryz
open Go Uw
section
open Go.Proofs Go.RowKit
theorem s7 (n:Int) (h0 : -9223372036854775808<=n) (h1:n<=9223372036854775807):Ret P0 AK [I n] (.str (Lib.itoa n)):=by
 intro w J vs hG hr;obtain ⟨v,vs',rfl,hv,hr⟩:=hr;simp only [bp] at hr;subst hr;simp only [aI] at hv;subst hv;refine (Tryz.strconv_Itoa n h0 h1 w hG.2.2).mono ?_;rintro e w' ⟨rfl,k,os,rfl⟩;exact ⟨_,rfl,rfl,Lib.below_grow _ w (aax _) k os⟩
end
def cP (ys:List Str):List (List Dat):=ys.map fun s=>[.str s]
theorem Iz (a b:List Str):cP (a++b)=cP a++cP b:=by simp [cP]
def kX (m:Nat) (p:Nat->Bool):List (List Dat):=(List.range m).map fun i=>[.bool (p i)]
def wr (ds fs ns:List (List Dat)) (p:Nat->Bool) (ws:List Str):List Blk:=
 [.var [.d (.slice 3 ds false),.d (.slice 3 fs false),.d (.slice 5 ns false),.ref 1 0 0 (kX ns.length p).length,.ref 2 0 0 (cP ws).length],.mt 1 0 (kX ns.length p),.arr 1 (cP ws)]
theorem aH (ds fs ns:List (List Dat)) (p:Nat->Bool) (ws l:List Str) (h:ws.length+l.length<1000000):aE P0 aD [.ptr 0 0,.d (.slice 1 (cP l) true)] (wr ds fs ns p ws) (.tuple []) (wr ds fs ns p (ws++l)):=by
 have h1:(cP ws).length=ws.length:=by simp [cP]
 have h2:(cP l).length=l.length:=by simp [cP]
 rw [wr,wr,Iz];generalize kX ns.length p=wro at *;generalize cP ws=x at *;generalize cP l=y at *;refine ax mj rfl ?_
 repeat' first|refine aw ?_|refine bw (fun _=>?_) fun _=>?_
 exact bG 3 rfl rfl (by exact Uw.wW)
def eE (p:Nat->Bool) (k:Nat):Nat->Bool:=fun i=>p i||decide (i=k)
theorem TF (m:Nat) (p:Nat->Bool) (k:Nat):(kX m p).set k [.bool true]=kX m (eE p k):=by
 refine acz (by simp [kX]) fun i h1 h2=>?_;simp only [kX,List.getElem_set,adb,List.getElem_range,eE];by_cases h:k=i
 ·subst h;simp
 ·rw [if_neg h];simp only [show ¬i=k from fun e=>h e.symm,decide_false,Bool.or_false]
theorem DF (ds fs ns:List (List Dat)) (p:Nat->Bool) (ws:List Str) (k:Nat) (hk:k<ns.length) (hn:ns.length<1000000) (hp:p k=false) (x:Nd) (hx:ns[k]? = some (ndL x)):aE P0 bA [.ptr 0 0,.d (I k)] (wr ds fs ns p ws) (.agg [.d (I x.kind),.d (I x.n),.d (.str x.name),.d (.str x.name2),.d (bN x.of)]) (wr ds fs ns (eE p k) ws):=by
 have hw:(kX ns.length p)[0+((k:Int)).toNat]? = some [.bool false]:=by
  rw [show 0+((k:Int)).toNat=k by omega];simp [kX,hk,hp]
 have hx' : ns[((k:Int)).toNat]? = some (ndL x):=by rw [show ((k:Int)).toNat=k by omega];exact hx
 have hs:=TF ns.length p k;have hs' : (kX ns.length p).set (0+((k:Int)).toNat) [.bool true]=kX ns.length (eE p k):=by rw [show 0+((k:Int)).toNat=k by omega];exact hs
 have hl:(kX ns.length p).length=ns.length:=by simp [kX]
 rw [wr,wr,<- hs'];clear hs hs';generalize kX ns.length p=wro at *;generalize cP ws=y at *;refine ax sT rfl ?_
 repeat' first|refine aw ?_|refine bw (fun _=>?_) fun _=>?_
 exact aF 3 rfl rfl (by exact Uw.wW)
theorem jz (k:Int):Ret P0 eD [I k] (.tuple [I (bP k),.str (lC k)]):=by
 unfold bP lC;by_cases h6:k=6
 ·subst h6
  refine aU eX rfl ?_
  repeat' first|refine aw ?_|refine bw (fun _=>?_) fun _=>?_
  exact aC rfl rfl rfl rfl rfl
 by_cases h7:k=7
 ·subst h7
  refine aU eX rfl ?_
  repeat' first|refine aw ?_|refine bw (fun _=>?_) fun _=>?_
  exact aC rfl rfl rfl rfl rfl
 by_cases h3:k=3
 ·subst h3
  refine aU eX rfl ?_
  repeat' first|refine aw ?_|refine bw (fun _=>?_) fun _=>?_
  exact aC rfl rfl rfl rfl rfl
 by_cases h4:k=4
 ·subst h4
  refine aU eX rfl ?_
  repeat' first|refine aw ?_|refine bw (fun _=>?_) fun _=>?_
  exact aC rfl rfl rfl rfl rfl
 by_cases h5:k=5
 ·subst h5
  refine aU eX rfl ?_
  repeat' first|refine aw ?_|refine bw (fun _=>?_) fun _=>?_
  exact aC rfl rfl rfl rfl rfl
 rw [if_neg h6,if_neg h7,if_neg h3,if_neg h4,if_neg h5,if_neg h6,if_neg h7,if_neg h3,if_neg h4,if_neg h5];refine aU eX rfl ?_
 repeat' first|refine aw ?_|refine bw (fun _=>?_) fun _=>?_
 exact aC rfl rfl rfl rfl rfl
end Uw.Tryz
namespace Uw.Tryz
open Go Uw
def EQD (P:Program) (b:Nat) (res:List gY) (v:V) (bs' : List Blk) (e:aG) (st:St):Prop:=
 (e = .normal\/e = .ret)/\∃g fs cs,st.defers=[.func g fs cs]/\PI P g (fs++cs) st.heap st.next fun r h' nx'=>(∃v0,r = .val v0)/\∃vs,resV { st with heap:=h',next:=nx',defers:=[] } res=some vs/\Weak ⟨[(0,i7 vs)],h',nx',[],b⟩ ⟨[(0,v)],bz 0 bs',bs'.length,[],b⟩
theorem Qn {P:Program} {f:FuncId} {vs:List V} {bs bs' : List Blk} {v:V} {m:bE} (hf:aM P f m) (hn:Nat.ble vs.length m.n=true) (hw:WT P (EQD P bs.length m.res v bs') (exec m.code ⟨dP 0 vs,bz 0 bs,bs.length,[],bs.length⟩ Tree.done)):aE P f vs bs v bs':=by
 refine kM.Vt (R0:=fun r h n=>∃u,r = .val u/\Weak ⟨[(0,u)],h,n,[],bs.length⟩ ⟨[(0,v)],bz 0 bs',bs'.length,[],bs.length⟩) (Dv hf hn (WT.mono ?_ _ hw)) ?_
 ·rintro e st ⟨he,g,fs,cs,hd,hs⟩
  refine ⟨st,.inl rfl,.inr ⟨he,g,fs,cs,hd,hs.1,fun c w0 F gvs u h1 h2 h3 h4 h5=>(hs.2 c w0 F gvs u h1 h2 h3 h4 h5).mono ?_⟩⟩;rintro e' u' w' ⟨hu,c',r,nx',e1,e2,e3,e4,e5,e6,e7,h1,vs,h2,h3⟩;exact ⟨hu,c',r,nx',e1,e2,e3,e4,e5,e6,e7,h1,vs,h2,_,rfl,h3⟩
 ·rintro r0 h0 n0 ⟨u,rfl,hw⟩
  exact ⟨u,v,_,_,rfl,hw,rfl,rfl,rfl⟩
def At (NS:List Nod) (b:Nat) (l:List Nod):Prop:=∀j (h:j<l.length),NS[b+j]? = some l[j]
theorem At.left {NS:List Nod} {b:Nat} {x y:List Nod} (h:At NS b (x++y)):At NS b x:=fun j hj=>by
 rw [h j (by simp;omega),acO hj]
theorem At.right {NS:List Nod} {b:Nat} {x y:List Nod} (h:At NS b (x++y)):At NS (b+x.length) y:=fun j hj=>by
 rw [show b+x.length+j=b+(x.length+j) by omega,h (x.length+j) (by simp;omega)];simp
theorem At.one {NS:List Nod} {b:Nat} {x:Nod} (h:At NS b [x]):NS[b]? = some x:=h 0 (by simp)
def nsL (NS:List Nod):List (List Dat):=NS.map fun x=>ndL x.nd
theorem TG {NS:List Nod} {b:Nat} {x:Nod} (h:NS[b]? = some x):b<(nsL NS).length/\(nsL NS)[b]? = some (ndL x.nd):=by
 obtain ⟨h1,h2⟩:=aa0.1 h;refine ⟨by simpa [nsL] using h1,?_⟩;simp [nsL,h]
def orR (p:Nat->Bool) (b n:Nat):Nat->Bool:=fun i=>p i||(decide (b<=i)&&decide (i<b+n))
theorem zG (p:Nat->Bool) (b:Nat):eE p b=orR p b 1:=by
 funext i
 simp only [eE,orR];by_cases h:i=b
 ·subst h;simp
 ·have:¬(b<=i/\i<b+1):=by omega
  by_cases h1:b<=i
  ·simp [h,show ¬i<b+1 by omega]
  ·simp [h,h1]
theorem Bt (p:Nat->Bool) (b:Nat):orR p b 0=p:=by
 funext i
 simp only [orR];by_cases h1:b<=i
 ·simp [show ¬i<b by omega]
 ·simp [h1]
theorem m4 (p:Nat->Bool) (b x y:Nat):orR (orR p b x) (b+x) y=orR p b (x+y):=by
 funext i
 simp only [orR];by_cases h1:i<b
 ·simp [show ¬b<=i by omega,show ¬b+x<=i by omega]
 ·by_cases h2:i<b+x
  ·simp [show b<=i by omega,h2,show i<b+(x+y) by omega]
  ·by_cases h3:i<b+(x+y)
   ·simp [show b<=i by omega,show b+x<=i by omega,h3,show i<b+x+y by omega]
   ·simp [h2,h3,show ¬i<b+x+y by omega]
theorem Qo (p:Nat->Bool) (b x c y:Nat):orR (orR p b x) c y=orR (orR p c y) b x:=by
 funext i
 simp only [orR,Bool.or_assoc];rw [Bool.or_comm (decide (b<=i)&&decide (i<b+x))]
theorem iI (p:Nat->Bool) (b n:Nat):orR (eE p (b+n)) b n=orR p b (n+1):=by rw [zG,Qo,m4]
theorem eO {p:Nat->Bool} {k i:Nat} (h:i≠k):eE p k i=p i:=by simp [eE,h]
theorem m5 {p:Nat->Bool} {b n i:Nat} (h:i<b\/b+n<=i):orR p b n i=p i:=by
 simp only [orR]
 rcases h with h|h
 ·simp [show ¬b<=i by omega]
 ·simp [show ¬i<b+n by omega]
def Free (p:Nat->Bool) (b n:Nat):Prop:=∀i,b<=i->i<b+n->p i=false
abbrev wrN (D F:List (List Dat)) (NS:List Nod) (p:Nat->Bool) (ws:List Str):List Blk:=wr D F (nsL NS) p ws
theorem ig (D F:List (List Dat)) (NS:List Nod) (hN:NS.length<100000) (p:Nat->Bool) (ws:List Str) (k:Nat) (x:Nod) (hx:NS[k]? = some x) (hp:p k=false) :
  aE P0 bA [.ptr 0 0,.d (I k)] (wrN D F NS p ws) (.agg [.d (I x.kind),.d (I x.n),.d (.str x.name),.d (.str x.name2),.d (bN x.nd.of)]) (wrN D F NS (eE p k) ws):=by
 obtain ⟨h1,h2⟩:=TG hx;exact DF D F (nsL NS) p ws k h1 (by simp [nsL];omega) hp x.nd h2
def CEx (D F:List (List Dat)) (NS:List Nod) (e:Ex):Prop:=∀b (l:Int) p ws,At NS b (e.flat b)->Free p b e.sz->l<=3->ws.length+(wEx e l).length<1000000->
 aE P0 aL [.ptr 0 0,.d (I ((b+e.sz - 1:Nat))),.d (I l)] (wrN D F NS p ws) (.tuple []) (wrN D F NS (orR p b e.sz) (ws++wEx e l))
theorem TI (D F:List (List Dat)) (NS:List Nod) (hN:NS.length<100000) (n:Int) (hn:nP n):CEx D F NS (.num n):=by
 intro b l p ws ha hp hl hw;have h1:=ig D F NS hN p ws b ⟨1,n,[],[],[]⟩ ha.one (hp b (aax _) (by simp [Ex.sz]));have h2:Ret P0 eD [I 1] (.tuple [I 3,.str []]):=jz 1;have h3:=s7 n (by have:=hn.1;omega) (by have:=hn.2;omega);have h4:=aH D F (nsL NS) (eE p b) ws [Lib.itoa n] hw;rw [show b+(Ex.num n).sz - 1=b from rfl,show orR p b (Ex.num n).sz=eE p b from (zG p b).symm];show aE P0 _ _ _ _ (wrN D F NS (eE p b) (ws++[Lib.itoa n]));clear ha hp hn hw;generalize Lib.itoa n=s at *;refine ax cX rfl ?_
 repeat' first|refine aw ?_|refine bw (fun _=>?_) fun _=>?_
 refine ad 3 [0,1,2] h1 ?_
 repeat' first|refine aw ?_|refine bw (fun _=>?_) fun _=>?_
 refine ad 4 [0,1,2] h4 ?_
 repeat' first|refine aw ?_|refine bw (fun _=>?_) fun _=>?_
 exact bG 3 rfl rfl (by exact Uw.wW)
theorem Qp (D F:List (List Dat)) (NS:List Nod) (hN:NS.length<100000) (s:Str):CEx D F NS (.name s):=by
 intro b l p ws ha hp hl hw;have h1:=ig D F NS hN p ws b ⟨2,0,s,[],[]⟩ ha.one (hp b (aax _) (by simp [Ex.sz]));have h2:Ret P0 eD [I 2] (.tuple [I 3,.str []]):=jz 2;have h4:=aH D F (nsL NS) (eE p b) ws [s] hw;rw [show b+(Ex.name s).sz - 1=b from rfl,show orR p b (Ex.name s).sz=eE p b from (zG p b).symm];show aE P0 _ _ _ _ (wrN D F NS (eE p b) (ws++[s]));clear ha hp hw;refine ax cX rfl ?_
 repeat' first|refine aw ?_|refine bw (fun _=>?_) fun _=>?_
 refine ad 3 [0,1,2] h1 ?_
 repeat' first|refine aw ?_|refine bw (fun _=>?_) fun _=>?_
 refine ad 4 [0,1,2] h4 ?_
 repeat' first|refine aw ?_|refine bw (fun _=>?_) fun _=>?_
 exact bG 3 rfl rfl (by exact Uw.wW)
def Zm (D F:List (List Dat)) (NS:List Nod) (k l t:Int) (sg:Str) (q0 q1 q2:Nat) (p p1 p2 p3:Nat->Bool) (ws ws2 ws3 ws4:List Str):Prop:=
 aE P0 bA [.ptr 0 0,.d (I q0)] (wrN D F NS p ws) (.agg [.d (I k),.d (I 0),.d (.str []),.d (.str []),.d (bN [(q1:Int),(q2:Int)])]) (wrN D F NS p1 ws)->
 Ret P0 eD [I k] (.tuple [I t,.str sg])->
 aE P0 aL [.ptr 0 0,.d (I q1),.d (I (mmI true t 1))] (wrN D F NS p1 ws) (.tuple []) (wrN D F NS p2 ws2)->
 aE P0 aD [.ptr 0 0,.d (.slice 1 (cP [sg]) true)] (wrN D F NS p2 ws2) (.tuple []) (wrN D F NS p2 ws3)->
 aE P0 aL [.ptr 0 0,.d (I q2),.d (I (t+1))] (wrN D F NS p2 ws3) (.tuple []) (wrN D F NS p3 ws4)->
 aE P0 aL [.ptr 0 0,.d (I q0),.d (I l)] (wrN D F NS p ws) (.tuple []) (wrN D F NS p3 ws4)
theorem Zn (D F:List (List Dat)) (NS:List Nod) (k l t:Int) (sg:Str) (q0 q1 q2:Nat) (p p1 p2 p3:Nat->Bool) (ws ws2 ws3 ws4:List Str) (hk:3<=k/\k<=7) (ht:0<=t/\t<=3) (hb:¬t<l):Zm D F NS k l t sg q0 q1 q2 p p1 p2 p3 ws ws2 ws3 ws4:=by
 intro h1 h2 h4 h5 h6;have he0:([(q1:Int),(q2:Int)].map fun i=>[I i])[Int.toNat 0]? = some [I q1]:=rfl;have he1:([(q1:Int),(q2:Int)].map fun i=>[I i])[Int.toNat 1]? = some [I q2]:=rfl;have hk5:k=3\/k=4\/k=5\/k=6\/k=7:=by omega
 rcases hk5 with rfl|rfl|rfl|rfl|rfl
 all_goals refine ax cX rfl ?_
 all_goals (repeat' first|refine aw ?_|refine bw (fun _=>?_) fun _=>?_)
 all_goals refine ad 3 [0,1,2] h1 ?_
 all_goals (repeat' first|refine aw ?_|refine bw (fun _=>?_) fun _=>?_)
 all_goals refine ad 4 [0,1,2] h4 ?_
 all_goals (repeat' first|refine aw ?_|refine bw (fun _=>?_) fun _=>?_)
 all_goals refine ad 4 [0,1,2] h5 ?_
 all_goals (repeat' first|refine aw ?_|refine bw (fun _=>?_) fun _=>?_)
 all_goals refine ad 4 [0,1,2] h6 ?_
 all_goals (repeat' first|refine aw ?_|refine bw (fun _=>?_) fun _=>?_)
 all_goals exact bG 3 rfl rfl (by exact Uw.wW)
end Uw.Tryz
namespace Uw.Tryz
open Go Uw
theorem Zo (D F:List (List Dat)) (NS:List Nod) (k l t:Int) (sg:Str) (q0 q1 q2:Nat) (p p1 p2 p3:Nat->Bool) (ws ws1 ws2 ws3 ws4:List Str) (hk:3<=k/\k<=7) (ht:0<=t/\t<=3) (hb:t<l) (hl4:ws4.length+1<1000000)
  (h1:aE P0 bA [.ptr 0 0,.d (I q0)] (wrN D F NS p ws) (.agg [.d (I k),.d (I 0),.d (.str []),.d (.str []),.d (bN [(q1:Int),(q2:Int)])]) (wrN D F NS p1 ws))
  (h2:Ret P0 eD [I k] (.tuple [I t,.str sg]))
  (h3:aE P0 aD [.ptr 0 0,.d (.slice 1 (cP [[40]]) true)] (wrN D F NS p1 ws) (.tuple []) (wrN D F NS p1 ws1))
  (h4:aE P0 aL [.ptr 0 0,.d (I q1),.d (I (mmI true t 1))] (wrN D F NS p1 ws1) (.tuple []) (wrN D F NS p2 ws2))
  (h5:aE P0 aD [.ptr 0 0,.d (.slice 1 (cP [sg]) true)] (wrN D F NS p2 ws2) (.tuple []) (wrN D F NS p2 ws3))
  (h6:aE P0 aL [.ptr 0 0,.d (I q2),.d (I (t+1))] (wrN D F NS p2 ws3) (.tuple []) (wrN D F NS p3 ws4)) :
  aE P0 aL [.ptr 0 0,.d (I q0),.d (I l)] (wrN D F NS p ws) (.tuple []) (wrN D F NS p3 (ws4++[[41]])):=by
 have he0:([(q1:Int),(q2:Int)].map fun i=>[I i])[Int.toNat 0]? = some [I q1]:=rfl;have he1:([(q1:Int),(q2:Int)].map fun i=>[I i])[Int.toNat 1]? = some [I q2]:=rfl;have hl5:(cP ws4).length<999999:=by simp [cP];omega
 have hr:wrN D F NS p3 (ws4++[[41]])=[.var [.d (.slice 3 D false),.d (.slice 3 F false),.d (.slice 5 (nsL NS) false),.ref 1 0 0 (kX (nsL NS).length p3).length,.ref 2 0 0 (cP ws4++[[Dat.str [41]]]).length],.mt 1 0 (kX (nsL NS).length p3),.arr 1 (cP ws4++[[Dat.str [41]]])]:=by rw [wrN,wr,Iz];rfl
 rw [hr];clear hr;have hk5:k=3\/k=4\/k=5\/k=6\/k=7:=by omega
 rcases hk5 with rfl|rfl|rfl|rfl|rfl
 all_goals refine Qn cX rfl ?_
 all_goals (repeat' first|refine aw ?_|refine bw (fun _=>?_) fun _=>?_)
 all_goals refine ad 3 [0,1,2] h1 ?_
 all_goals (repeat' first|refine aw ?_|refine bw (fun _=>?_) fun _=>?_)
 all_goals refine ad 4 [0,1,2] h3 ?_
 all_goals (repeat' first|refine aw ?_|refine bw (fun _=>?_) fun _=>?_)
 all_goals refine ad 4 [0,1,2] h4 ?_
 all_goals (repeat' first|refine aw ?_|refine bw (fun _=>?_) fun _=>?_)
 all_goals refine ad 4 [0,1,2] h5 ?_
 all_goals (repeat' first|refine aw ?_|refine bw (fun _=>?_) fun _=>?_)
 all_goals refine ad 4 [0,1,2] h6 ?_
 all_goals (repeat' first|refine aw ?_|refine bw (fun _=>?_) fun _=>?_)
 all_goals refine aS ⟨.inl rfl,aD,_,_,rfl,?_⟩
 all_goals refine Du mj rfl ?_
 all_goals (repeat' first|refine aw ?_|refine bw (fun _=>?_) fun _=>?_)
 all_goals exact aS ⟨_,.inl rfl,rfl,_,rfl,⟨_,rfl⟩,_,rfl,by exact Uw.wW⟩
theorem Qq (k:Int):0<=bP k/\bP k<=3:=by unfold bP;repeat' split<;>omega
theorem Np (k:Int) (hk:3<=k/\k<=7):bP k<=2:=by
 have hk5:k=3\/k=4\/k=5\/k=6\/k=7:=by omega
 rcases hk5 with rfl|rfl|rfl|rfl|rfl<;>decide
theorem TJ (D F:List (List Dat)) (NS:List Nod) (hN:NS.length<100000) (k:Int) (hk:3<=k/\k<=7) (x y:Ex) (ihx:CEx D F NS x) (ihy:CEx D F NS y):CEx D F NS (.bin k x y):=by
 intro b l p ws ha hp hl hw;have hsz:(Ex.bin k x y).sz=x.sz+y.sz+1:=rfl;have hx1:=x.dS;have hy1:=y.dS;have ha1:At NS b (x.flat b++y.flat (b+x.sz)++[⟨k,0,[],[],[b+x.sz - 1,b+x.sz+y.sz - 1]⟩]):=ha;have hroot:=ha1.right.one;rw [aaw,Ex.au,Ex.au] at hroot;have hax:=ha1.left.left;have hay:=ha1.left.right;rw [Ex.au] at hay;have h1:=ig D F NS hN p ws (b+(x.sz+y.sz)) _ hroot (hp _ (by omega) (by rw [hsz];omega));have e1:b+(Ex.bin k x y).sz - 1=b+(x.sz+y.sz):=by rw [hsz];omega
 have e2:orR p b (Ex.bin k x y).sz=orR (orR (eE p (b+(x.sz+y.sz))) b x.sz) (b+x.sz) y.sz:=by rw [m4,hsz,iI]
 have hf1:Free (eE p (b+(x.sz+y.sz))) b x.sz:=fun i h1 h2=>by rw [eO (by omega)];exact hp i h1 (by rw [hsz];omega)
 have hf2:Free (orR (eE p (b+(x.sz+y.sz))) b x.sz) (b+x.sz) y.sz:=fun i h1 h2=>by rw [m5 (by omega),eO (by omega)];exact hp i (by omega) (by rw [hsz];omega)
 rw [e1,e2];have ht:=Np k hk;have ht0:=Qq k;have h2:=jz k;by_cases hb:bP k<l
 ·rw [wEx,if_pos hb] at hw ⊢
  have hw' : ws.length+(1+((wEx x (max (bP k) 1)).length+1+(wEx y (bP k+1)).length)+1)<1000000:=by
   simp only [aaw,aaA,aa3] at hw;omega
  rw [show ws++([[40]]++(wEx x (max (bP k) 1)++[lC k]++wEx y (bP k+1))++[[41]])=(ws++[[40]]++wEx x (max (bP k) 1)++[lC k]++wEx y (bP k+1))++[[41]] by simp];exact Zo D F NS k l (bP k) (lC k) _ (b+x.sz - 1) (b+x.sz+y.sz - 1) p _ _ _ ws _ _ _ _ hk ht0 hb (by simp only [aaw,aaA,aa3];omega) h1 h2
   (aH D F (nsL NS) _ ws [[40]] (by simp;omega))
   (ihx b (max (bP k) 1) _ (ws++[[40]]) hax hf1 (by omega) (by simp;omega))
   (aH D F (nsL NS) _ _ [lC k] (by simp;omega))
   (ihy (b+x.sz) (bP k+1) _ _ hay hf2 (by omega) (by simp;omega))
 ·rw [wEx,if_neg hb] at hw ⊢
  have hw' : ws.length+((wEx x (max (bP k) 1)).length+1+(wEx y (bP k+1)).length)<1000000:=by
   simp only [aaw,aaA,aa3] at hw;omega
  rw [show ws++(wEx x (max (bP k) 1)++[lC k]++wEx y (bP k+1))=ws++wEx x (max (bP k) 1)++[lC k]++wEx y (bP k+1) by simp];exact Zn D F NS k l (bP k) (lC k) _ (b+x.sz - 1) (b+x.sz+y.sz - 1) p _ _ _ ws _ _ _ hk ht0 hb h1 h2
   (ihx b (max (bP k) 1) _ ws hax hf1 (by omega) (by omega))
   (aH D F (nsL NS) _ _ [lC k] (by simp;omega))
   (ihy (b+x.sz) (bP k+1) _ _ hay hf2 (by omega) (by simp;omega))
end Uw.Tryz
namespace Uw.Tryz
open Go Uw
def rd (l:List Tok) (k:Nat) (xs:List (List Dat)):List Blk:=[.var [.d (wk l),.d (I k),.ref 1 0 0 xs.length],.arr 5 xs]
theorem b9 (l:List Tok) (k:Nat) (xs:List (List Dat)) (hk:k<=l.length):aE P0 mq [.ptr 0 0] (rd l k xs) (.d (.str (hd (l.drop k)))) (rd l k xs):=by
 have e1:(l.map sE).length=l.length:=by simp
 by_cases h:k<l.length
 ·have e:hd (l.drop k)=l[k].text:=by rw [aaW h];rfl
  rw [e];refine ax lG rfl ?_
  repeat refine aw ?_
  exact aF 2 rfl rfl (by exact Uw.wW)
 ·have e:hd (l.drop k)=[]:=by rw [abh (by omega)];rfl
  rw [e];refine ax lG rfl ?_
  repeat refine aw ?_
  exact aF 2 rfl rfl (by exact Uw.wW)
abbrev di:Dat:=.iface Dw (.agg [])
theorem bU (l:List Tok) (k:Nat) (xs:List (List Dat)) (hk:k<=l.length) (hl:l.length<1000000) (s:Str) (hs:s≠[]):aE P0 mD [.ptr 0 0,.d (.str s)] (rd l k xs) (.d (.bool (decide (hd (l.drop k)=s)))) (rd l (if hd (l.drop k)=s then k+1 else k) xs):=by
 have pk:=b9 l k xs hk;by_cases h:hd (l.drop k)=s
 ·rw [if_pos h,decide_eq_true h]
  rw [h] at pk;have hkl:k<l.length:=by
   rcases aa2 k l.length with h1|h1
   ·exact h1
   ·rw [abh h1] at h;exact absurd h.symm hs
  clear h;refine ax lK rfl ?_
  repeat refine aw ?_
  refine ad 2 [0,1] pk ?_
  repeat refine aw ?_
  exact aF 2 rfl rfl (by exact Uw.wW)
 ·rw [if_neg h,decide_eq_false h]
  generalize hd (l.drop k)=p at *;refine ax lK rfl ?_
  repeat refine aw ?_
  refine ad 2 [0,1] pk ?_
  repeat refine aw ?_
  exact aF 2 rfl rfl (by exact Uw.wW)
theorem aQ (l:List Tok) (k:Nat) (xs:List (List Dat)) (hk:k<=l.length) (hl:l.length<1000000) (s:Str) (hs:s≠[]) (h:hd (l.drop k)=s):aE P0 jh [.ptr 0 0,.d (.str s)] (rd l k xs) (.tuple []) (rd l (k+1) xs):=by
 have hv:=bU l k xs hk hl s hs;rw [if_pos h,decide_eq_true h] at hv;refine ax lL rfl ?_
 repeat refine aw ?_
 refine ad 2 [0,1] hv ?_
 repeat refine aw ?_
 exact bG 2 rfl rfl (by exact Uw.wW)
theorem bj (l:List Tok) (k:Nat) (xs:List (List Dat)) (hk:k<=l.length) (hl:l.length<1000000) (s:Str) (hs:s≠[]) (h:hd (l.drop k)≠s):lz P0 jh [.ptr 0 0,.d (.str s)] (rd l k xs) di:=by
 have hv:=bU l k xs hk hl s hs;rw [if_neg h,decide_eq_false h] at hv;refine aO lL rfl ?_
 repeat refine aw ?_
 refine ad 2 [0,1] hv ?_
 repeat refine aw ?_
 exact aP rfl
theorem fR (l:List Tok) (k:Nat) (xs:List (List Dat)) (hk:k<=l.length) (hl:l.length<1000000) (K:Int) (h:k<l.length) (hK:l[k].kind=K):aE P0 eN [.ptr 0 0,.d (I K)] (rd l k xs) (.agg ((sE l[k]).map V.d)) (rd l (k+1) xs):=by
 have e1:(l.map sE).length=l.length:=by simp
 have he:(l.map sE)[((k:Int)+1 - 1).toNat]? = some (sE l[k]):=by
  rw [show ((k:Int)+1 - 1).toNat=k by omega];exact we _ _ _ h
 refine ax iD rfl ?_
 repeat refine aw ?_
 exact aF 2 rfl rfl (by exact Uw.wW)
theorem jk (l:List Tok) (k:Nat) (xs:List (List Dat)) (hk:k<=l.length) (hl:l.length<1000000) (K:Int) (h:∀(h:k<l.length),l[k].kind≠K):lz P0 eN [.ptr 0 0,.d (I K)] (rd l k xs) di:=by
 have e1:(l.map sE).length=l.length:=by simp
 by_cases h1:k<l.length
 ·have h2:=h h1
  clear h;refine aO iD rfl ?_
  repeat refine aw ?_
  exact aP rfl
 ·clear h
  refine aO iD rfl ?_
  repeat refine aw ?_
  exact aP rfl
theorem uD (l:List Tok) (k:Nat) (xs:List (List Dat)) (hk:k<=l.length) (hl:l.length<1000000) (h:k<l.length) (hK:l[k].kind=1) (hw:oI l[k].text=false):aE P0 cy [.ptr 0 0] (rd l k xs) (.d (.str l[k].text)) (rd l (k+1) xs):=by
 have wd:=fR l k xs hk hl 1 h hK;simp only [oI,abj,decide_eq_false_iff_not,kC,JE,vm,Ax,fW,bT,dZ,jM,sIf,ja,fX,dW,dM] at hw;obtain ⟨⟨⟨⟨⟨⟨⟨⟨⟨⟨⟨⟨w1,w2⟩,w3⟩,w4⟩,w5⟩,w6⟩,w7⟩,w8⟩,w9⟩,w10⟩,w11⟩,w12⟩,w13⟩:=hw;refine ax iE rfl ?_
 repeat' first|refine aw ?_|refine bw (fun _=>?_) fun _=>?_
 refine ad 2 [0,1] wd ?_
 repeat' first|refine aw ?_|refine bw (fun _=>?_) fun _=>?_
 exact aF 2 rfl rfl (by exact Uw.wW)
theorem jl (l:List Tok) (k:Nat) (xs:List (List Dat)) (hk:k<=l.length) (hl:l.length<1000000) (h:∀(h:k<l.length),l[k].kind≠1\/oI l[k].text=true):lz P0 cy [.ptr 0 0] (rd l k xs) di:=by
 by_cases h1:∃h1:k<l.length,l[k].kind=1
 ·obtain ⟨h1,h2⟩:=h1
  have h3:=(h h1).resolve_left (fun e=>e h2);clear h;have wd:=fR l k xs hk hl 1 h1 h2;generalize l[k]=t at *;simp only [oI,abg,decide_eq_true_eq,or_assoc] at h3
  rcases h3 with h3|h3|h3|h3|h3|h3|h3|h3|h3|h3|h3|h3|h3
  all_goals
   rw [sE,h3] at wd;refine aO iE rfl ?_
   repeat refine aw ?_
   refine ad 2 [0,1] wd ?_
   repeat refine aw ?_
   exact aP rfl
 ·have wd:=jk l k xs hk hl 1 (fun h h2=>h1 ⟨h,h2⟩)
  refine aO iE rfl ?_
  repeat refine aw ?_
  refine bq 2 [0,1] wd ?_;intro h n
  repeat refine aw ?_
  exact aP rfl
def ofD (kind:Int) (of:List Nat):Dat:=
 if kind=1\/kind=2\/kind=12 then .nil
 else if kind=8\/kind=10\/kind=11 then (if of=[] then .nil else .slice 1 (of.map fun (i:Nat)=>[I i]) false)
 else if kind=13\/kind=18 then .slice 1 (of.map fun (i:Nat)=>[I i]) false
 else .slice 1 (of.map fun (i:Nat)=>[I i]) true
def cj (x:Nod):List Dat:=[I x.kind,I x.n,.str x.name,.str x.name2,ofD x.kind x.of]
theorem vF (l:List Tok) (k:Nat) (xs:List (List Dat)) (hx:xs.length<1000000) (a b:Int) (c d:Str) (o:Dat) (ho:o = .nil\/∃ys z,o = .slice 1 ys z):aE P0 bM [.ptr 0 0,.agg [.d (I a),.d (I b),.d (.str c),.d (.str d),.d o]] (rd l k xs) (.d (I xs.length)) (rd l k (xs++[[I a,I b,.str c,.str d,o]])):=by
 have e0:((xs.length+1:Nat):Int) - 1=(xs.length:Nat):=by omega
 rcases ho with rfl|⟨ys,z,rfl⟩
 ·refine ax ji rfl ?_
  repeat refine aw ?_
  refine cm ⟨[(0,.ptr 0 0)],[(0,.var [.d (wk l),.d (I k),.ref 1 0 0 (xs.length+1)]),(1,.arr 5 (xs++[[I a,I b,.str c,.str d,.nil]]))],3,[],2⟩ ?_ ?_
  ·repeat refine aw ?_
   exact aS (.inl ⟨rfl,by exact Uw.wW⟩)
  ·repeat refine aw ?_
   exact aF 2 rfl rfl (by exact Uw.wW)
 ·refine ax ji rfl ?_
  repeat refine aw ?_
  refine cm ⟨[(0,.ptr 0 0)],[(0,.var [.d (wk l),.d (I k),.ref 1 0 0 (xs.length+1)]),(1,.arr 5 (xs++[[I a,I b,.str c,.str d,.slice 1 ys z]]))],3,[],2⟩ ?_ ?_
  ·repeat refine aw ?_
   exact aS (.inl ⟨rfl,by exact Uw.wW⟩)
  ·repeat refine aw ?_
   exact aF 2 rfl rfl (by exact Uw.wW)
end Uw.Tryz
namespace Uw.Tryz
open Go Uw
def rdN (l:List Tok) (k:Nat) (ns:List Nod):List Blk:=rd l k (ns.map cj)
inductive Out where
 | ok (v:V) (bs:List Blk)
 | bad
 | out
def dj (f:FuncId) (vs:List V) (bs:List Blk) (x:Out):Prop:=
 match x with
 | .ok v bs'=>aE P0 f vs bs v bs'
 | .bad=>lz P0 f vs bs di
 | .out=>True
def OQ (b:Nat) (res:List gY) (x:Out):aG->St->Prop:=
 match x with
 | .ok v bs'=>EQ b res v bs'
 | .bad=>PQ res di
 | .out=>fun _ _=>True
theorem tU {f:FuncId} {m:bE} {vs:List V} {bs:List Blk} {x:Out} (hf:aM P0 f m) (hn:Nat.ble vs.length m.n=true) (hx:x≠.out) (hw:WT P0 (OQ bs.length m.res x) (exec m.code ⟨dP 0 vs,bz 0 bs,bs.length,[],bs.length⟩ Tree.done)):dj f vs bs x:=by
 cases x with
 | ok v bs'=>exact ax hf hn hw
 | bad=>exact aO hf hn hw
 | out=>exact absurd rfl hx
theorem xe (b:Nat) {res:List gY} {x:Out} {v:V} {bs' : List Blk} {vs' : List V} {st:St} (hx:x = .ok v bs') (hd:st.defers=[]) (hr:resV st res=some vs') (hw:Weak ⟨[(0,i7 vs')],st.heap,st.next,[],b⟩ ⟨[(0,v)],bz 0 bs',bs'.length,[],b⟩):WT P0 (OQ b res x) (.done .ret st):=by
 subst hx;exact aF b hd hr hw
theorem m6 (b:Nat) {res:List gY} {x:Out} {st:St} (hx:x = .bad) (hd:st.defers=[]):WT P0 (OQ b res x) (.done (.panic di) st):=by
 subst hx;exact aP hd
def IA (l:List Tok) (ns:List Nod) (x:R Ex):Out:=
 match x with
 | .ok e r=>.ok (.d (I ((ns.length+e.sz - 1:Nat)))) (rdN l (l.length - r.length) (ns++e.flat ns.length))
 | .bad=>.bad
 | .out=>.out
abbrev OkE (f:FuncId) (l:List Tok) (k:Nat) (ns:List Nod) (x:R Ex):Prop:=dj f [.ptr 0 0] (rdN l k ns) (IA l ns x)
theorem Lt {l:List Tok} {ns:List Nod} {x:R Ex} (h:x≠.out):IA l ns x≠.out:=by cases x<;>first|exact absurd rfl h|(intro h;cases h)
theorem Qr (k:Int) (of:List Nat):ofD k of = .nil\/∃ys z,ofD k of = .slice 1 ys z:=by
 unfold ofD
 repeat' split
 all_goals first|exact .inl rfl|exact .inr ⟨_,_,rfl⟩
theorem rn (l:List Tok) (k:Nat) (ns ms:List Nod) (nd:Nod) (hms:ms=ns++[nd]) (p:Nat) (hp:p=ns.length) (hx:ns.length<1000000) :
  aE P0 bM [.ptr 0 0,.agg [.d (I nd.kind),.d (I nd.n),.d (.str nd.name),.d (.str nd.name2),.d (ofD nd.kind nd.of)]] (rdN l k ns) (.d (I p)) (rdN l k ms):=by
 subst hms hp;have:=vF l k (ns.map cj) (by simpa using hx) nd.kind nd.n nd.name nd.name2 (ofD nd.kind nd.of) (Qr _ _);have e:(ns++[nd]).map cj=ns.map cj++[[I nd.kind,I nd.n,.str nd.name,.str nd.name2,ofD nd.kind nd.of]]:=by simp [cj]
 rw [rdN,rdN,e];simpa using this
theorem eP {l:List Tok} {k:Nat} {s:Str} (h:hd (l.drop k)=s) (hs:s≠[]):k<l.length:=by
 rcases aa2 k l.length with h1|h1
 ·exact h1
 ·rw [abh h1] at h;exact absurd h.symm hs
theorem len_drop {l:List Tok} {k:Nat} (h:k<=l.length):l.length - (l.drop k).length=k:=by simp;omega
theorem s9 {l r:List Tok} {k s:Nat} (h:Suf (l.drop k) r s) (hk:k<=l.length):∃k',k'<=l.length/\r=l.drop k'/\k+s<=k':=by
 obtain ⟨j,h1,rfl,h3⟩:=h;simp at h1;exact ⟨k+j,by omega,by rw [ach],by omega⟩
def Exs.Bv (es:Exs) (b:Nat):Dat:=ofD 8 (es.places b)
def outA (l:List Tok) (ns:List Nod) (x:R Exs):Out:=
 match x with
 | .ok es r=>.ok (.d (es.Bv ns.length)) (rdN l (l.length - r.length) (ns++es.flat ns.length))
 | .bad=>.bad
 | .out=>.out
def Qu (l:List Tok) (ns:List Nod) (s:Str) (x:R (Str×Exs)):Out:=
 match x with
 | .ok y r=>.ok (.d (I ((ns.length+(Ex.call s y.1 y.2).sz - 1:Nat)))) (rdN l (l.length - r.length) (ns++(Ex.call s y.1 y.2).flat ns.length))
 | .bad=>.bad
 | .out=>.out
structure CE (l:List Tok) (n:Nat):Prop where
 args:∀k ns,k<=l.length->ns.length<=k->dj fN [.ptr 0 0] (rdN l k ns) (outA l ns (fY n (l.drop k)))
 call:∀s k ns,k<=l.length->ns.length<=k->dj dh [.ptr 0 0,.d (.str s)] (rdN l k ns) (Qu l ns s (gm n s (l.drop k)))
 pK:∀k ns,k<=l.length->ns.length<=k->OkE gK l k ns (gl n (l.drop k))
 prod:∀k ns,k<=l.length->ns.length<=k->OkE gJ l k ns (fA n (l.drop k))
 sum:∀k ns,k<=l.length->ns.length<=k->OkE jF l k ns (j6 n (l.drop k))
 expr:∀k ns,k<=l.length->ns.length<=k->OkE cf l k ns (da n (l.drop k))
theorem yp {f:FuncId} {l:List Tok} {k:Nat} {ns:List Nod} {x:R Ex} (h:OkE f l k ns x) (hk:k<=l.length) (hs:∀e r,x = .ok e r->Suf (l.drop k) r e.sz) :
  x = .out\/(x = .bad/\lz P0 f [.ptr 0 0] (rdN l k ns) di)\/∃e k',x = .ok e (l.drop k')/\k'<=l.length/\k+e.sz<=k'/\aE P0 f [.ptr 0 0] (rdN l k ns) (.d (I ((ns.length+e.sz - 1:Nat)))) (rdN l k' (ns++e.flat ns.length)):=by
 cases x with
 | out=>exact .inl rfl
 | bad=>exact .inr (.inl ⟨rfl,h⟩)
 | ok e r=>
  obtain ⟨k',h1,rfl,h2⟩:=s9 (hs e r rfl) hk;refine .inr (.inr ⟨e,k',rfl,h1,h2,?_⟩);have h:aE P0 f [.ptr 0 0] (rdN l k ns) (.d (I ((ns.length+e.sz - 1:Nat)))) (rdN l (l.length - (l.drop k').length) (ns++e.flat ns.length)):=h;rw [len_drop h1] at h;exact h
theorem Qv (ns:List Nod) (k:Int) (x y:Ex):ns++(Ex.bin k x y).flat ns.length=ns++x.flat ns.length++y.flat (ns++x.flat ns.length).length++[⟨k,0,[],[],[ns.length+x.sz - 1,(ns++x.flat ns.length).length+y.sz - 1]⟩]:=by
 simp [Ex.flat,Ex.au]
theorem xg (l:List Tok) (k:Nat) (ns:List Nod) (K:Int) (x y:Ex) (hx:(ns++x.flat ns.length++y.flat (ns++x.flat ns.length).length).length<1000000) (hK:3<=K/\K<=7) :
  aE P0 bM [.ptr 0 0,.agg [.d (I K),.d (I 0),.d (.str []),.d (.str []),.d (.slice 1 [[I ((ns.length+x.sz - 1:Nat))],[I (((ns++x.flat ns.length).length+y.sz - 1:Nat))]] true)]] (rdN l k (ns++x.flat ns.length++y.flat (ns++x.flat ns.length).length)) (.d (I ((ns.length+(Ex.bin K x y).sz - 1:Nat)))) (rdN l k (ns++(Ex.bin K x y).flat ns.length)):=by
 have:=rn l k _ _ _ (Qv ns K x y) (ns.length+(Ex.bin K x y).sz - 1) (by simp [Ex.sz,Ex.au];try omega) hx;have e:ofD K [ns.length+x.sz - 1,(ns++x.flat ns.length).length+y.sz - 1] = .slice 1 [[I ((ns.length+x.sz - 1:Nat))],[I (((ns++x.flat ns.length).length+y.sz - 1:Nat))]] true:=by
  unfold ofD;rw [if_neg (by omega),if_neg (by omega),if_neg (by omega)];rfl
 simp only [e] at this;exact this
theorem WZ (l:List Tok) (hl:l.length<1000000) (n:Nat) (ih:∀m,m<=n->CE l m) (k:Nat) (ns:List Nod) (hk:k<=l.length) (hn:ns.length<=k):OkE gJ l k ns (fA (n+1) (l.drop k)):=by
 rw [fA]
 rcases yp ((ih n (aax _)).pK k ns hk hn) hk (fun e r h=>(fj n).pK _ _ _ h) with h0|⟨h0,h1⟩|⟨e,k1,h0,hk1,om,h1⟩
 ·rw [h0];exact trivial
 ·rw [h0]
  refine aO jQ rfl ?_
  repeat refine aw ?_
  refine bq 2 [0,1] h1 ?_;intro h m
  repeat refine aw ?_
  exact aP rfl
 ·rw [h0]
  show OkE _ _ _ _ (dC n e (l.drop k1));by_cases hout:dC n e (l.drop k1) = .out
  ·rw [hout];exact trivial
  generalize hR:dC n e (l.drop k1)=R at hout;refine tU jQ rfl (Lt hout) ?_
  repeat refine aw ?_
  refine ad 2 [0,1] h1 ?_
  repeat refine aw ?_
  refine du (fun ((e,k1,m):Ex×Nat×Nat)=>⟨[(3,.d (I ↑(ns.length+e.sz - 1))),(0,.ptr 0 0)],bz 0 (rdN l k1 (ns++e.flat ns.length)),2,[],2⟩) (fun (e,k1,m)=>dC m e (l.drop k1)=R/\m<=n/\k1<=l.length/\k+e.sz<=k1) (fun (_,_,m)=>m) (e,k1,n) (by exact Uw.wW) ⟨hR,aax _,hk1,om⟩ ?_;clear hR h0 h1 hk1 om;rintro ⟨e,k1,m⟩ ⟨hR,hm,hk1,hk2⟩
  cases m with
  | zero=>rw [dC] at hR;exact absurd hR.symm hout
  | succ m=>
   rw [dC] at hR;have pk:=b9 l k1 ((ns++e.flat ns.length).map cj) hk1;have hfl:(ns++e.flat ns.length).length=ns.length+e.sz:=by simp [Ex.au]
   by_cases hs:hd (l.drop k1)=[42]
   ·have hlt:=eP hs (by simp)
    rw [if_pos hs,aaI] at hR;rw [hs] at pk
    rcases yp ((ih m (by omega)).pK (k1+1) (ns++e.flat ns.length) (by omega) (by omega)) (by omega) (fun e r h=>(fj m).pK _ _ _ h) with h0|⟨h0,h1⟩|⟨y,k2,h0,hk3,IB,h1⟩
    ·rw [h0] at hR;exact absurd hR.symm hout
    ·rw [h0] at hR
     have hb:IA l ns R = .bad:=by rw [<- hR];rfl
     clear ih hR hout hs
     repeat refine aw ?_
     refine ad 2 [0,1] pk ?_
     repeat refine aw ?_
     refine dK cr rfl ?_
     repeat refine aw ?_
     refine bq 2 [0,1] h1 ?_;intro h q
     repeat refine aw ?_
     refine oR rfl ?_
     repeat refine aw ?_
     exact nI (m6 2 hb rfl)
    ·rw [h0] at hR
     have hR:dC m (.bin 5 e y) (l.drop k2)=R:=hR;have hp:=xg l k2 ns 5 e y (by simp [Ex.au];omega) (by omega);clear ih hout hs
     repeat refine aw ?_
     refine ad 2 [0,1] pk ?_
     repeat refine aw ?_
     refine dK cr rfl ?_
     repeat refine aw ?_
     refine ad 2 [0,1] h1 ?_
     repeat refine aw ?_
     refine ad 2 [0,1] hp ?_
     repeat refine aw ?_
     refine ef rfl rfl ?_
     repeat refine aw ?_
     exact cn (.bin 5 e y,k2,m) ⟨hR,by omega,hk3,by rw [Ex.sz];omega⟩ (by simp only;omega) (by exact Uw.wW)
   ·rw [if_neg hs] at hR
    have hb:IA l ns R = .ok (.d (I ((ns.length+e.sz - 1:Nat)))) (rdN l k1 (ns++e.flat ns.length)):=by rw [<- hR];show Out.ok _ (rdN l (l.length - (l.drop k1).length) _)=_;rw [len_drop hk1]
    generalize hd (l.drop k1)=p at *;clear ih hR hout
    repeat refine aw ?_
    refine ad 2 [0,1] pk ?_
    repeat refine aw ?_
    exact xe 2 hb rfl rfl (by exact Uw.wW)
end Uw.Tryz
namespace Uw.Tryz
open Go Uw
theorem Yy (l:List Tok) (hl:l.length<1000000) (n:Nat) (ih:∀m,m<=n->CE l m) (k:Nat) (ns:List Nod) (hk:k<=l.length) (hn:ns.length<=k):OkE jF l k ns (j6 (n+1) (l.drop k)):=by
 rw [j6]
 rcases yp ((ih n (aax _)).prod k ns hk hn) hk (fun e r h=>(fj n).prod _ _ _ h) with h0|⟨h0,h1⟩|⟨e,k1,h0,hk1,om,h1⟩
 ·rw [h0];exact trivial
 ·rw [h0]
  refine aO mG rfl ?_
  repeat refine aw ?_
  refine bq 2 [0,1] h1 ?_;intro h m
  repeat refine aw ?_
  exact aP rfl
 ·rw [h0]
  show OkE _ _ _ _ (eI n e (l.drop k1));by_cases hout:eI n e (l.drop k1) = .out
  ·rw [hout];exact trivial
  generalize hR:eI n e (l.drop k1)=R at hout;refine tU mG rfl (Lt hout) ?_
  repeat refine aw ?_
  refine ad 2 [0,1] h1 ?_
  repeat refine aw ?_
  refine du (fun ((e,k1,m):Ex×Nat×Nat)=>⟨[(3,.d (I ↑(ns.length+e.sz - 1))),(0,.ptr 0 0)],bz 0 (rdN l k1 (ns++e.flat ns.length)),2,[],2⟩) (fun (e,k1,m)=>eI m e (l.drop k1)=R/\m<=n/\k1<=l.length/\k+e.sz<=k1) (fun (_,_,m)=>m) (e,k1,n) (by exact Uw.wW) ⟨hR,aax _,hk1,om⟩ ?_;clear hR h0 h1 hk1 om;rintro ⟨e,k1,m⟩ ⟨hR,hm,hk1,hk2⟩
  cases m with
  | zero=>rw [eI] at hR;exact absurd hR.symm hout
  | succ m=>
   rw [eI] at hR;have pk:=b9 l k1 ((ns++e.flat ns.length).map cj) hk1;have hfl:(ns++e.flat ns.length).length=ns.length+e.sz:=by simp [Ex.au]
   by_cases hs:hd (l.drop k1)=[43]\/hd (l.drop k1)=[45]
   ·have hlt:k1<l.length:=by rcases hs with hs|hs<;>exact eP hs (by simp)
    rcases yp ((ih m (by omega)).prod (k1+1) (ns++e.flat ns.length) (by omega) (by omega)) (by omega) (fun e r h=>(fj m).prod _ _ _ h) with h0|⟨h0,h1⟩|⟨y,k2,h0,hk3,IB,h1⟩
    ·exfalso
     rcases hs with hs|hs
     ·rw [if_pos hs,aaI,h0] at hR;exact hout hR.symm
     ·rw [if_neg (by rw [hs];decide),if_pos hs,aaI,h0] at hR;exact hout hR.symm
    ·have hb:IA l ns R = .bad:=by
      rcases hs with hs|hs
      ·rw [if_pos hs,aaI,h0] at hR;rw [<- hR];rfl
      ·rw [if_neg (by rw [hs];decide),if_pos hs,aaI,h0] at hR;rw [<- hR];rfl
     clear ih hR hout
     rcases hs with hs|hs
     all_goals
      rw [hs] at pk;clear hs
      repeat refine aw ?_
      refine ad 2 [0,1] pk ?_
      repeat refine aw ?_
      refine dK cr rfl ?_
      repeat refine aw ?_
      refine bq 2 [0,1] h1 ?_;intro h q
      repeat refine aw ?_
      refine oR rfl ?_
      repeat refine aw ?_
      exact nI (m6 2 hb rfl)
    ·rcases hs with hs|hs
     ·have hR:eI m (.bin 3 e y) (l.drop k2)=R:=by rw [if_pos hs,aaI,h0] at hR;exact hR
      have hp:=xg l k2 ns 3 e y (by simp [Ex.au];omega) (by omega);rw [hs] at pk;clear ih hout hs
      repeat refine aw ?_
      refine ad 2 [0,1] pk ?_
      repeat refine aw ?_
      refine dK cr rfl ?_
      repeat refine aw ?_
      refine ad 2 [0,1] h1 ?_
      repeat refine aw ?_
      refine ad 2 [0,1] hp ?_
      repeat refine aw ?_
      refine ef rfl rfl ?_
      repeat refine aw ?_
      exact cn (.bin 3 e y,k2,m) ⟨hR,by omega,hk3,by rw [Ex.sz];omega⟩ (by simp only;omega) (by exact Uw.wW)
     ·have hR:eI m (.bin 4 e y) (l.drop k2)=R:=by rw [if_neg (by rw [hs];decide),if_pos hs,aaI,h0] at hR;exact hR
      have hp:=xg l k2 ns 4 e y (by simp [Ex.au];omega) (by omega);rw [hs] at pk;clear ih hout hs
      repeat refine aw ?_
      refine ad 2 [0,1] pk ?_
      repeat refine aw ?_
      refine dK cr rfl ?_
      repeat refine aw ?_
      refine ad 2 [0,1] h1 ?_
      repeat refine aw ?_
      refine ad 2 [0,1] hp ?_
      repeat refine aw ?_
      refine ef rfl rfl ?_
      repeat refine aw ?_
      exact cn (.bin 4 e y,k2,m) ⟨hR,by omega,hk3,by rw [Ex.sz];omega⟩ (by simp only;omega) (by exact Uw.wW)
   ·rw [if_neg (fun h=>hs (.inl h)),if_neg (fun h=>hs (.inr h))] at hR
    have hb:IA l ns R = .ok (.d (I ((ns.length+e.sz - 1:Nat)))) (rdN l k1 (ns++e.flat ns.length)):=by rw [<- hR];show Out.ok _ (rdN l (l.length - (l.drop k1).length) _)=_;rw [len_drop hk1]
    generalize hd (l.drop k1)=p at *;have hs1:¬p=[43]:=fun h=>hs (.inl h);have hs2:¬p=[45]:=fun h=>hs (.inr h);clear ih hR hout hs
    repeat refine aw ?_
    refine ad 2 [0,1] pk ?_
    repeat refine aw ?_
    exact bV (xe 2 hb rfl rfl (by exact Uw.wW))
theorem W0 (l:List Tok) (hl:l.length<1000000) (n:Nat) (ih:∀m,m<=n->CE l m) (k:Nat) (ns:List Nod) (hk:k<=l.length) (hn:ns.length<=k):OkE cf l k ns (da (n+1) (l.drop k)):=by
 rw [da]
 rcases yp ((ih n (aax _)).sum k ns hk hn) hk (fun e r h=>(fj n).sum _ _ _ h) with h0|⟨h0,h1⟩|⟨e,k1,h0,hk1,om,h1⟩
 ·rw [h0];exact trivial
 ·rw [h0]
  refine aO cA rfl ?_
  repeat refine aw ?_
  refine bq 2 [0,1] h1 ?_;intro h m
  repeat refine aw ?_
  exact aP rfl
 ·rw [h0]
  have pk:=b9 l k1 ((ns++e.flat ns.length).map cj) hk1;have hfl:(ns++e.flat ns.length).length=ns.length+e.sz:=by simp [Ex.au]
  show OkE _ _ _ _ (if hd (l.drop k1)=[60] then _ else _);by_cases hs:hd (l.drop k1)=[60]\/hd (l.drop k1)=[61,61]
  ·have hlt:k1<l.length:=by rcases hs with hs|hs<;>exact eP hs (by simp)
   rcases yp ((ih n (aax _)).sum (k1+1) (ns++e.flat ns.length) (by omega) (by omega)) (by omega) (fun e r h=>(fj n).sum _ _ _ h) with h2|⟨h2,h3⟩|⟨y,k2,h2,hk3,IB,h3⟩
   ·rcases hs with hs|hs
    ·rw [if_pos hs,aaI,h2];exact trivial
    ·rw [if_neg (by rw [hs];decide),if_pos hs,aaI,h2];exact trivial
   ·rcases hs with hs|hs
    ·rw [if_pos hs,aaI,h2]
     rw [hs] at pk;clear hs ih;refine aO cA rfl ?_
     repeat refine aw ?_
     refine ad 2 [0,1] h1 ?_
     repeat refine aw ?_
     refine ad 2 [0,1] pk ?_
     repeat refine aw ?_
     refine dK cr rfl ?_
     repeat refine aw ?_
     refine bq 2 [0,1] h3 ?_;intro h q
     repeat refine aw ?_
     refine oR rfl ?_
     repeat refine aw ?_
     exact aP rfl
    ·rw [if_neg (by rw [hs];decide),if_pos hs,aaI,h2]
     rw [hs] at pk;clear hs ih;refine aO cA rfl ?_
     repeat refine aw ?_
     refine ad 2 [0,1] h1 ?_
     repeat refine aw ?_
     refine ad 2 [0,1] pk ?_
     repeat refine aw ?_
     refine dK cr rfl ?_
     repeat refine aw ?_
     refine bq 2 [0,1] h3 ?_;intro h q
     repeat refine aw ?_
     refine oR rfl ?_
     repeat refine aw ?_
     exact aP rfl
   ·rcases hs with hs|hs
    ·rw [if_pos hs,aaI,h2]
     have hp:=xg l k2 ns 6 e y (by simp [Ex.au];omega) (by omega);rw [hs] at pk;show aE _ _ _ _ _ (rdN l (l.length - (l.drop k2).length) _);rw [len_drop hk3];clear hs ih;refine ax cA rfl ?_
     repeat refine aw ?_
     refine ad 2 [0,1] h1 ?_
     repeat refine aw ?_
     refine ad 2 [0,1] pk ?_
     repeat refine aw ?_
     refine dK cr rfl ?_
     repeat refine aw ?_
     refine ad 2 [0,1] h3 ?_
     repeat refine aw ?_
     refine ad 2 [0,1] hp ?_
     repeat refine aw ?_
     refine ef rfl rfl ?_
     repeat refine aw ?_
     exact aF 2 rfl rfl (by exact Uw.wW)
    ·rw [if_neg (by rw [hs];decide),if_pos hs,aaI,h2]
     have hp:=xg l k2 ns 7 e y (by simp [Ex.au];omega) (by omega);rw [hs] at pk;show aE _ _ _ _ _ (rdN l (l.length - (l.drop k2).length) _);rw [len_drop hk3];clear hs ih;refine ax cA rfl ?_
     repeat refine aw ?_
     refine ad 2 [0,1] h1 ?_
     repeat refine aw ?_
     refine ad 2 [0,1] pk ?_
     repeat refine aw ?_
     refine dK cr rfl ?_
     repeat refine aw ?_
     refine ad 2 [0,1] h3 ?_
     repeat refine aw ?_
     refine ad 2 [0,1] hp ?_
     repeat refine aw ?_
     refine ef rfl rfl ?_
     repeat refine aw ?_
     exact aF 2 rfl rfl (by exact Uw.wW)
  ·rw [if_neg (fun h=>hs (.inl h)),if_neg (fun h=>hs (.inr h))]
   show aE _ _ _ _ _ (rdN l (l.length - (l.drop k1).length) _);rw [len_drop hk1];generalize hd (l.drop k1)=p at *;have hs1:¬p=[60]:=fun h=>hs (.inl h);have hs2:¬p=[61,61]:=fun h=>hs (.inr h);clear ih hs;refine ax cA rfl ?_
   repeat refine aw ?_
   refine ad 2 [0,1] h1 ?_
   repeat refine aw ?_
   refine ad 2 [0,1] pk ?_
   repeat refine aw ?_
   exact aF 2 rfl rfl (by exact Uw.wW)
end Uw.Tryz
namespace Uw.Tryz
open Go Uw
def Exs.app:Exs->Exs->Exs
 | .nil,b=>b
 | .cons e r,b=>.cons e (r.app b)
theorem Exs.rp:∀(a b:Exs),(a.app b).sz=a.sz+b.sz
 | .nil,b=>by simp [Exs.app,Exs.sz]
 | .cons e r,b=>by rw [Exs.app,Exs.sz,Exs.sz,Exs.rp r b];omega
theorem Exs.oq:∀(a b:Exs) (n:Nat),(a.app b).flat n=a.flat n++b.flat (n+a.sz)
 | .nil,b,n=>by simp [Exs.app,Exs.flat,Exs.sz]
 | .cons e r,b,n=>by rw [Exs.app,Exs.flat,Exs.flat,Exs.oq r b,Exs.sz,aaD,abw]
theorem Exs.jH:∀(a b:Exs) (n:Nat),(a.app b).places n=a.places n++b.places (n+a.sz)
 | .nil,b,n=>by simp [Exs.app,Exs.places,Exs.sz]
 | .cons e r,b,n=>by rw [Exs.app,Exs.places,Exs.places,Exs.jH r b,Exs.sz,aaE,abw]
theorem Exs.rq:∀(a:Exs),a.app .nil=a
 | .nil=>rfl
 | .cons e r=>by rw [Exs.app,Exs.rq r]
theorem Exs.kY:∀(a b c:Exs),(a.app b).app c=a.app (b.app c)
 | .nil,b,c=>rfl
 | .cons e r,b,c=>by rw [Exs.app,Exs.app,Exs.app,Exs.kY r b c]
def fp (ys:List Nat):List (List Dat):=ys.map fun (i:Nat)=>[I i]
theorem DG (l:List Tok) (k k' : Nat) (ns ms:List Nod) (p:Nat) (h:aE P0 cf [.ptr 0 0] (rdN l k ns) (.d (I p)) (rdN l k' ms)) :
  aE P0 cB [.ptr 3 0,.ptr 2 0] (rdN l k ns++[.var [.ptr 0 0],.var [.d .nil]]) (.tuple []) (rdN l k' ms++[.var [.ptr 0 0],.var [.ref 4 0 0 (fp [p]).length],.arr 1 (fp [p])]):=by
 refine ax dB rfl ?_;refine cm ⟨[],bz 0 (rdN l k' ms++[.var [.ptr 0 0],.var [.ref 4 0 0 (fp [p]).length],.arr 1 (fp [p])]),5,[],4⟩ ?_ ?_
 ·repeat refine aw ?_
  refine ad 4 [0,1] h ?_
  repeat refine aw ?_
  exact aS (.inl ⟨rfl,by exact Uw.wW⟩)
 ·repeat refine aw ?_
  exact bG 4 rfl rfl (by exact Uw.wW)
theorem Gk (l:List Tok) (k k' : Nat) (ns ms:List Nod) (ys:List Nat) (p:Nat) (hy:ys.length<1000000) (h:aE P0 cf [.ptr 0 0] (rdN l k ns) (.d (I p)) (rdN l k' ms)) :
  aE P0 cB [.ptr 3 0,.ptr 2 0] (rdN l k ns++[.var [.ptr 0 0],.var [.ref 4 0 0 (fp ys).length],.arr 1 (fp ys)]) (.tuple []) (rdN l k' ms++[.var [.ptr 0 0],.var [.ref 4 0 0 (fp (ys++[p])).length],.arr 1 (fp (ys++[p]))]):=by
 have e:fp (ys++[p])=fp ys++[[I p]]:=by simp [fp]
 have hy' : (fp ys).length<1000000:=by simpa [fp] using hy
 rw [e];generalize fp ys=zs at *;refine ax dB rfl ?_;refine cm ⟨[],bz 0 (rdN l k' ms++[.var [.ptr 0 0],.var [.ref 4 0 0 (zs++[[I p]]).length],.arr 1 (zs++[[I p]])]),5,[],5⟩ ?_ ?_
 ·repeat refine aw ?_
  refine ad 5 [0,1] h ?_
  repeat refine aw ?_
  exact aS (.inl ⟨rfl,by exact Uw.wW⟩)
 ·repeat refine aw ?_
  exact bG 5 rfl rfl (by exact Uw.wW)
theorem DI (l:List Tok) (k:Nat) (ns:List Nod) (h:lz P0 cf [.ptr 0 0] (rdN l k ns) di) :
  lz P0 cB [.ptr 3 0,.ptr 2 0] (rdN l k ns++[.var [.ptr 0 0],.var [.d .nil]]) di:=by
 refine aO dB rfl ?_;refine qg ?_
 repeat refine aw ?_
 refine bq 4 [0,1] h ?_;intro H n
 repeat refine aw ?_
 exact aS ⟨di,rfl,aP rfl⟩
theorem Gl (l:List Tok) (k:Nat) (ns:List Nod) (ys:List Nat) (h:lz P0 cf [.ptr 0 0] (rdN l k ns) di) :
  lz P0 cB [.ptr 3 0,.ptr 2 0] (rdN l k ns++[.var [.ptr 0 0],.var [.ref 4 0 0 (fp ys).length],.arr 1 (fp ys)]) di:=by
 generalize fp ys=zs at *;refine aO dB rfl ?_;refine qg ?_
 repeat refine aw ?_
 refine bq 5 [0,1] h ?_;intro H n
 repeat refine aw ?_
 exact aS ⟨di,rfl,aP rfl⟩
theorem W2 {l:List Tok} {k:Nat} {ns:List Nod} {f:FuncId} {x:R Exs} (h:dj f [.ptr 0 0] (rdN l k ns) (outA l ns x)) (hk:k<=l.length) (hs:∀e r,x = .ok e r->Suf (l.drop k) r (e.sz+1)) :
  x = .out\/(x = .bad/\lz P0 f [.ptr 0 0] (rdN l k ns) di)\/∃e k',x = .ok e (l.drop k')/\k'<=l.length/\k+(e.sz+1)<=k'/\aE P0 f [.ptr 0 0] (rdN l k ns) (.d (e.Bv ns.length)) (rdN l k' (ns++e.flat ns.length)):=by
 cases x with
 | out=>exact .inl rfl
 | bad=>exact .inr (.inl ⟨rfl,h⟩)
 | ok e r=>
  obtain ⟨k',h1,rfl,h2⟩:=s9 (hs e r rfl) hk;refine .inr (.inr ⟨e,k',rfl,h1,h2,?_⟩);have h:aE P0 f [.ptr 0 0] (rdN l k ns) (.d (e.Bv ns.length)) (rdN l (l.length - (l.drop k').length) (ns++e.flat ns.length)):=h;rw [len_drop h1] at h;exact h
theorem TK {l:List Tok} {ns:List Nod} {x:R Exs} (h:x≠.out):outA l ns x≠.out:=by cases x<;>first|exact absurd rfl h|(intro h;cases h)
theorem W4 (l:List Tok) (hl:l.length<1000000) (n:Nat) (ih:∀m,m<=n->CE l m) (k:Nat) (ns:List Nod) (hk:k<=l.length) (hn:ns.length<=k):dj fN [.ptr 0 0] (rdN l k ns) (outA l ns (fY (n+1) (l.drop k))):=by
 rw [fY];by_cases h0:hd (l.drop k)=[40]
 ·have hlt:=eP h0 (by simp)
  have w0:=aQ l k (ns.map cj) hk hl [40] (by simp) h0;have hv:=bU l (k+1) (ns.map cj) hlt hl [41] (by simp);rw [want,if_pos h0,aaI];show dj _ _ _ (outA l ns (if hd (l.drop (k+1))=[41] then _ else _));by_cases h1:hd (l.drop (k+1))=[41]
  ·have hlt1:=eP h1 (by simp)
   rw [if_pos h1,aaI];rw [if_pos h1,decide_eq_true h1] at hv;show aE _ _ _ _ (.d .nil) (rdN l (l.length - (l.drop (k+1+1)).length) (ns++[]));rw [len_drop (by omega),aa6];clear ih h0 h1;refine ax dN rfl ?_
   repeat' first|refine aw ?_|refine bw (fun _=>?_) fun _=>?_
   refine dK cK rfl ?_
   repeat' first|refine aw ?_|refine bw (fun _=>?_) fun _=>?_
   refine ad 4 [0,1] w0 ?_
   repeat' first|refine aw ?_|refine bw (fun _=>?_) fun _=>?_
   refine ad 4 [0,1] hv ?_
   repeat' first|refine aw ?_|refine bw (fun _=>?_) fun _=>?_
   refine ef rfl rfl ?_
   repeat' first|refine aw ?_|refine bw (fun _=>?_) fun _=>?_
   exact aF 2 rfl rfl (by exact Uw.wW)
  ·rw [if_neg h1]
   rw [if_neg h1,decide_eq_false h1] at hv
   rcases yp ((ih n (aax _)).expr (k+1) ns hlt (by omega)) hlt (fun e r h=>(fj n).expr _ _ _ h) with h2|⟨h2,h3⟩|⟨e,k1,h2,hk1,om,h3⟩
   ·rw [h2];exact trivial
   ·rw [h2]
    have a1:=DI l (k+1) ns h3;clear ih h0 h1;refine aO dN rfl ?_
    repeat' first|refine aw ?_|refine bw (fun _=>?_) fun _=>?_
    refine dK cK rfl ?_
    repeat' first|refine aw ?_|refine bw (fun _=>?_) fun _=>?_
    refine ad 4 [0,1] w0 ?_
    repeat' first|refine aw ?_|refine bw (fun _=>?_) fun _=>?_
    refine ad 4 [0,1] hv ?_
    repeat' first|refine aw ?_|refine bw (fun _=>?_) fun _=>?_
    refine bq 4 [0,1,2,3] a1 ?_;intro H q
    repeat' first|refine aw ?_|refine bw (fun _=>?_) fun _=>?_
    refine oR rfl ?_
    repeat' first|refine aw ?_|refine bw (fun _=>?_) fun _=>?_
    exact aP rfl
   ·rw [h2]
    show dj _ _ _ (outA l ns ((dF n (l.drop k1)).bind fun es r=>.ok (.cons e es) r));have hf1:ns++e.flat ns.length=ns++(Exs.cons e .nil).flat ns.length:=by simp [Exs.flat]
    have a1:=DG l (k+1) k1 ns (ns++e.flat ns.length) _ h3;rw [hf1] at a1;have hz1:(Exs.cons e .nil).sz=e.sz:=rfl;generalize hR:(dF n (l.drop k1)).bind (fun es r=>R.ok (Exs.cons e es) r)=Rr;by_cases hout:Rr = .out
    ·rw [hout];exact trivial
    refine tU dN rfl (TK hout) ?_
    repeat' first|refine aw ?_|refine bw (fun _=>?_) fun _=>?_
    refine dK cK rfl ?_
    repeat' first|refine aw ?_|refine bw (fun _=>?_) fun _=>?_
    refine ad 4 [0,1] w0 ?_
    repeat' first|refine aw ?_|refine bw (fun _=>?_) fun _=>?_
    refine ad 4 [0,1] hv ?_
    repeat' first|refine aw ?_|refine bw (fun _=>?_) fun _=>?_
    refine ad 4 [0,1,2,3] a1 ?_
    repeat' first|refine aw ?_|refine bw (fun _=>?_) fun _=>?_
    refine du (fun ((d,k1,m):Exs×Nat×Nat)=>⟨[(0,.ptr 0 0),(1,V.func cB [] [V.ptr 3 0,V.ptr 2 0])],bz 0 (rdN l k1 (ns++d.flat ns.length)++[.var [.ptr 0 0],.var [.ref 4 0 0 (fp (d.places ns.length)).length],.arr 1 (fp (d.places ns.length))]),5,[],4⟩)
     (fun (d,k1,m)=>(dF m (l.drop k1)).bind (fun es r=>R.ok (d.app es) r)=Rr/\m<=n/\k1<=l.length/\k+d.sz+1<=k1/\d.places ns.length≠[]) (fun (_,_,m)=>m) (.cons e .nil,k1,n) (by exact Uw.wW) ⟨hR,aax _,hk1,by omega,by simp [Exs.places]⟩ ?_
    clear hR h0 h1 h2 h3 hk1 om a1 hf1 hz1 w0 hv;rintro ⟨d,k1,m⟩ ⟨hR,hm,hk1,hk2,hd0⟩
    cases m with
    | zero=>rw [dF] at hR;exact absurd hR.symm hout
    | succ m=>
     rw [dF] at hR;have hfl:(ns++d.flat ns.length).length=ns.length+d.sz:=by simp [Exs.au]
     have hv:=bU l k1 ((ns++d.flat ns.length).map cj) hk1 hl [44] (by simp);by_cases hs:hd (l.drop k1)=[44]
     ·have hlt:=eP hs (by simp)
      rw [if_pos hs,aaI] at hR;rw [if_pos hs,decide_eq_true hs] at hv
      rcases yp ((ih m (by omega)).expr (k1+1) (ns++d.flat ns.length) (by omega) (by omega)) (by omega) (fun e r h=>(fj m).expr _ _ _ h) with h0|⟨h0,h1⟩|⟨y,k2,h0,hk3,IB,h1⟩
      ·rw [h0] at hR;exact absurd hR.symm hout
      ·rw [h0] at hR
       have hb:outA l ns Rr = .bad:=by rw [<- hR];rfl
       have a1:=Gl l (k1+1) _ (d.places ns.length) h1;clear ih hR hout hs h0 h1 hd0
       repeat' first|refine aw ?_|refine bw (fun _=>?_) fun _=>?_
       refine ad 5 [0,1] hv ?_
       repeat' first|refine aw ?_|refine bw (fun _=>?_) fun _=>?_
       refine bq 5 [0,1,2,3,4] a1 ?_;intro h q
       repeat' first|refine aw ?_|refine bw (fun _=>?_) fun _=>?_
       refine nI (oR rfl ?_)
       repeat' first|refine aw ?_|refine bw (fun _=>?_) fun _=>?_
       exact m6 2 hb rfl
      ·rw [h0] at hR
       have hR:(dF m (l.drop k2)).bind (fun es r=>R.ok ((d.app (.cons y .nil)).app es) r)=Rr:=by
        rw [<- hR];show _=((dF m (l.drop k2)).bind fun es r=>R.ok (Exs.cons y es) r).bind fun es r=>R.ok (d.app es) r
        cases dF m (l.drop k2) with
        | ok es r=>show R.ok _ _=R.ok _ _;rw [Exs.kY];rfl
        | bad=>rfl
        | out=>rfl
       have a1:=Gk l (k1+1) k2 _ _ (d.places ns.length) _ (by
        have:∀(d:Exs) (b:Nat),(d.places b).length<=d.sz:=by
         intro d
         induction d using Exs.rec (motive_1:=fun _=>True) with
         | nil=>simp [Exs.places]
         | cons e r _ ih=>intro b;have:=ih (b+e.sz);have:=e.dS;simp [Exs.places,Exs.sz];omega
         | _=>trivial
        have:=this d ns.length;omega) h1
       have hpl:d.places ns.length++[(ns++d.flat ns.length).length+y.sz - 1]=(d.app (.cons y .nil)).places ns.length:=by rw [Exs.jH,hfl];rfl
       have hff:ns++d.flat ns.length++y.flat (ns++d.flat ns.length).length=ns++(d.app (.cons y .nil)).flat ns.length:=by rw [Exs.oq,hfl];simp [Exs.flat]
       have hsz:(d.app (.cons y .nil)).sz=d.sz+y.sz:=by rw [Exs.rp];rfl
       have hd1:(d.app (.cons y .nil)).places ns.length≠[]:=by rw [<- hpl];simp
       rw [hpl,hff] at a1;clear ih hout hs h0 h1 hd0 hpl hff
       repeat' first|refine aw ?_|refine bw (fun _=>?_) fun _=>?_
       refine ad 5 [0,1] hv ?_
       repeat' first|refine aw ?_|refine bw (fun _=>?_) fun _=>?_
       refine ad 5 [0,1,2,3,4] a1 ?_
       repeat' first|refine aw ?_|refine bw (fun _=>?_) fun _=>?_
       exact cn (d.app (.cons y .nil),k2,m) ⟨hR,by omega,hk3,by omega,hd1⟩ (by simp only;omega) (by exact Uw.wW)
     ·rw [if_neg hs] at hR
      rw [if_neg hs,decide_eq_false hs] at hv;by_cases hw:hd (l.drop k1)=[41]
      ·have hlt:=eP hw (by simp)
       have w1:=aQ l k1 ((ns++d.flat ns.length).map cj) hk1 hl [41] (by simp) hw;have hb:outA l ns Rr = .ok (.d (.slice 1 (fp (d.places ns.length)) false)) (rdN l (k1+1) (ns++d.flat ns.length)):=by
        rw [want,if_pos hw,aaI] at hR;have hR:R.ok (d.app .nil) (l.drop (k1+1))=Rr:=hR;rw [<- hR,Exs.rq];show Out.ok (.d (ofD 8 (d.places ns.length))) (rdN l (l.length - (l.drop (k1+1)).length) _)=_;rw [len_drop (by omega)];have:ofD 8 (d.places ns.length) = .slice 1 (fp (d.places ns.length)) false:=by
         unfold ofD;rw [if_neg (by omega),if_pos (by omega),if_neg hd0];rfl
        rw [this]
       have hfz:((fp (d.places ns.length)).drop 0).take (fp (d.places ns.length)).length=fp (d.places ns.length):=by simp
       clear ih hR hout hs hw hd0
       repeat' first|refine aw ?_|refine bw (fun _=>?_) fun _=>?_
       refine ad 5 [0,1] hv ?_
       repeat' first|refine aw ?_|refine bw (fun _=>?_) fun _=>?_
       refine aJ ?_;refine ad 5 [0,1] w1 ?_
       repeat' first|refine aw ?_|refine bw (fun _=>?_) fun _=>?_
       refine wb rfl rfl ?_
       repeat' first|refine aw ?_|refine bw (fun _=>?_) fun _=>?_
       exact xe 2 hb rfl rfl (by exact Uw.wW)
      ·have w1:=bj l k1 ((ns++d.flat ns.length).map cj) hk1 hl [41] (by simp) hw
       have hb:outA l ns Rr = .bad:=by
        rw [want,if_neg hw] at hR;rw [<- hR];rfl
       clear ih hR hout hs hw hd0
       repeat' first|refine aw ?_|refine bw (fun _=>?_) fun _=>?_
       refine ad 5 [0,1] hv ?_
       repeat' first|refine aw ?_|refine bw (fun _=>?_) fun _=>?_
       refine aJ ?_;refine bq 5 [0,1] w1 ?_;intro h q
       repeat' first|refine aw ?_|refine bw (fun _=>?_) fun _=>?_
       refine oR rfl ?_
       repeat' first|refine aw ?_|refine bw (fun _=>?_) fun _=>?_
       exact m6 2 hb rfl
 ·rw [want,if_neg h0]
  have w0:=bj l k (ns.map cj) hk hl [40] (by simp) h0;clear ih h0;refine aO dN rfl ?_
  repeat' first|refine aw ?_|refine bw (fun _=>?_) fun _=>?_
  refine dK cK rfl ?_
  repeat' first|refine aw ?_|refine bw (fun _=>?_) fun _=>?_
  refine bq 4 [0,1] w0 ?_;intro H q
  repeat' first|refine aw ?_|refine bw (fun _=>?_) fun _=>?_
  refine oR rfl ?_
  repeat' first|refine aw ?_|refine bw (fun _=>?_) fun _=>?_
  exact aP rfl
end Uw.Tryz
