/- RBk: Bk (merged by merge2.py from the working texts). -/
import Derived.Test.YtikpfliiodgonaaGreatDoorJ9
set_option linter.unusedSimpArgs false
set_option linter.unnecessarySimpa false
set_option linter.unusedVariables false
set_option linter.unusedSectionVars false
set_option maxRecDepth 8000
set_option maxHeartbeats 4000000
namespace Uw.Tryz.El
open Go Uw Uw.Tryz
structure aaI (w:Wd) (S:Sm) (s:Int):Prop where
 sim:oH w.splits s0m=some S
 many:S.many=w.ai
 forks:S.forks+1=w.values.length
 ends:S.ends=S.forks
 cur:S.σ s=2
 oth:∀x,0<=x->x<S.many->x≠s->S.σ x=3
 us:V1 w
theorem ZL {c:Cd} (hX:Runs c):∃S s,aaI (fS c).1 S s:=by
 have ht:(ua c).1.task=1:=by rw [(fE hX.start).1];rfl
 have hd:=NJ hX.co hX.start hX.err (Kx c) ⟨⟨s0m,rfl,rfl,rfl,rfl,fun h=>by omega⟩,fun u hu=>by simp [db] at hu⟩;obtain ⟨hu,S0,S,s,d⟩:=hd;have e0:S0=s0m:=by
  have:some s0m=some S0:=d.Eb;injection this with this;exact this.symm
 subst e0;have h1:=d.forks;have h2:=d.ends;have h3:=d.cur;rw [if_neg (by omega)] at h2 h3;have h2:S.ends=0+(((fS c).1.values.length:Int) - (0:Nat) - 1)+0:=h2;refine ⟨S,s,d.sim,d.many,d.forks,by omega,h3,?_,hu⟩;intro x x0 x1 x2;rw [d.many] at x1;by_cases e:x=0
 ·rcases d.Ec with q|⟨_,q⟩
  ·omega
  ·rw [e];exact q
 ·exact d.new x (by show (1:Int)<=x;omega) x1 x2
def bg (s:Int) (i:Nat):Int:=if 0<=s/\s<i then 1 else 0
abbrev cE (nm:Nat) (v:Int) (D5:List Int) (D1 D2 D3 U D4:List (List Dat)) (T:Int) (S:Int) (rF:List (List Dat)):List V:=[.d (I 0),.d (I v),.d (ae D5),.d (.slice 3 D1 false),.d (.slice 3 D2 false),.d (.slice 3 D3 false),.d (.slice 10 U false),.d (.slice 5 D4 false),.d (I S),.d (I T),.d (.slice 1 rF false)]
abbrev slS (c:Cd) (v:Int) (D5:List Int) (D1 D2 D3 U L:List (List Dat)) (T ST:Int) (rF:List (List Dat)) (n:Nat) (row:List (List Dat)) (j:Nat) (many forks ends:Int):St:=
 ⟨[(45,.d (I j)),(44,.d (I (L.length:Nat))),(43,.d (.slice 5 L false)),(8,.d (I ends)),(7,.d (I forks)),(6,.func 14 [] [.ptr 3 0]),(5,.ptr 3 0),(4,.d (I many)),(3,.ptr 1 0),(2,.d (.bool false)),(1,.ptr 0 0)],[(3,.var [.ref 2 0 0 n]),(2,.mt 1 0 row),(1,.var (cE 0 v D5 D1 D2 D3 U L T ST rF)),(0,.var (cdV c))],4,[],0⟩
theorem Ee (c:Cd) (hr:Rch c):Ret P0 kS [cdD c] (.bool true):=by
 have ha:=EC;have hfw:=JU c hr
 cases hl:MA c with
 | false=>
  rw [hl] at hfw;refine au dU rfl ?_
  repeat refine aw ?_
  exact aj rfl rfl rfl rfl rfl
 | true=>
 rw [hl] at hfw
 rcases JW c hl with ⟨e,he,hR⟩|⟨hX,hR⟩
 ·refine au dU rfl ?_
  repeat refine aw ?_
  exact aj rfl rfl rfl rfl rfl
 obtain ⟨F,s,hS⟩:=ZL hX;have dp:=hS.sim;have hm:=zp Tv dp;have hsu:=pL dp;have hT:=hS.forks;have hfe:=hS.ends;have hcur:=hS.cur;have hoth:=hS.oth;have hst:∀u∈(fS c).1.uses,0<=u.aG/\u.aG<F.many:=by rw [hS.many];exact hS.us
 have hs0:=hsu s (by rw [hcur];decide);have aa1:(fS c).1.uses.length<=128000:=by have:=hX.done.wi.uses;have:=hX.done.wi.vals;omega
 clear hS hX;unfold FY at hR;generalize jQ (fS c).1.fails=Fs at *;generalize (fS c).1.values.getD 0 0=v at *;generalize (fS c).1.values.length=T at *;generalize (fS c).1.steps=ST at *;generalize (fS c).1.uses=us at *;generalize (fS c).1.splits=sp at *;generalize (fS c).1.maps.map aW=D1 at *;generalize (fS c).1.stacks.map aW=D2 at *;generalize (fS c).1.chans.map aW=D3 at *;generalize (fS c).1.cells=D5 at *;generalize dq Fs=rF at *;have aaJ:(sp.map fj).length=sp.length:=by simp
 have hul:(us.map eS).length=us.length:=by simp
 by_cases aa2:400<sp.length
 ·have WA : (400:Int)<((sp.map fj).length:Nat):=by omega
  refine au dU rfl ?_
  repeat refine aw ?_
  exact aj rfl rfl rfl rfl rfl
 have WA : ¬(400:Int)<((sp.map fj).length:Nat):=by omega
 obtain ⟨n,hn⟩:∃n:Nat,n=4 * sp.length+4:=⟨_,rfl⟩
 have hN:(4 * ((sp.map fj).length:Int)+4).toNat=n:=by omega
 have r0:(List.replicate (4 * ((sp.map fj).length:Int)+4).toNat [Dat.int IntKind.i64 0])[0+Int.toNat 0]? = some [I 0]:=by
  rw [hN];show (List.replicate n [I 0])[0]? = _;rw [ac9,if_pos (by omega)]
 have r1:(List.replicate (4 * ((sp.map fj).length:Int)+4).toNat [Dat.int IntKind.i64 0]).set (0+Int.toNat 0) (setAt [I 0] 0 [I 2])=lH s0m.σ n:=by
  rw [hN];have:List.replicate n [Dat.int IntKind.i64 0]=lH (fun _=>0) n:=by
   simp only [lH];rw [List.map_const',List.length_range]
  rw [this];show (lH (fun _=>0) n).set 0 [I 2]=_;exact Ky (s:=0) (acO 0) (by omega)
 have hlen:=Ed s0m.σ n;have hsp:∀j (h:j<sp.length),(sp.map fj)[(j:Int).toNat]? = some [I sp[j].kind,I sp[j].a,I sp[j].b,I sp[j].c,I sp[j].d]:=fun j h=>by simp [h,fj]
 obtain ⟨L,hL⟩:∃L,L=sp.map fj:=⟨_,rfl⟩
 rw [<- hL] at hR aaJ WA hN r0 r1 hsp;have hU:∃U,U=us.map eS:=⟨_,rfl⟩
 obtain ⟨U,hU⟩:=hU;rw [<- hU] at hR hul;have hS0:slS c v D5 D1 D2 D3 U L T ST rF n (lH s0m.σ n) 0 s0m.many s0m.forks s0m.ends=slS c v D5 D1 D2 D3 U L T ST rF n ((List.replicate (4 * (L.length:Int)+4).toNat [Dat.int IntKind.i64 0]).set (0+Int.toNat 0) (setAt [I 0] 0 [I 2])) 0 1 0 0:=by rw [r1];rfl
 refine au dU rfl ?_
 repeat refine aw ?_
 refine dC (fun ((j,S):Nat×Sm)=>slS c v D5 D1 D2 D3 U L T ST rF n (lH S.σ n) j S.many S.forks S.ends) (fun x=>F6 sp F x.1 x.2) (fun x=>sp.length - x.1) (0,s0m) (JS hS0 (by exact Uw.wM)) (show F6 sp F 0 s0m from ⟨acD _,rfl,dp⟩) ?_;rintro ⟨j,S⟩ hi;have hi:F6 sp F j S:=hi;by_cases hj:j<sp.length
 ·obtain ⟨S',h1,h2⟩:=hi.next hj
  have hu:=pL hi.2.1;have hb:=zp Tv hi.2.1;have g0:=hsp j hj;have hj' : (j:Int)<(L.length:Nat):=by omega
  rw [acU,adG (by omega)] at hb;have hb:1<=S.many/\S.many<=1+3 * (j:Int)/\0<=S.forks/\S.forks<=0+(j:Int)/\0<=S.ends/\S.ends<=0+(j:Int):=hb;obtain ⟨q1,q2,q3,q4⟩:=F5 hu h1;have hmu:sp.length - (j+1)<sp.length - j:=by omega
  clear h1 hi hsp r0 r1 hS0;generalize sp[j]=x at *;obtain ⟨xk,xa,xb,xc,xd⟩:=x;simp only at q1 q2 q3 q4 g0;have c1:=wd n S.σ xa 2 3 (by omega) q2 (by omega) q1
  rcases q4 with ⟨rfl,rfl,rfl,rfl,e⟩|⟨rfl,rfl,rfl,k1,k2,k3,k4,e⟩|⟨rfl,k2,k3,k4,e⟩|⟨rfl,k2,k3,k4,e⟩
  ·have hma:xa≠S.many:=by omega
   have z1:upd S.σ xa 3 S.many=0:=by
    rw [upd_ne (by omega)]
    cases Classical.em (S.σ S.many=0) with
    | inl h=>exact h
    | inr h=>have:=hu _ h;omega
   have z2:upd (upd S.σ xa 3) S.many 2 (S.many+1)=0:=by
    rw [upd_ne (by omega),upd_ne (by omega)]
    cases Classical.em (S.σ (S.many+1)=0) with
    | inl h=>exact h
    | inr h=>have:=hu _ h;omega
   have z3:upd (upd (upd S.σ xa 3) S.many 2) (S.many+1) 2 (S.many+2)=0:=by
    rw [upd_ne (by omega),upd_ne (by omega),upd_ne (by omega)]
    cases Classical.em (S.σ (S.many+2)=0) with
    | inl h=>exact h
    | inr h=>have:=hu _ h;omega
   have c2:=wd n (upd S.σ xa 3) S.many 0 2 (by omega) (by omega) (by omega) z1;have c3:=wd n (upd (upd S.σ xa 3) S.many 2) (S.many+1) 0 2 (by omega) (by omega) (by omega) z2;have c4:=wd n (upd (upd (upd S.σ xa 3) S.many 2) (S.many+1) 2) (S.many+2) 0 1 (by omega) (by omega) (by omega) z3;have g5:(lH (upd (upd (upd (upd S.σ xa 3) S.many 2) (S.many+1) 2) (S.many+2) 1) n)[0+(S.many+2).toNat]? = some [I (upd (upd (upd (upd S.σ xa 3) S.many 2) (S.many+1) 2) (S.many+2) 1 (S.many+2))]:=by rw [abJ];exact yA (by omega) (by omega)
   rw [upd_same] at g5;have hm3:S.many+2+1=S.many+3:=by omega
   have aa3:=hm3.symm;subst e
   repeat refine aw ?_
   refine cS 5 [3,2] c1 ?_
   repeat refine aw ?_
   refine cS 5 [3,2] c2 ?_
   repeat refine aw ?_
   refine cS 5 [3,2] c3 ?_
   repeat refine aw ?_
   refine cS 5 [3,2] c4 ?_
   repeat refine aw ?_
   exact aR ((j+1,(⟨upd (upd (upd (upd S.σ xa 3) S.many 2) (S.many+1) 2) (S.many+2) 1,S.many+3,S.forks+1,S.ends⟩:Sm)):Nat×Sm) h2 hmu (by exact Uw.wM)
  ·have z1:upd S.σ xa 3 S.many=0:=by
    rw [upd_ne (by omega)]
    cases Classical.em (S.σ S.many=0) with
    | inl h=>exact h
    | inr h=>have:=hu _ h;omega
   have z2:upd (upd S.σ xa 3) S.many 2 (S.many+1)=0:=by
    rw [upd_ne (by omega),upd_ne (by omega)]
    cases Classical.em (S.σ (S.many+1)=0) with
    | inl h=>exact h
    | inr h=>have:=hu _ h;omega
   have c2:=wd n (upd S.σ xa 3) S.many 0 2 (by omega) (by omega) (by omega) z1;have c3:=wd n (upd (upd S.σ xa 3) S.many 2) (S.many+1) 0 2 (by omega) (by omega) (by omega) z2;have g5:(lH (upd (upd (upd S.σ xa 3) S.many 2) (S.many+1) 2) n)[0+xd.toNat]? = some [I (upd (upd (upd S.σ xa 3) S.many 2) (S.many+1) 2 xd)]:=by rw [abJ];exact yA k2 (by omega)
   rw [k4] at g5;have hk2:xd<(n:Nat):=by omega
   subst e
   repeat refine aw ?_
   refine cS 5 [3,2] c1 ?_
   repeat refine aw ?_
   refine cS 5 [3,2] c2 ?_
   repeat refine aw ?_
   refine cS 5 [3,2] c3 ?_
   repeat refine aw ?_
   exact aR ((j+1,(⟨upd (upd (upd S.σ xa 3) S.many 2) (S.many+1) 2,S.many+2,S.forks+1,S.ends⟩:Sm)):Nat×Sm) h2 hmu (by exact Uw.wM)
  ·subst e
   have g5:(lH (upd S.σ xa 3) n)[0+xd.toNat]? = some [I (upd S.σ xa 3 xd)]:=by rw [abJ];exact yA k2 (by omega)
   rw [k4] at g5;have hk2:xd<(n:Nat):=by omega
   repeat refine aw ?_
   refine cS 5 [3,2] c1 ?_
   repeat refine aw ?_
   exact aR ((j+1,(⟨upd S.σ xa 3,S.many,S.forks,S.ends+1⟩:Sm)):Nat×Sm) h2 hmu (by exact Uw.wM)
  ·subst e
   have c2:=wd n (upd S.σ xa 3) xd 1 2 (by omega) k2 (by omega) k4
   repeat refine aw ?_
   refine cS 5 [3,2] c1 ?_
   repeat refine aw ?_
   refine cS 5 [3,2] c2 ?_
   repeat refine aw ?_
   exact aR ((j+1,(⟨upd (upd S.σ xa 3) xd 2,S.many,S.forks,S.ends⟩:Sm)):Nat×Sm) h2 hmu (by exact Uw.wM)
 ·have hje:j=sp.length:=by have:=hi.1;omega
  subst hje;have e:S=F:=by
   have h1:=hi.2.1;rw [acg,dp] at h1;injection h1 with h1;exact h1.symm
  subst e;have hj' : ¬((sp.length:Nat):Int)<(L.length:Nat):=by omega
  have hfk:0<=S.forks/\S.forks<=0+(sp.length:Int):=⟨hm.2.2.1,hm.2.2.2.1⟩
  have hm:S.many<=1+3 * (sp.length:Int):=hm.2.1;have hrl:=Ed S.σ n;have hrow:∀i (h:i<n),(lH S.σ n)[(i:Int).toNat]? = some [I (S.σ (i:Nat))]/\(S.σ (i:Nat)=2\/S.σ (i:Nat)=3\/S.σ (i:Nat)=0)/\bg s (i+1)=bg s i+(if S.σ (i:Nat)=2 then 1 else 0):=by
   intro i h;refine ⟨by have:=yA (σ:=S.σ) (n:=n) (s:=(i:Int)) (by omega) (by omega);exact this,?_,?_⟩
   ·by_cases e:(i:Int)=s
    ·rw [e];exact .inl hcur
    ·by_cases e2:(i:Int)<S.many
     ·exact .inr (.inl (hoth _ (by omega) e2 e))
     ·refine .inr (.inr ?_)
      cases Classical.em (S.σ (i:Nat)=0) with
      | inl h=>exact h
      | inr h=>have:=hsu _ h;omega
   ·unfold bg
    by_cases e:(i:Int)=s
    ·have a1:0<=s/\s<((i+1:Nat):Int):=by omega
     have a2:¬(0<=s/\s<(i:Int)):=by omega
     have a3:S.σ (i:Nat)=2:=by rw [e];exact hcur
     rw [if_pos a1,if_neg a2,if_pos a3];rfl
    ·have:S.σ (i:Nat)≠2:=by
      intro h2;by_cases e2:(i:Int)<S.many
      ·rw [hoth _ (by omega) e2 e] at h2;cases h2
      ·have:=hsu (i:Nat) (by rw [h2];decide);omega
     rw [if_neg this];by_cases e3:0<=s/\s<i
     ·rw [if_pos e3,if_pos (by omega)];rfl
     ·rw [if_neg e3,if_neg (by omega)];rfl
  have hbn:bg s n=1:=if_pos (by omega);have hb0:bg s 0=0:=if_neg (by omega);have aa4:=hb0.symm;have hur:∀j (h:j<us.length),∃st tk th ob k1 k2 k3 k4 vl is,U[(j:Int).toNat]? = some [I st,ae tk,I th,I ob,I k1,I k2,I k3,I k4,I vl,.bool is]/\0<=st/\st<S.many:=by
   intro j h;have hm:=hst _ (abD h);exact ⟨us[j].aG,us[j].task,us[j].thing,us[j].obj,us[j].op.kind,us[j].op.obj,us[j].op.a,us[j].op.b,us[j].val,us[j].is,by rw [hU];simp [h,eS],hm⟩
  have hbg:∀i:Nat,0<=bg s i/\bg s i<=1:=by intro i;unfold bg;split<;>omega
  have aa5 : S.forks=S.ends:=hfe.symm;have hTT:(T:Int)=S.forks+1:=by omega
  clear hsp r0 r1 hS0 hi dp hoth hcur hsu hst;rw [show Dat.bool true=Dat.bool (decide (bg s n=1)) by rw [decide_eq_true hbn]]
  repeat refine aw ?_
  refine bp ?_
  repeat refine aw ?_
  refine dC (fun i:Nat=>⟨[(158,.d (I i)),(157,.d (I (n:Nat))),(156,.ref 2 0 0 n),(12,.d (I (bg s i))),(8,.d (I S.ends)),(7,.d (I S.forks)),(4,.d (I S.many)),(3,.ptr 1 0),(2,.d (.bool false))],[(2,.mt 1 0 (lH S.σ n)),(1,.var (cE 0 v D5 D1 D2 D3 U L T ST rF)),(0,.var (cdV c))],4,[],0⟩) (fun i=>i<=n) (fun i=>n - i) 0 (by exact Uw.wM) (acD _) ?_;intro i hi;by_cases hin:i<n
  ·obtain ⟨r1,r2,r3⟩:=hrow i hin
   have r4:=hbg i;have hin' : (i:Int)<(n:Nat):=by omega
   have r1:(lH S.σ n)[0+(i:Int).toNat]? = some [I (S.σ (i:Nat))]:=by rw [abJ];exact r1
   clear hrow hur;generalize S.σ (i:Nat)=q at *
   rcases r2 with rfl|rfl|rfl
   ·have r3:bg s (i+1)=bg s i+1:=r3
    have r3':=r3.symm
    repeat refine aw ?_
    exact aR (i+1) hin (by omega) (by exact Uw.wM)
   ·have r3:bg s (i+1)=bg s i+0:=r3
    have r3' : bg s i=bg s (i+1):=by omega
    repeat refine aw ?_
    exact aR (i+1) hin (by omega) (by exact Uw.wM)
   ·have r3:bg s (i+1)=bg s i+0:=r3
    have r3' : bg s i=bg s (i+1):=by omega
    repeat refine aw ?_
    exact aR (i+1) hin (by omega) (by exact Uw.wM)
  ·obtain rfl:i=n:=by omega
   repeat refine aw ?_
   refine bp ?_
   repeat refine aw ?_
   refine dC (fun j:Nat=>⟨[(172,.d (I j)),(171,.d (I (U.length:Nat))),(170,.d (.slice 10 U false)),(12,.d (I (bg s i))),(8,.d (I S.ends)),(7,.d (I S.forks)),(4,.d (I S.many)),(3,.ptr 1 0),(2,.d (.bool false))],[(1,.var (cE 0 v D5 D1 D2 D3 U L T ST rF)),(0,.var (cdV c))],4,[],0⟩) (fun j=>j<=us.length) (fun j=>us.length - j) 0 (by exact Uw.wM) (acD _) ?_;intro j hj;by_cases hjn:j<us.length
   ·obtain ⟨st,tk,th,ob,k1,k2,k3,k4,vl,is,u1,u2,u3⟩:=hur j hjn
    have aaK : (j:Int)<(U.length:Nat):=by omega
    repeat refine aw ?_
    exact aR (j+1) hjn (by omega) (by exact Uw.wM)
   ·obtain rfl:j=us.length:=by omega
    have aaK : ¬((us.length:Nat):Int)<(U.length:Nat):=by omega
    repeat refine aw ?_
    refine bp ?_
    repeat refine aw ?_
    exact aj rfl rfl rfl rfl rfl
end Uw.Tryz.El
