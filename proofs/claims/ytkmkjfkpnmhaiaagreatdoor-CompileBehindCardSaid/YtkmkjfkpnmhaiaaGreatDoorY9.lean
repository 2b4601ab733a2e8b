/- Y9: Pj Pk Pl Pm Pn Pn2 Pp Po Pq Px Ho Jb Ff Fg Fh Ga Gb Gc Gd Ge Gf Cy Cz Dc Dd De Df Dg Dh Di Gg Gh (merged by merge2.py from the working texts). -/
import Derived.Test.YtkmkjfkpnmhaiaaGreatDoorY8
import Derived.Test.YtkmkjfkpnmhaiaaGreatDoorY5
import Derived.Test.YtkmkjfkpnmhaiaaGreatDoorY6
import Derived.Test.YtkmkjfkpnmhaiaaGreatDoorY4
import Derived.Test.YtkmkjfkpnmhaiaaGreatDoorY7
set_option maxRecDepth 20000
set_option maxHeartbeats 4000000
set_option linter.unusedSimpArgs false
set_option linter.unnecessarySimpa false
set_option linter.unusedVariables false
set_option linter.unusedSectionVars false
namespace Uw.Tryz
open Go Uw
def pIf (n:Nat) (r:List Tok):R Stm:=(df n r.tail).bind fun e r=>(ck n r).bind fun a r=>
 if hd r=xJ then (ck n r.tail).bind fun b r=>.ok (.if2 e a b) r else .ok (.if1 e a) r
theorem NM (l:List Tok) (hl:l.length<1000000) (n:Nat) (ih:∀m,m<=n->CS l m) (k:Nat) (ns:List Nod) (hk:k<=l.length) (hn:ns.length<=k) (h0:hd (l.drop k)=sIf):cT jR [.ptr 0 0] (rdN l k ns) (oD l ns (pIf n (l.drop k))):=by
 have hlt:=d6 h0 (by decide);have w0:=aN l k (ns.map bR) hk hl sIf (by decide) h0;clear h0;rw [pIf,XC]
 rcases xh ((ce l hl n n (Xn _)).expr (k+1) ns hlt (by omega)) hlt (fun e r h=>(eD n).expr _ _ _ h) with h2|⟨h2,h3⟩|⟨e,k1,h2,hk1,nc,h3⟩
 ·rw [h2];exact trivial
 ·rw [h2]
  refine aL dm rfl ?_
  repeat refine aw ?_
  refine ae 2 [0,1] w0 ?_
  repeat refine aw ?_
  refine bg 2 [0,1] h3 ?_;intro H q
  repeat refine aw ?_
  exact aM rfl
 ·rw [h2]
  have hf1:(ns++e.flat ns.length).length=ns.length+e.sz:=by simp [Ex.az]
  show cT _ _ _ (oD l ns ((ck n (l.drop k1)).bind _))
  rcases Qf ((ih n (Xn _)).block k1 (ns++e.flat ns.length) hk1 (by omega)) hk1 (fun e r h=>(o4 n).block _ _ _ h) with h4|⟨h4,h5⟩|⟨a,k2,h4,hk2,Vm,h5⟩
  ·rw [h4];exact trivial
  ·rw [h4]
   refine aL dm rfl ?_
   repeat refine aw ?_
   refine ae 2 [0,1] w0 ?_
   repeat refine aw ?_
   refine ae 2 [0,1] h3 ?_
   repeat refine aw ?_
   refine bg 2 [0,1] h5 ?_;intro H q
   repeat refine aw ?_
   exact aM rfl
  ·rw [h4]
   have hf2:(ns++e.flat ns.length++a.all (ns++e.flat ns.length).length).length=ns.length+e.sz+(a.sz+1):=by simp [Ex.az,Bl.lR];omega
   have hv:=bH l k2 ((ns++e.flat ns.length++a.all (ns++e.flat ns.length).length).map bR) hk2 hl xJ (by decide);show cT _ _ _ (oD l ns (if hd (l.drop k2)=xJ then _ else _));by_cases h6:hd (l.drop k2)=xJ
   ·have hlt2:=d6 h6 (by decide)
    rw [if_pos h6,decide_eq_true h6] at hv;rw [if_pos h6,XC];clear h6
    rcases Qf ((ih n (Xn _)).block (k2+1) (ns++e.flat ns.length++a.all (ns++e.flat ns.length).length) hlt2 (by omega)) hlt2 (fun e r h=>(o4 n).block _ _ _ h) with h7|⟨h7,h8⟩|⟨b,k3,h7,hk3,G4,h8⟩
    ·rw [h7];exact trivial
    ·rw [h7]
     refine aL dm rfl ?_
     repeat refine aw ?_
     refine ae 2 [0,1] w0 ?_
     repeat refine aw ?_
     refine ae 2 [0,1] h3 ?_
     repeat refine aw ?_
     refine ae 2 [0,1] h5 ?_
     repeat refine aw ?_
     refine ae 3 [0,1] hv ?_
     repeat refine aw ?_
     refine bg 3 [0,1] h8 ?_;intro H q
     repeat refine aw ?_
     exact aM rfl
    ·rw [h7]
     show bh _ _ _ _ (.d (I ((ns.length+(Stm.if2 e a b).sz - 1:Nat)))) (rdN l (l.length - (l.drop k3).length) (ns++(Stm.if2 e a b).flat ns.length));rw [len_drop hk3];have hp:=EK l k3 (ns++e.flat ns.length++a.all (ns++e.flat ns.length).length++b.all (ns++e.flat ns.length++a.all (ns++e.flat ns.length).length).length) (ns++(Stm.if2 e a b).flat ns.length) ⟨13,0,[],[],[ns.length+e.sz - 1,(ns++e.flat ns.length).length+a.sz,(ns++e.flat ns.length++a.all (ns++e.flat ns.length).length).length+b.sz]⟩ (by
      rw [hf2,hf1];simp [Stm.flat,Bl.all];try omega) (ns.length+(Stm.if2 e a b).sz - 1) (by simp [Stm.sz,Ex.az,Bl.lR];try omega) (by simp [Ex.az,Bl.lR];omega) rfl
     refine aF dm rfl ?_
     repeat refine aw ?_
     refine ae 2 [0,1] w0 ?_
     repeat refine aw ?_
     refine ae 2 [0,1] h3 ?_
     repeat refine aw ?_
     refine ae 2 [0,1] h5 ?_
     repeat refine aw ?_
     refine ae 3 [0,1] hv ?_
     repeat refine aw ?_
     refine ae 3 [0,1] h8 ?_
     repeat refine aw ?_
     refine ae 3 [0,1,2] hp ?_
     repeat refine aw ?_
     exact aE 2 rfl rfl (by exact Uw.wW)
   ·rw [if_neg h6,decide_eq_false h6] at hv
    rw [if_neg h6];clear h6;show bh _ _ _ _ (.d (I ((ns.length+(Stm.if1 e a).sz - 1:Nat)))) (rdN l (l.length - (l.drop k2).length) (ns++(Stm.if1 e a).flat ns.length));rw [len_drop hk2];have hp:=EK l k2 (ns++e.flat ns.length++a.all (ns++e.flat ns.length).length) (ns++(Stm.if1 e a).flat ns.length) ⟨13,0,[],[],[ns.length+e.sz - 1,(ns++e.flat ns.length).length+a.sz]⟩ (by
     rw [hf1];simp [Stm.flat,Bl.all];try omega) (ns.length+(Stm.if1 e a).sz - 1) (by simp [Stm.sz,Ex.az,Bl.lR];try omega) (by simp [Ex.az,Bl.lR];omega) rfl
    refine aF dm rfl ?_
    repeat refine aw ?_
    refine ae 2 [0,1] w0 ?_
    repeat refine aw ?_
    refine ae 2 [0,1] h3 ?_
    repeat refine aw ?_
    refine ae 2 [0,1] h5 ?_
    repeat refine aw ?_
    refine ae 3 [0,1] hv ?_
    repeat refine aw ?_
    refine ae 3 [0,1,2] hp ?_
    repeat refine aw ?_
    exact aE 2 rfl rfl (by exact Uw.wW)
theorem Ti (l:List Tok) (hl:l.length<1000000) (n:Nat) (ih:∀m,m<=n->CS l m) (k:Nat) (ns:List Nod) (hk:k<=l.length) (hn:ns.length<=k):cT eV [.ptr 0 0] (rdN l k ns) (oD l ns (gl (n+1) (l.drop k))):=by
 have pk:=bM l k (ns.map bR) hk;rw [gl];by_cases h0:hd (l.drop k)=sIf
 ·have hlt:=d6 h0 (by decide)
  rw [if_pos h0];have hc:=NM l hl n ih k ns hk hn h0;have e:gl (n+1) (l.drop k)=pIf n (l.drop k):=by rw [gl,if_pos h0];rfl
  show cT _ _ _ (oD l ns (pIf n (l.drop k)));rw [h0] at pk;clear h0
  rcases KQ hc hk (fun s r h=>(o4 (n+1)).stmt _ _ _ (e.trans h)) with h2|⟨h2,h3⟩|⟨s,k1,h2,hk1,nc,h3⟩
  ·rw [h2];exact trivial
  ·rw [h2]
   refine aL bG rfl ?_
   repeat' first|refine aw ?_|refine bw (fun _=>?_) fun _=>?_
   refine ae 2 [0,1] pk ?_
   repeat' first|refine aw ?_|refine bw (fun _=>?_) fun _=>?_
   refine bg 2 [0,1] h3 ?_;intro H q
   repeat' first|refine aw ?_|refine bw (fun _=>?_) fun _=>?_
   exact aM rfl
  ·rw [h2]
   show bh _ _ _ _ (.d (I ((ns.length+s.sz - 1:Nat)))) (rdN l (l.length - (l.drop k1).length) _);rw [len_drop hk1];refine aF bG rfl ?_
   repeat' first|refine aw ?_|refine bw (fun _=>?_) fun _=>?_
   refine ae 2 [0,1] pk ?_
   repeat' first|refine aw ?_|refine bw (fun _=>?_) fun _=>?_
   refine ae 2 [0,1] h3 ?_
   repeat' first|refine aw ?_|refine bw (fun _=>?_) fun _=>?_
   exact aE 2 rfl rfl (by exact Uw.wW)
 ·rw [if_neg h0]
  by_cases h1:hd (l.drop k)=uh
  ·have hlt:=d6 h1 (by decide)
   have w0:=aN l k (ns.map bR) hk hl uh (by decide) h1;rw [if_pos h1,XC];rw [h1] at pk;clear h0 h1
   rcases xh ((ce l hl n n (Xn _)).expr (k+1) ns hlt (by omega)) hlt (fun e r h=>(eD n).expr _ _ _ h) with h2|⟨h2,h3⟩|⟨e,k1,h2,hk1,nc,h3⟩
   ·rw [h2];exact trivial
   ·rw [h2]
    refine aL bG rfl ?_
    repeat' first|refine aw ?_|refine bw (fun _=>?_) fun _=>?_
    refine ae 2 [0,1] pk ?_
    repeat' first|refine aw ?_|refine bw (fun _=>?_) fun _=>?_
    refine ae 2 [0,1] w0 ?_
    repeat' first|refine aw ?_|refine bw (fun _=>?_) fun _=>?_
    refine bg 2 [0,1] h3 ?_;intro H q
    repeat' first|refine aw ?_|refine bw (fun _=>?_) fun _=>?_
    exact aM rfl
   ·rw [h2]
    have hf1:(ns++e.flat ns.length).length=ns.length+e.sz:=by simp [Ex.az]
    show cT _ _ _ (oD l ns ((ck n (l.drop k1)).bind _))
    rcases Qf ((ih n (Xn _)).block k1 (ns++e.flat ns.length) hk1 (by omega)) hk1 (fun e r h=>(o4 n).block _ _ _ h) with h4|⟨h4,h5⟩|⟨a,k2,h4,hk2,Vm,h5⟩
    ·rw [h4];exact trivial
    ·rw [h4]
     refine aL bG rfl ?_
     repeat' first|refine aw ?_|refine bw (fun _=>?_) fun _=>?_
     refine ae 2 [0,1] pk ?_
     repeat' first|refine aw ?_|refine bw (fun _=>?_) fun _=>?_
     refine ae 2 [0,1] w0 ?_
     repeat' first|refine aw ?_|refine bw (fun _=>?_) fun _=>?_
     refine ae 2 [0,1] h3 ?_
     repeat' first|refine aw ?_|refine bw (fun _=>?_) fun _=>?_
     refine bg 2 [0,1] h5 ?_;intro H q
     repeat' first|refine aw ?_|refine bw (fun _=>?_) fun _=>?_
     exact aM rfl
    ·rw [h4]
     show bh _ _ _ _ (.d (I ((ns.length+(Stm.loop e a).sz - 1:Nat)))) (rdN l (l.length - (l.drop k2).length) (ns++(Stm.loop e a).flat ns.length));rw [len_drop hk2];have hp:=qu l k2 (ns++e.flat ns.length++a.all (ns++e.flat ns.length).length) (ns++(Stm.loop e a).flat ns.length) ⟨14,0,[],[],[ns.length+e.sz - 1,(ns++e.flat ns.length).length+a.sz]⟩ (by
      rw [hf1];simp [Stm.flat,Bl.all];try omega) (ns.length+(Stm.loop e a).sz - 1) (by simp [Stm.sz,Ex.az,Bl.lR];try omega) (by simp [Ex.az,Bl.lR];omega)
     have hp:bh P0 bB [.ptr 0 0,.agg [.d (I 14),.d (I 0),.d (.str []),.d (.str []),.d (.slice 1 [[I ((ns.length+e.sz - 1:Nat))],[I (((ns++e.flat ns.length).length+a.sz:Nat))]] true)]] (rdN l k2 (ns++e.flat ns.length++a.all (ns++e.flat ns.length).length)) (.d (I ((ns.length+(Stm.loop e a).sz - 1:Nat)))) (rdN l k2 (ns++(Stm.loop e a).flat ns.length)):=hp;refine aF bG rfl ?_
     repeat' first|refine aw ?_|refine bw (fun _=>?_) fun _=>?_
     refine ae 2 [0,1] pk ?_
     repeat' first|refine aw ?_|refine bw (fun _=>?_) fun _=>?_
     refine ae 2 [0,1] w0 ?_
     repeat' first|refine aw ?_|refine bw (fun _=>?_) fun _=>?_
     refine ae 2 [0,1] h3 ?_
     repeat' first|refine aw ?_|refine bw (fun _=>?_) fun _=>?_
     refine ae 2 [0,1] h5 ?_
     repeat' first|refine aw ?_|refine bw (fun _=>?_) fun _=>?_
     refine ae 2 [0,1] hp ?_
     repeat' first|refine aw ?_|refine bw (fun _=>?_) fun _=>?_
     exact aE 2 rfl rfl (by exact Uw.wW)
  ·rw [if_neg h1]
   generalize hd (l.drop k)=p at *;unfold sIf at h0;unfold uh at h1
   rcases KQ (NL l hl n k ns hk hn) hk (fun s r h=>zq h) with h2|⟨h2,h3⟩|⟨s,k1,h2,hk1,nc,h3⟩
   ·rw [h2];exact trivial
   ·rw [h2]
    refine aL bG rfl ?_
    repeat' first|refine aw ?_|refine bw (fun _=>?_) fun _=>?_
    refine ae 2 [0,1] pk ?_
    repeat' first|refine aw ?_|refine bw (fun _=>?_) fun _=>?_
    refine bg 2 [0,1] h3 ?_;intro H q
    repeat' first|refine aw ?_|refine bw (fun _=>?_) fun _=>?_
    exact aM rfl
   ·rw [h2]
    show cT _ _ _ (oD l ns ((want [59] (l.drop k1)).bind _));by_cases h4:hd (l.drop k1)=[59]
    ·have hlt1:=d6 h4 (by simp)
     have w1:=aN l k1 ((ns++s.flat ns.length).map bR) hk1 hl [59] (by simp) h4;rw [want,if_pos h4,XC];show bh _ _ _ _ (.d (I ((ns.length+s.sz - 1:Nat)))) (rdN l (l.length - (l.drop (k1+1)).length) _);rw [len_drop hlt1];clear h4;refine aF bG rfl ?_
     repeat' first|refine aw ?_|refine bw (fun _=>?_) fun _=>?_
     refine ae 2 [0,1] pk ?_
     repeat' first|refine aw ?_|refine bw (fun _=>?_) fun _=>?_
     refine ae 2 [0,1] h3 ?_
     repeat' first|refine aw ?_|refine bw (fun _=>?_) fun _=>?_
     refine ae 2 [0,1] w1 ?_
     repeat' first|refine aw ?_|refine bw (fun _=>?_) fun _=>?_
     exact aE 2 rfl rfl (by exact Uw.wW)
    ·have w1:=aY l k1 ((ns++s.flat ns.length).map bR) hk1 hl [59] (by simp) h4
     rw [want,if_neg h4];clear h4;refine aL bG rfl ?_
     repeat' first|refine aw ?_|refine bw (fun _=>?_) fun _=>?_
     refine ae 2 [0,1] pk ?_
     repeat' first|refine aw ?_|refine bw (fun _=>?_) fun _=>?_
     refine ae 2 [0,1] h3 ?_
     repeat' first|refine aw ?_|refine bw (fun _=>?_) fun _=>?_
     refine bg 2 [0,1] w1 ?_;intro H q
     repeat' first|refine aw ?_|refine bw (fun _=>?_) fun _=>?_
     exact aM rfl
theorem cs (l:List Tok) (hl:l.length<1000000):∀n,∀m,m<=n->CS l m
 | 0,m,hm=>by
  obtain rfl:m=0:=by omega
  refine ⟨?_,?_⟩
  ·intro k ns _ _;rw [gl];exact trivial
  ·intro k ns _ _;rw [ck];exact trivial
 | n+1,m,hm=>by
  have ih:=cs l hl n;by_cases h:m<=n
  ·exact ih m h
  ·obtain rfl:m=n+1:=by omega
   exact ⟨fun k ns=>Ti l hl n ih k ns,fun k ns=>Qg l hl n ih k ns⟩
end Uw.Tryz
namespace Uw.Tryz
open Go Uw
def G5 (d:Dec):V:=.agg [.d (I d.kind),.d (.str d.name),.d (I d.n)]
def tu (l:List Tok) (ns:List Nod) (x:R Dec):Out:=
 match x with
 | .ok d r=>.ok (G5 d) (rdN l (l.length - r.length) ns)
 | .bad=>.bad
 | .out=>.out
theorem Au (l:List Tok) (k:Nat) (xs:List (List Dat)) (hk:k<=l.length) (hl:l.length<1000000) (K:Int) :
  (eY K (l.drop k) = .bad/\ku P0 dY [.ptr 0 0,.d (I K)] (rd l k xs) cP)\/∃t,eY K (l.drop k) = .ok t (l.drop (k+1))/\k<l.length/\bh P0 dY [.ptr 0 0,.d (I K)] (rd l k xs) (.agg ((rz t).map V.d)) (rd l (k+1) xs):=by
 by_cases h:k<l.length
 ·have hd:l.drop k=l[k]::l.drop (k+1):=XY h
  by_cases h1:l[k].kind=K
  ·exact .inr ⟨l[k],by rw [hd,eY,if_pos h1],h,fj l k xs hk hl K h h1⟩
  ·exact .inl ⟨by rw [hd,eY,if_neg h1],iH l k xs hk hl K (fun _=>h1)⟩
 ·exact .inl ⟨by rw [X8 (by omega),eY],iH l k xs hk hl K (fun h'=>absurd h' h)⟩
def ke (k:Int) (s:Str) (r:List Tok):R Dec:=(if k=0/\hd r=[61] then (eY 2 r.tail).bind fun t r=>R.ok t.n r else .ok 0 r).bind fun v r=>(want [59] r).bind fun _ r=>.ok ⟨k,s,v⟩ r
theorem Tj (l:List Tok) (hl:l.length<1000000) (k:Nat) (ns:List Nod) (hk:k<=l.length):cT lw [.ptr 0 0] (rdN l k ns) (tu l ns (lr (l.drop k))):=by
 rw [lr]
 rcases Au l k (ns.map bR) hk hl 1 with ⟨h1,h2⟩|⟨t,h1,hlt,h2⟩
 ·rw [h1]
  refine aL aP rfl ?_
  repeat refine aw ?_
  refine bg 4 [0,1] h2 ?_;intro H q
  repeat refine aw ?_
  exact aM rfl
 ·rw [h1]
  obtain ⟨kind,text,num,place⟩:=t;show cT _ _ _ (tu l ns (match kindOf text with|none=>R.bad|some K=>(dW (l.drop (k+1))).bind fun s r=>ke K s r));rw [kindOf];by_cases c0:text=FW
  ·subst c0
   show cT _ _ _ (tu l ns ((dW (l.drop (k+1))).bind fun s r=>ke 0 s r))
   rcases dV l (k+1) (ns.map bR) hlt hl with ⟨h3,h4⟩|⟨s,h3,hlt2,h4⟩
   ·rw [h3]
    refine aL aP rfl ?_
    repeat refine aw ?_
    refine ae 4 [0,1] h2 ?_
    repeat refine aw ?_
    refine bg 4 [0,1] h4 ?_;intro H q
    repeat refine aw ?_
    exact aM rfl
   ·rw [h3]
    show cT _ _ _ (tu l ns (ke 0 s (l.drop (k+1+1))));rw [ke];have hv:=bH l (k+1+1) (ns.map bR) hlt2 hl [61] (by simp);by_cases h5:hd (l.drop (k+1+1))=[61]
    ·have hlt3:=d6 h5 (by simp)
     rw [if_pos h5,decide_eq_true h5] at hv;rw [if_pos ⟨rfl,h5⟩,XC];clear h5
     rcases Au l (k+1+1+1) (ns.map bR) hlt3 hl 2 with ⟨h6,h7⟩|⟨t,h6,hlt4,h7⟩
     ·rw [h6]
      refine aL aP rfl ?_
      repeat refine aw ?_
      refine ae 4 [0,1] h2 ?_
      repeat refine aw ?_
      refine ae 4 [0,1] h4 ?_
      repeat refine aw ?_
      refine ae 4 [0,1] hv ?_
      repeat refine aw ?_
      refine bg 4 [0,1] h7 ?_;intro H q
      repeat refine aw ?_
      exact aM rfl
     ·rw [h6]
      obtain ⟨k2,x2,n2,p2⟩:=t;show cT _ _ _ (tu l ns ((want [59] (l.drop (k+1+1+1+1))).bind fun _ r=>R.ok ⟨0,s,n2⟩ r));by_cases hs:hd (l.drop (k+1+1+1+1))=[59]
      ·have Qh:=d6 hs (by simp)
       have w9:=aN l (k+1+1+1+1) (ns.map bR) (by omega) hl [59] (by simp) hs;rw [want,if_pos hs,XC];show bh _ _ _ _ (G5 ⟨0,s,n2⟩) (rdN l (l.length - (l.drop (k+1+1+1+1+1)).length) ns);rw [len_drop (by omega)];clear hs;refine aF aP rfl ?_
       repeat refine aw ?_
       refine ae 4 [0,1] h2 ?_
       repeat refine aw ?_
       refine ae 4 [0,1] h4 ?_
       repeat refine aw ?_
       refine ae 4 [0,1] hv ?_
       repeat refine aw ?_
       refine ae 4 [0,1] h7 ?_
       repeat refine aw ?_
       refine ae 4 [0,1] w9 ?_
       repeat refine aw ?_
       exact aE 2 rfl rfl (by exact Uw.wW)
      ·have w9:=aY l (k+1+1+1+1) (ns.map bR) (by omega) hl [59] (by simp) hs
       rw [want,if_neg hs];clear hs;refine aL aP rfl ?_
       repeat refine aw ?_
       refine ae 4 [0,1] h2 ?_
       repeat refine aw ?_
       refine ae 4 [0,1] h4 ?_
       repeat refine aw ?_
       refine ae 4 [0,1] hv ?_
       repeat refine aw ?_
       refine ae 4 [0,1] h7 ?_
       repeat refine aw ?_
       refine bg 4 [0,1] w9 ?_;intro H q
       repeat refine aw ?_
       exact aM rfl
    ·rw [if_neg h5,decide_eq_false h5] at hv
     rw [if_neg (fun h=>h5 h.2)];clear h5;show cT _ _ _ (tu l ns ((want [59] (l.drop (k+1+1))).bind fun _ r=>R.ok ⟨0,s,0⟩ r));by_cases hs:hd (l.drop (k+1+1))=[59]
     ·have Qh:=d6 hs (by simp)
      have w9:=aN l (k+1+1) (ns.map bR) (by omega) hl [59] (by simp) hs;rw [want,if_pos hs,XC];show bh _ _ _ _ (G5 ⟨0,s,0⟩) (rdN l (l.length - (l.drop (k+1+1+1)).length) ns);rw [len_drop (by omega)];clear hs;refine aF aP rfl ?_
      repeat refine aw ?_
      refine ae 4 [0,1] h2 ?_
      repeat refine aw ?_
      refine ae 4 [0,1] h4 ?_
      repeat refine aw ?_
      refine ae 4 [0,1] hv ?_
      repeat refine aw ?_
      refine ae 4 [0,1] w9 ?_
      repeat refine aw ?_
      exact aE 2 rfl rfl (by exact Uw.wW)
     ·have w9:=aY l (k+1+1) (ns.map bR) (by omega) hl [59] (by simp) hs
      rw [want,if_neg hs];clear hs;refine aL aP rfl ?_
      repeat refine aw ?_
      refine ae 4 [0,1] h2 ?_
      repeat refine aw ?_
      refine ae 4 [0,1] h4 ?_
      repeat refine aw ?_
      refine ae 4 [0,1] hv ?_
      repeat refine aw ?_
      refine bg 4 [0,1] w9 ?_;intro H q
      repeat refine aw ?_
      exact aM rfl
  ·by_cases c1:text=M1
   ·subst c1
    show cT _ _ _ (tu l ns ((dW (l.drop (k+1))).bind fun s r=>ke 1 s r));clear c0
    rcases dV l (k+1) (ns.map bR) hlt hl with ⟨h3,h4⟩|⟨s,h3,hlt2,h4⟩
    ·rw [h3]
     refine aL aP rfl ?_
     repeat refine aw ?_
     refine ae 4 [0,1] h2 ?_
     repeat refine aw ?_
     refine bg 4 [0,1] h4 ?_;intro H q
     repeat refine aw ?_
     exact aM rfl
    ·rw [h3]
     show cT _ _ _ (tu l ns (ke 1 s (l.drop (k+1+1))));rw [ke];rw [if_neg (fun h=>by have:=h.1;omega)];show cT _ _ _ (tu l ns ((want [59] (l.drop (k+1+1))).bind fun _ r=>R.ok ⟨1,s,0⟩ r));by_cases hs:hd (l.drop (k+1+1))=[59]
     ·have Qh:=d6 hs (by simp)
      have w9:=aN l (k+1+1) (ns.map bR) (by omega) hl [59] (by simp) hs;rw [want,if_pos hs,XC];show bh _ _ _ _ (G5 ⟨1,s,0⟩) (rdN l (l.length - (l.drop (k+1+1+1)).length) ns);rw [len_drop (by omega)];clear hs;refine aF aP rfl ?_
      repeat refine aw ?_
      refine ae 4 [0,1] h2 ?_
      repeat refine aw ?_
      refine ae 4 [0,1] h4 ?_
      repeat refine aw ?_
      refine ae 4 [0,1] w9 ?_
      repeat refine aw ?_
      exact aE 2 rfl rfl (by exact Uw.wW)
     ·have w9:=aY l (k+1+1) (ns.map bR) (by omega) hl [59] (by simp) hs
      rw [want,if_neg hs];clear hs;refine aL aP rfl ?_
      repeat refine aw ?_
      refine ae 4 [0,1] h2 ?_
      repeat refine aw ?_
      refine ae 4 [0,1] h4 ?_
      repeat refine aw ?_
      refine bg 4 [0,1] w9 ?_;intro H q
      repeat refine aw ?_
      exact aM rfl
   ·by_cases c2:text=zp
    ·subst c2
     show cT _ _ _ (tu l ns ((dW (l.drop (k+1))).bind fun s r=>ke 2 s r));clear c0 c1
     rcases dV l (k+1) (ns.map bR) hlt hl with ⟨h3,h4⟩|⟨s,h3,hlt2,h4⟩
     ·rw [h3]
      refine aL aP rfl ?_
      repeat refine aw ?_
      refine ae 4 [0,1] h2 ?_
      repeat refine aw ?_
      refine bg 4 [0,1] h4 ?_;intro H q
      repeat refine aw ?_
      exact aM rfl
     ·rw [h3]
      show cT _ _ _ (tu l ns (ke 2 s (l.drop (k+1+1))));rw [ke];rw [if_neg (fun h=>by have:=h.1;omega)];show cT _ _ _ (tu l ns ((want [59] (l.drop (k+1+1))).bind fun _ r=>R.ok ⟨2,s,0⟩ r));by_cases hs:hd (l.drop (k+1+1))=[59]
      ·have Qh:=d6 hs (by simp)
       have w9:=aN l (k+1+1) (ns.map bR) (by omega) hl [59] (by simp) hs;rw [want,if_pos hs,XC];show bh _ _ _ _ (G5 ⟨2,s,0⟩) (rdN l (l.length - (l.drop (k+1+1+1)).length) ns);rw [len_drop (by omega)];clear hs;refine aF aP rfl ?_
       repeat refine aw ?_
       refine ae 4 [0,1] h2 ?_
       repeat refine aw ?_
       refine ae 4 [0,1] h4 ?_
       repeat refine aw ?_
       refine ae 4 [0,1] w9 ?_
       repeat refine aw ?_
       exact aE 2 rfl rfl (by exact Uw.wW)
      ·have w9:=aY l (k+1+1) (ns.map bR) (by omega) hl [59] (by simp) hs
       rw [want,if_neg hs];clear hs;refine aL aP rfl ?_
       repeat refine aw ?_
       refine ae 4 [0,1] h2 ?_
       repeat refine aw ?_
       refine ae 4 [0,1] h4 ?_
       repeat refine aw ?_
       refine bg 4 [0,1] w9 ?_;intro H q
       repeat refine aw ?_
       exact aM rfl
    ·by_cases c3:text=FX
     ·subst c3
      show cT _ _ _ (tu l ns ((dW (l.drop (k+1))).bind fun s r=>ke 3 s r));clear c0 c1 c2
      rcases dV l (k+1) (ns.map bR) hlt hl with ⟨h3,h4⟩|⟨s,h3,hlt2,h4⟩
      ·rw [h3]
       refine aL aP rfl ?_
       repeat refine aw ?_
       refine ae 4 [0,1] h2 ?_
       repeat refine aw ?_
       refine bg 4 [0,1] h4 ?_;intro H q
       repeat refine aw ?_
       exact aM rfl
      ·rw [h3]
       show cT _ _ _ (tu l ns (ke 3 s (l.drop (k+1+1))));rw [ke];rw [if_neg (fun h=>by have:=h.1;omega)];show cT _ _ _ (tu l ns ((want [59] (l.drop (k+1+1))).bind fun _ r=>R.ok ⟨3,s,0⟩ r));by_cases hs:hd (l.drop (k+1+1))=[59]
       ·have Qh:=d6 hs (by simp)
        have w9:=aN l (k+1+1) (ns.map bR) (by omega) hl [59] (by simp) hs;rw [want,if_pos hs,XC];show bh _ _ _ _ (G5 ⟨3,s,0⟩) (rdN l (l.length - (l.drop (k+1+1+1)).length) ns);rw [len_drop (by omega)];clear hs;refine aF aP rfl ?_
        repeat refine aw ?_
        refine ae 4 [0,1] h2 ?_
        repeat refine aw ?_
        refine ae 4 [0,1] h4 ?_
        repeat refine aw ?_
        refine ae 4 [0,1] w9 ?_
        repeat refine aw ?_
        exact aE 2 rfl rfl (by exact Uw.wW)
       ·have w9:=aY l (k+1+1) (ns.map bR) (by omega) hl [59] (by simp) hs
        rw [want,if_neg hs];clear hs;refine aL aP rfl ?_
        repeat refine aw ?_
        refine ae 4 [0,1] h2 ?_
        repeat refine aw ?_
        refine ae 4 [0,1] h4 ?_
        repeat refine aw ?_
        refine bg 4 [0,1] w9 ?_;intro H q
        repeat refine aw ?_
        exact aM rfl
     ·rw [if_neg c0,if_neg c1,if_neg c2,if_neg c3]
      unfold FW at c0;unfold M1 at c1;unfold zp at c2;unfold FX at c3;refine aL aP rfl ?_
      repeat refine aw ?_
      refine ae 4 [0,1] h2 ?_
      repeat refine aw ?_
      exact aM rfl
end Uw.Tryz
namespace Uw.Tryz
open Go Uw
def kQ (ys:List Str):List (List Dat):=ys.map fun s=>[.str s]
theorem EL (l:List Tok) (k k' : Nat) (ns:List Nod) (f p:Str) (h:bh P0 b9 [.ptr 0 0] (rdN l k ns) (.d (.str p)) (rdN l k' ns)) :
  bh P0 bO [.ptr 3 0,.ptr 2 0] (rdN l k ns++[.var [.ptr 0 0],.var [.d (.str f),.d .nil,.d (I 0)]]) (.tuple []) (rdN l k' ns++[.var [.ptr 0 0],.var [.d (.str f),.ref 4 0 0 (kQ [p]).length,.d (I 0)],.arr 1 (kQ [p])]):=by
 refine aF dj rfl ?_;refine bW ⟨[],bn 0 (rdN l k' ns++[.var [.ptr 0 0],.var [.d (.str f),.ref 4 0 0 (kQ [p]).length,.d (I 0)],.arr 1 (kQ [p])]),5,[],4⟩ ?_ ?_
 ·repeat refine aw ?_
  refine ae 4 [0,1] h ?_
  repeat refine aw ?_
  exact aX (.inl ⟨rfl,by exact Uw.wW⟩)
 ·repeat refine aw ?_
  exact c9 4 rfl rfl (by exact Uw.wW)
theorem G6 (l:List Tok) (k k' : Nat) (ns:List Nod) (f p:Str) (ys:List Str) (hy:ys.length<1000000) (h:bh P0 b9 [.ptr 0 0] (rdN l k ns) (.d (.str p)) (rdN l k' ns)) :
  bh P0 bO [.ptr 3 0,.ptr 2 0] (rdN l k ns++[.var [.ptr 0 0],.var [.d (.str f),.ref 4 0 0 (kQ ys).length,.d (I 0)],.arr 1 (kQ ys)]) (.tuple []) (rdN l k' ns++[.var [.ptr 0 0],.var [.d (.str f),.ref 4 0 0 (kQ (ys++[p])).length,.d (I 0)],.arr 1 (kQ (ys++[p]))]):=by
 have e:kQ (ys++[p])=kQ ys++[[.str p]]:=by simp [kQ]
 have hy' : (kQ ys).length<1000000:=by simpa [kQ] using hy
 rw [e];generalize kQ ys=zs at *;refine aF dj rfl ?_;refine bW ⟨[],bn 0 (rdN l k' ns++[.var [.ptr 0 0],.var [.d (.str f),.ref 4 0 0 (zs++[[Dat.str p]]).length,.d (I 0)],.arr 1 (zs++[[.str p]])]),5,[],5⟩ ?_ ?_
 ·repeat refine aw ?_
  refine ae 5 [0,1] h ?_
  repeat refine aw ?_
  exact aX (.inl ⟨rfl,by exact Uw.wW⟩)
 ·repeat refine aw ?_
  exact c9 5 rfl rfl (by exact Uw.wW)
theorem EM (l:List Tok) (k:Nat) (ns:List Nod) (f:Str) (h:ku P0 b9 [.ptr 0 0] (rdN l k ns) cP) :
  ku P0 bO [.ptr 3 0,.ptr 2 0] (rdN l k ns++[.var [.ptr 0 0],.var [.d (.str f),.d .nil,.d (I 0)]]) cP:=by
 refine aL dj rfl ?_;refine oS ?_
 repeat refine aw ?_
 refine bg 4 [0,1] h ?_;intro H n
 repeat refine aw ?_
 exact aX ⟨cP,rfl,aM rfl⟩
theorem G7 (l:List Tok) (k:Nat) (ns:List Nod) (f:Str) (ys:List Str) (h:ku P0 b9 [.ptr 0 0] (rdN l k ns) cP) :
  ku P0 bO [.ptr 3 0,.ptr 2 0] (rdN l k ns++[.var [.ptr 0 0],.var [.d (.str f),.ref 4 0 0 (kQ ys).length,.d (I 0)],.arr 1 (kQ ys)]) cP:=by
 generalize kQ ys=zs at *;refine aL dj rfl ?_;refine oS ?_
 repeat refine aw ?_
 refine bg 5 [0,1] h ?_;intro H n
 repeat refine aw ?_
 exact aX ⟨cP,rfl,aM rfl⟩
end Uw.Tryz
namespace Uw.Tryz
open Go Uw
def jG (ys:List Str):Dat:=if ys=[] then .nil else .slice 1 (kQ ys) false
def NN (l:List Tok) (ns:List Nod) (x:R Fn):Out:=
 match x with
 | .ok f r=>.ok (.agg [.d (.str f.name),.d (jG f.args),.d (I ((ns.length+f.body.sz:Nat)))]) (rdN l (l.length - r.length) (ns++f.body.all ns.length))
 | .bad=>.bad
 | .out=>.out
theorem Av:∀(n:Nat) (r:List Tok) (x:List Str) (r' : List Tok),cm n r = .ok x r'->Suf r r' (x.length+1)
 | 0,_,_,_,h=>by rw [cm] at h;cases h
 | n+1,r,x,r',h=>by
  rw [cm] at h
  split at h
  ·rename_i hh
   obtain ⟨s,r2,h2,h⟩:=bind_ok.1 h;obtain ⟨ss,r3,h3,h⟩:=bind_ok.1 h;injection h with h4 h5
   subst h4 h5;exact ((Suf.hd hh (by simp)).trans ((Suf.name h2).trans (Av n _ _ _ h3))).le (by simp;omega)
  ·obtain ⟨_,r1,h1,h⟩:=bind_ok.1 h
   injection h with h4 h5
   subst h4 h5;exact (Suf.want (by simp) h1).le (by simp)
end Uw.Tryz
namespace Uw.Tryz
open Go Uw
theorem Qi (b:Nat) {res:List gB} {x:Out} {v:V} {bs' : List Blk} {vs' : List V} {st:St} (hx:x = .ok v bs') (hd:st.defers=[]) (hr:resV st res=some vs') (hw:Weak ⟨[(0,mD vs')],st.heap,st.next,[],b⟩ ⟨[(0,v)],bn 0 bs',bs'.length,[],b⟩):WT P0 (OQ b res x) (.done .normal st):=by
 subst hx;exact c9 b hd hr hw
def fnB (f:Str) (v:V):List Blk:=[.var [.ptr 0 0],.var [.d (.str f),v,.d (I 0)]]
def G8 (l:List Tok) (ns:List Nod) (f:Str) (x:R (List Str)):Out:=
 match x with
 | .ok ar r=>.ok (.tuple []) (rdN l (l.length - r.length) ns++fnB f (.d (jG ar)))
 | .bad=>.bad
 | .out=>.out
theorem Qj {l:List Tok} {ns:List Nod} {f:Str} {x:R (List Str)} (h:x≠R.out):G8 l ns f x≠Out.out:=by
 cases x with
 | out=>exact absurd rfl h
 | bad=>intro h;cases h
 | ok e r=>intro h;cases h
theorem Qk (l:List Tok) (hl:l.length<1000000) (n:Nat) (k:Nat) (ns:List Nod) (f:Str) (hk:k<=l.length) (hn:ns.length<=k):cT mM [.ptr 0 0,.func bO [] [.ptr 3 0,.ptr 2 0]] (rdN l k ns++fnB f (.d .nil)) (G8 l ns f (iW n (l.drop k))):=by
 rw [iW];by_cases h3:hd (l.drop k)=[40]
 rotate_left
 ·have w1:=aY l k (ns.map bR) hk hl [40] (by simp) h3
  rw [want,if_neg h3];clear h3;refine aL cw rfl ?_
  repeat' first|refine aw ?_|refine bw (fun _=>?_) fun _=>?_
  refine bg 4 [0,1] w1 ?_;intro H q
  repeat' first|refine aw ?_|refine bw (fun _=>?_) fun _=>?_
  exact aM rfl
 have hlt2:=d6 h3 (by simp);have w1:=aN l k (ns.map bR) hk hl [40] (by simp) h3;have hv:=bH l (k+1) (ns.map bR) hlt2 hl [41] (by simp);rw [want,if_pos h3,XC];clear h3;show cT _ _ _ (G8 l ns f (if hd (l.drop (k+1))=[41] then R.ok [] (l.drop (k+1)).tail else _));by_cases h4:hd (l.drop (k+1))=[41]
 ·have hlt3:=d6 h4 (by simp)
  rw [if_pos h4,XC];rw [if_pos h4,decide_eq_true h4] at hv;clear h4;show bh _ _ _ _ (.tuple []) (rdN l (l.length - (l.drop (k+1+1)).length) ns++fnB f (.d .nil));rw [len_drop (by omega)];refine aF cw rfl ?_
  repeat' first|refine aw ?_|refine bw (fun _=>?_) fun _=>?_
  refine ae 4 [0,1] w1 ?_
  repeat' first|refine aw ?_|refine bw (fun _=>?_) fun _=>?_
  refine ae 4 [0,1] hv ?_
  repeat' first|refine aw ?_|refine bw (fun _=>?_) fun _=>?_
  exact aE 4 rfl rfl (by exact Uw.wW)
 rw [if_neg h4];rw [if_neg h4,decide_eq_false h4] at hv
 rcases dV l (k+1) (ns.map bR) hlt2 hl with ⟨h5,h6⟩|⟨p,h5,hlt3,h6⟩
 ·rw [h5]
  have a1:=EM l (k+1) ns f h6;clear h4;refine aL cw rfl ?_
  repeat' first|refine aw ?_|refine bw (fun _=>?_) fun _=>?_
  refine ae 4 [0,1] w1 ?_
  repeat' first|refine aw ?_|refine bw (fun _=>?_) fun _=>?_
  refine ae 4 [0,1] hv ?_
  repeat' first|refine aw ?_|refine bw (fun _=>?_) fun _=>?_
  refine bg 4 [0,1,2,3] a1 ?_;intro H q
  repeat' first|refine aw ?_|refine bw (fun _=>?_) fun _=>?_
  exact aM rfl
 rw [h5];have a1:=EL l (k+1) _ ns f p h6;show cT _ _ _ (G8 l ns f ((cm n (l.drop (k+1+1))).bind fun es r=>R.ok ([p]++es) r));generalize hR:((cm n (l.drop (k+1+1))).bind fun es r=>R.ok ([p]++es) r)=Rr;by_cases hout:Rr = .out
 ·rw [hout];exact trivial
 clear h4 h5;refine sQ cw rfl (Qj hout) ?_
 repeat' first|refine aw ?_|refine bw (fun _=>?_) fun _=>?_
 refine ae 4 [0,1] w1 ?_
 repeat' first|refine aw ?_|refine bw (fun _=>?_) fun _=>?_
 refine ae 4 [0,1] hv ?_
 repeat' first|refine aw ?_|refine bw (fun _=>?_) fun _=>?_
 refine ae 4 [0,1,2,3] a1 ?_
 repeat' first|refine aw ?_|refine bw (fun _=>?_) fun _=>?_
 refine dK (fun ((d,k1,m):List Str×Nat×Nat)=>⟨[(0,.ptr 0 0),(1,V.func bO [] [V.ptr 3 0,V.ptr 2 0])],bn 0 (rdN l k1 ns++[.var [.ptr 0 0],.var [.d (.str f),.ref 4 0 0 (kQ d).length,.d (I 0)],.arr 1 (kQ d)]),5,[],4⟩)
  (fun (d,k1,m)=>((cm m (l.drop k1)).bind fun es r=>R.ok (d++es) r)=Rr/\m<=n/\k1<=l.length/\k<=k1/\d.length<=k1/\d≠[]) (fun (_,_,m)=>m) ([p],k+1+1,n) (by exact Uw.wW) ⟨hR,Xn _,hlt3,by omega,by simp,by simp⟩ ?_
 clear hR h6 a1 w1 hv;rintro ⟨d,k1,m⟩ ⟨hR,hm,hk1,hk2,hd1,hd0⟩
 cases m with
 | zero=>rw [cm] at hR;exact absurd hR.symm hout
 | succ m=>
  rw [cm] at hR;have hv:=bH l k1 (ns.map bR) hk1 hl [44] (by simp);by_cases hs:hd (l.drop k1)=[44]
  ·have hlt:=d6 hs (by simp)
   rw [if_pos hs,XC] at hR;rw [if_pos hs,decide_eq_true hs] at hv
   rcases dV l (k1+1) (ns.map bR) (by omega) hl with ⟨h0,h1⟩|⟨y,h0,hlt4,h1⟩
   ·rw [h0] at hR
    have hb:G8 l ns f Rr = .bad:=by rw [<- hR];rfl
    have a1:=G7 l (k1+1) ns f d h1;clear hR hout hs h0 h1 hd0
    repeat' first|refine aw ?_|refine bw (fun _=>?_) fun _=>?_
    refine ae 5 [0,1] hv ?_
    repeat' first|refine aw ?_|refine bw (fun _=>?_) fun _=>?_
    refine bg 5 [0,1,2,3,4] a1 ?_;intro h q
    repeat' first|refine aw ?_|refine bw (fun _=>?_) fun _=>?_
    exact mF (lW 4 hb rfl)
   ·rw [h0] at hR
    have hR:((cm m (l.drop (k1+1+1))).bind fun es r=>R.ok ((d++[y])++es) r)=Rr:=by
     rw [<- hR];show _=R.bind (R.bind (cm m (l.drop (k1+1+1))) _) _
     cases cm m (l.drop (k1+1+1)) with
     | ok es r=>show R.ok (d++[y]++es) r=R.ok (d++(y::es)) r;rw [XH];rfl
     | bad=>rfl
     | out=>rfl
    have a1:=G6 l (k1+1) _ ns f y d (by omega) h1;have hd2:(d++[y])≠[]:=by simp
    clear hout hs h0 h1 hd0
    repeat' first|refine aw ?_|refine bw (fun _=>?_) fun _=>?_
    refine ae 5 [0,1] hv ?_
    repeat' first|refine aw ?_|refine bw (fun _=>?_) fun _=>?_
    refine ae 5 [0,1,2,3,4] a1 ?_
    repeat' first|refine aw ?_|refine bw (fun _=>?_) fun _=>?_
    exact cM (d++[y],k1+1+1,m) ⟨hR,by omega,hlt4,by omega,by simp;omega,hd2⟩ (by simp only;omega) (by exact Uw.wW)
  ·rw [if_neg hs] at hR
   rw [if_neg hs,decide_eq_false hs] at hv;by_cases hw:hd (l.drop k1)=[41]
   ·have hlt:=d6 hw (by simp)
    have w1:=aN l k1 (ns.map bR) hk1 hl [41] (by simp) hw;rw [want,if_pos hw,XC] at hR;have hR:R.ok (d++[]) (l.drop (k1+1))=Rr:=hR;rw [X4] at hR;have hfz:((kQ d).drop 0).take (kQ d).length=kQ d:=by simp
    have hb:G8 l ns f Rr = .ok (.tuple []) (rdN l (k1+1) ns++fnB f (.d (.slice 1 (kQ d) false))):=by
     rw [<- hR];show Out.ok _ (rdN l (l.length - (l.drop (k1+1)).length) _++fnB f (.d (jG d)))=_;rw [len_drop (by omega)];unfold jG;rw [if_neg hd0]
    clear hR hout hs hw hd0
    repeat' first|refine aw ?_|refine bw (fun _=>?_) fun _=>?_
    refine ae 5 [0,1] hv ?_
    repeat' first|refine aw ?_|refine bw (fun _=>?_) fun _=>?_
    refine aH ?_;refine ae 5 [0,1] w1 ?_
    repeat' first|refine aw ?_|refine bw (fun _=>?_) fun _=>?_
    exact Qi 4 hb rfl rfl (by exact Uw.wW)
   ·have w1:=aY l k1 (ns.map bR) hk1 hl [41] (by simp) hw
    have hb:G8 l ns f Rr = .bad:=by
     rw [want,if_neg hw] at hR;rw [<- hR];rfl
    clear hR hout hs hw hd0
    repeat' first|refine aw ?_|refine bw (fun _=>?_) fun _=>?_
    refine ae 5 [0,1] hv ?_
    repeat' first|refine aw ?_|refine bw (fun _=>?_) fun _=>?_
    refine aH ?_;refine bg 5 [0,1] w1 ?_;intro h q
    repeat' first|refine aw ?_|refine bw (fun _=>?_) fun _=>?_
    exact lW 4 hb rfl
end Uw.Tryz
namespace Uw.Tryz
open Go Uw
theorem Wi {f:Str} {vs:List V} {g:FuncId} {l:List Tok} {k:Nat} {ns:List Nod} {bs:List Blk} {x:R (List Str)} (h:cT g vs bs (G8 l ns f x)) (hk:k<=l.length) (hs:∀e r,x = .ok e r->Suf (l.drop k) r 0) :
  x = .out\/(x = .bad/\ku P0 g vs bs cP)\/∃e k',x = .ok e (l.drop k')/\k'<=l.length/\k<=k'/\bh P0 g vs bs (.tuple []) (rdN l k' ns++fnB f (.d (jG e))):=by
 cases x with
 | out=>exact .inl rfl
 | bad=>exact .inr (.inl ⟨rfl,h⟩)
 | ok e r=>
  obtain ⟨k',h1,rfl,h2⟩:=si (hs e r rfl) hk;refine .inr (.inr ⟨e,k',rfl,h1,h2,?_⟩);have h:bh P0 g vs bs (.tuple []) (rdN l (l.length - (l.drop k').length) ns++fnB f (.d (jG e))):=h;rw [len_drop h1] at h;exact h
theorem KR {n:Nat} {r r' : List Tok} {x:List Str} (h:iW n r = .ok x r'):Suf r r' 0:=by
 rw [iW] at h;obtain ⟨_,r1,h1,h⟩:=bind_ok.1 h;have s1:=Suf.want (by simp) h1
 split at h
 ·rename_i hh
  injection h with _ h
  subst h;exact (s1.trans (Suf.hd hh (by simp))).le (Yy _)
 ·obtain ⟨s,r2,h2,h⟩:=bind_ok.1 h
  obtain ⟨ss,r3,h3,h⟩:=bind_ok.1 h;injection h with _ h
  subst h;exact (s1.trans ((Suf.name h2).trans (Av n _ _ _ h3))).le (Yy _)
theorem Vn (l:List Tok) (hl:l.length<1000000) (n:Nat) (k:Nat) (ns:List Nod) (hk:k<=l.length) (hn:ns.length<=k):cT jc [.ptr 0 0] (rdN l k ns) (NN l ns (kY n (l.drop k))):=by
 rw [kY];by_cases h0:hd (l.drop k)=iu
 rotate_left
 ·rw [want,if_neg h0]
  have w0:=aY l k (ns.map bR) hk hl iu (by decide) h0;clear h0;refine aL cX rfl ?_
  repeat refine aw ?_
  refine bg 4 [0,1] w0 ?_;intro H q
  repeat refine aw ?_
  exact aM rfl
 have hlt:=d6 h0 (by decide);have w0:=aN l k (ns.map bR) hk hl iu (by decide) h0;rw [want,if_pos h0,XC];clear h0;show cT _ _ _ (NN l ns ((dW (l.drop (k+1))).bind _))
 rcases dV l (k+1) (ns.map bR) hlt hl with ⟨h1,h2⟩|⟨f,h1,hlt1,h2⟩
 ·rw [h1]
  refine aL cX rfl ?_
  repeat refine aw ?_
  refine ae 4 [0,1] w0 ?_
  repeat refine aw ?_
  refine bg 4 [0,1] h2 ?_;intro H q
  repeat refine aw ?_
  exact aM rfl
 rw [h1];show cT _ _ _ (NN l ns ((iW n (l.drop (k+1+1))).bind fun ar r=>(ck n r).bind fun b r=>.ok ⟨f,ar,b⟩ r))
 rcases Wi (Qk l hl n (k+1+1) ns f hlt1 (by omega)) hlt1 (fun e r h=>KR h) with h3|⟨h3,h4⟩|⟨ar,k2,h3,hk2,Vm,h4⟩
 ·rw [h3];exact trivial
 ·rw [h3]
  refine aL cX rfl ?_
  repeat refine aw ?_
  refine ae 4 [0,1] w0 ?_
  repeat refine aw ?_
  refine ae 4 [0,1] h2 ?_
  repeat refine aw ?_
  refine bg 5 [0,1,2,4] h4 ?_;intro H q
  repeat refine aw ?_
  exact aM rfl
 rw [h3];show cT _ _ _ (NN l ns ((ck n (l.drop k2)).bind fun b r=>.ok ⟨f,ar,b⟩ r))
 rcases Qf ((cs l hl n n (Xn _)).block k2 ns hk2 (by omega)) hk2 (fun e r h=>(o4 n).block _ _ _ h) with h5|⟨h5,h6⟩|⟨b,k3,h5,hk3,G4,h6⟩
 ·rw [h5];exact trivial
 ·rw [h5]
  refine aL cX rfl ?_
  repeat refine aw ?_
  refine ae 4 [0,1] w0 ?_
  repeat refine aw ?_
  refine ae 4 [0,1] h2 ?_
  repeat refine aw ?_
  refine ae 5 [0,1,2,4] h4 ?_
  repeat refine aw ?_
  refine bg 5 [0,1] h6 ?_;intro h q
  repeat refine aw ?_
  exact aM rfl
 rw [h5];show bh _ _ _ _ (.agg [.d (.str f),.d (jG ar),.d (I ((ns.length+b.sz:Nat)))]) (rdN l (l.length - (l.drop k3).length) (ns++b.all ns.length));rw [len_drop hk3];have hz:jG ar = .nil\/jG ar = .slice 1 (kQ ar) false:=by
  unfold jG
  split
  ·exact .inl rfl
  ·exact .inr rfl
 rcases hz with e|e
 all_goals rw [e] at h4 ⊢
 all_goals refine aF cX rfl ?_
 all_goals (repeat' first|refine aw ?_|refine bw (fun _=>?_) fun _=>?_)
 all_goals refine ae 4 [0,1] w0 ?_
 all_goals (repeat' first|refine aw ?_|refine bw (fun _=>?_) fun _=>?_)
 all_goals refine ae 4 [0,1] h2 ?_
 all_goals (repeat' first|refine aw ?_|refine bw (fun _=>?_) fun _=>?_)
 all_goals refine ae 5 [0,1,2,4] h4 ?_
 all_goals (repeat' first|refine aw ?_|refine bw (fun _=>?_) fun _=>?_)
 all_goals refine ae 5 [0,1] h6 ?_
 all_goals (repeat' first|refine aw ?_|refine bw (fun _=>?_) fun _=>?_)
 all_goals exact aE 2 rfl rfl (by exact Uw.wW)
end Uw.Tryz
namespace Uw.Tryz
open Go Uw
def fV:List Fn->Nat->List (List Dat)
 | [],_=>[]
 | f::fs,b=>[.str f.name,jG f.args,I ((b+f.body.sz:Nat))]::fV fs (b+f.sz)
theorem CW:∀(a c:List Fn) (b:Nat),fV (a++c) b=fV a b++fV c (b+dX a)
 | [],c,b=>by simp [fV,dX]
 | f::fs,c,b=>by simp [fV,dX,CW fs,Yj]
theorem sS:∀(a:List Fn) (b:Nat),(fV a b).length=a.length
 | [],b=>rfl
 | f::fs,b=>by simp [fV,sS fs]
def NP (l:List Tok) (x:R (List Dec×List Fn)):Out:=
 match x with
 | .ok (ds,fs) _=>.ok (.agg [.d (.slice 3 (ds.map cD) false),.d (.slice 3 (fV fs 0) false),.d (.slice 5 ((cr fs 0).map bR) false)]) (rdN l l.length (cr fs 0))
 | .bad=>.bad
 | .out=>.out
theorem Ql {l:List Tok} {x:R (List Dec×List Fn)} (h:x≠R.out):NP l x≠Out.out:=by
 cases x with
 | out=>exact absurd rfl h
 | bad=>intro h;cases h
 | ok e r=>intro h;cases h
theorem Wj {f:FuncId} {vs:List V} {l:List Tok} {k:Nat} {ns:List Nod} {x:R Dec} (h:cT f vs (rdN l k ns) (tu l ns x)) (hk:k<=l.length) (hs:∀e r,x = .ok e r->Suf (l.drop k) r 1) :
  x = .out\/(x = .bad/\ku P0 f vs (rdN l k ns) cP)\/∃e k',x = .ok e (l.drop k')/\k'<=l.length/\k+1<=k'/\bh P0 f vs (rdN l k ns) (G5 e) (rdN l k' ns):=by
 cases x with
 | out=>exact .inl rfl
 | bad=>exact .inr (.inl ⟨rfl,h⟩)
 | ok e r=>
  obtain ⟨k',h1,rfl,h2⟩:=si (hs e r rfl) hk;refine .inr (.inr ⟨e,k',rfl,h1,h2,?_⟩);have h:bh P0 f vs (rdN l k ns) (G5 e) (rdN l (l.length - (l.drop k').length) ns):=h;rw [len_drop h1] at h;exact h
theorem Wl {f:FuncId} {vs:List V} {l:List Tok} {k:Nat} {ns:List Nod} {x:R Fn} (h:cT f vs (rdN l k ns) (NN l ns x)) (hk:k<=l.length) (hs:∀e r,x = .ok e r->Suf (l.drop k) r (e.body.sz+1)) :
  x = .out\/(x = .bad/\ku P0 f vs (rdN l k ns) cP)\/∃e k',x = .ok e (l.drop k')/\k'<=l.length/\k+(e.body.sz+1)<=k'/\bh P0 f vs (rdN l k ns) (.agg [.d (.str e.name),.d (jG e.args),.d (I ((ns.length+e.body.sz:Nat)))]) (rdN l k' (ns++e.body.all ns.length)):=by
 cases x with
 | out=>exact .inl rfl
 | bad=>exact .inr (.inl ⟨rfl,h⟩)
 | ok e r=>
  obtain ⟨k',h1,rfl,h2⟩:=si (hs e r rfl) hk;refine .inr (.inr ⟨e,k',rfl,h1,h2,?_⟩);have h:bh P0 f vs (rdN l k ns) (.agg [.d (.str e.name),.d (jG e.args),.d (I ((ns.length+e.body.sz:Nat)))]) (rdN l (l.length - (l.drop k').length) (ns++e.body.all ns.length)):=h;rw [len_drop h1] at h;exact h
theorem G9 {α:Type} {d:Int} {p q:List Tok->R α} (hp:IsP d p q) (he:vn p) {r r' : List Tok} {a:α} (h:p r = .ok a r'):Suf r r' 1:=by
 obtain ⟨c,rfl⟩:=hp.pre _ _ _ h;have:=he _ _ _ h;simp at this;exact ⟨c.length,by simp,by simp,by cases c<;>simp at *⟩
theorem Qm {n:Nat} {r r' : List Tok} {f:Fn} (h:kY n r = .ok f r'):Suf r r' (f.body.sz+1):=by
 rw [kY] at h;obtain ⟨_,r1,h1,h⟩:=bind_ok.1 h;obtain ⟨s,r2,h2,h⟩:=bind_ok.1 h;obtain ⟨l,r3,h3,h⟩:=bind_ok.1 h;obtain ⟨b,r4,h4,h⟩:=bind_ok.1 h;injection h with h h'
 subst h h';have:Suf r2 r3 0:=by
  obtain ⟨c,rfl⟩:=(l8 n).pre _ _ _ h3;exact ⟨c.length,by simp,by simp,Yy _⟩
 exact ((Suf.want (by decide) h1).trans ((Suf.name h2).trans (this.trans ((o4 n).block _ _ _ h4)))).le (by simp only;omega)
theorem Tm (l:List Tok) (hl:l.length<1000000) (n:Nat):cT en [.ptr 0 0] (rdN l 0 []) (NP l (vf n l)):=by
 rw [vf];generalize hR:((fq n l).bind fun d r=>(gm n r).bind fun f r=>R.ok (d,f) r)=Rr;by_cases hout:Rr = .out
 ·rw [hout];exact trivial
 have hR:((fq n (l.drop 0)).bind fun es r=>R.ok (([]:List Dec)++es) r).bind (fun d r=>(gm n r).bind fun f r=>R.ok (d,f) r)=Rr:=by
  rw [<- hR,XX]
  cases fq n l<;>rfl
 refine sQ o7 rfl (Ql hout) ?_
 repeat refine aw ?_
 refine dK (fun ((ds,k,m):List Dec×Nat×Nat)=>⟨[(3,.ptr 3 0),(2,.ptr 2 0),(0,.ptr 0 0)],bn 0 (rdN l k []++[.var [.d .nil,.d .nil,.d .nil],.var [.ref 4 0 0 (ds.map cD).length,.d .nil,.d .nil],.arr 3 (ds.map cD)]),5,[],2⟩)
  (fun (ds,k,m)=>((fq m (l.drop k)).bind fun es r=>R.ok (ds++es) r).bind (fun d r=>(gm n r).bind fun f r=>R.ok (d,f) r)=Rr/\k<=l.length/\ds.length<=k) (fun (_,_,m)=>m) ([],0,n) (by exact Uw.wW) ⟨hR,Yy _,Xn _⟩ ?_
 clear hR;rintro ⟨ds,k,m⟩ ⟨hR,hk,hds⟩;have hdl:(ds.map cD).length=ds.length:=by simp
 cases m with
 | zero=>rw [fq] at hR;exact absurd hR.symm hout
 | succ m=>
  have pk:=bM l k (([]:List Nod).map bR) hk;have e1:(l.map rz).length=l.length:=by simp
  by_cases hs:l.drop k=[]\/hd (l.drop k)=iu
  ·rw [fq,if_pos hs] at hR
   have hR:((gm n (l.drop k)).bind fun es r=>R.ok (([]:List Fn)++es) r).bind (fun f r=>R.ok (ds,f) r)=Rr:=by
    rw [<- hR];show _=(gm n (l.drop k)).bind fun f r=>R.ok (ds++[],f) r;rw [X4]
    cases gm n (l.drop k)<;>rfl
   have hcase:(k<l.length/\hd (l.drop k)=iu)\/¬k<l.length:=by
    by_cases hk2:k<l.length
    ·exact .inl ⟨hk2,hs.resolve_left (by intro e;have:=congrArg List.length e;simp at this;omega)⟩
    ·exact .inr hk2
   clear hs
   rcases hcase with ⟨hk0,hs2⟩|hk0
   rotate_left
   repeat refine aw ?_
   refine aH ?_
   repeat refine aw ?_
   rotate_left;rw [hs2] at pk
   repeat refine aw ?_
   refine ae 5 [0,1] pk ?_
   repeat refine aw ?_
   refine aH ?_
   repeat refine aw ?_
   all_goals clear hk0
   all_goals
    refine dK (fun ((fs,k,m):List Fn×Nat×Nat)=>⟨[(3,.ptr 3 0),(2,.ptr 2 0),(0,.ptr 0 0)],bn 0 (rdN l k (cr fs 0)++[.var [.d .nil,.d .nil,.d .nil],.var [.ref 4 0 0 (ds.map cD).length,.ref 5 0 0 (fV fs 0).length,.d .nil],.arr 3 (ds.map cD),.arr 3 (fV fs 0)]),6,[],2⟩)
     (fun (fs,k,m)=>((gm m (l.drop k)).bind fun es r=>R.ok (fs++es) r).bind (fun f r=>R.ok (ds,f) r)=Rr/\k<=l.length/\fs.length+dX fs<=2 * k/\dX fs<=k) (fun (_,_,m)=>m) ([],k,n) (by exact Uw.wW) ⟨hR,hk,by simp [dX],by simp [dX]⟩ ?_
    clear hR;rintro ⟨fs,k,m⟩ ⟨hR,hk,hfs,hsz⟩;have hfl:(fV fs 0).length=fs.length:=sS fs 0;have hnl:(cr fs 0).length=dX fs:=qa fs 0
    cases m with
    | zero=>rw [gm] at hR;exact absurd hR.symm hout
    | succ m=>
     by_cases hk2:k<l.length
     ·rw [gm,if_neg (by intro e;have:=congrArg List.length e;simp at this;omega)] at hR
      rcases Wl (Vn l hl m k (cr fs 0) hk (by omega)) hk (fun e r h=>Qm h) with h0|⟨h0,h1⟩|⟨f,k2,h0,hk3,G4,h1⟩
      ·rw [h0] at hR;exact absurd hR.symm hout
      ·rw [h0] at hR
       have hb:NP l Rr = .bad:=by rw [<- hR];rfl
       clear hR hout h0
       repeat refine aw ?_
       refine oS ?_
       repeat refine aw ?_
       refine bg 6 [0,1] h1 ?_;intro H q
       repeat refine aw ?_
       refine aX ⟨cP,rfl,?_⟩
       repeat refine aw ?_
       exact mF (lW 2 hb rfl)
      ·rw [h0] at hR
       have hR:((gm m (l.drop k2)).bind fun es r=>R.ok ((fs++[f])++es) r).bind (fun f r=>R.ok (ds,f) r)=Rr:=by
        rw [<- hR];show _=R.bind (R.bind (R.bind (gm m (l.drop k2)) _) _) _
        cases gm m (l.drop k2) with
        | ok es r=>show R.bind (R.ok (fs++[f]++es) r) _=R.bind (R.ok (fs++(f::es)) r) _;rw [XH];rfl
        | bad=>rfl
        | out=>rfl
       have hsf:dX (fs++[f])=dX fs+(f.body.sz+1):=by rw [CG];simp [dX,Fn.sz]
       have hnn:cr fs 0++f.body.all (cr fs 0).length=cr (fs++[f]) 0:=by rw [uk,hnl];simp [cr]
       have hff:fV fs 0++[[.str f.name,jG f.args,I (((cr fs 0).length+f.body.sz:Nat))]]=fV (fs++[f]) 0:=by rw [CW,hnl];simp [fV]
       have hfn:(fV fs 0).length+1=(fV (fs++[f]) 0).length:=by rw [sS,sS];simp
       rw [hnn] at h1;have hz:jG f.args = .nil\/jG f.args = .slice 1 (kQ f.args) false:=by
        unfold jG
        split
        ·exact .inl rfl
        ·exact .inr rfl
       clear hout h0 hnn
       rcases hz with e|e
       all_goals rw [e] at h1 hff
       all_goals (repeat' first|refine aw ?_|refine bw (fun _=>?_) fun _=>?_)
       all_goals refine bW ⟨[(3,.ptr 3 0),(2,.ptr 2 0),(0,.ptr 0 0)],bn 0 (rdN l k2 (cr (fs++[f]) 0)++[.var [.d .nil,.d .nil,.d .nil],.var [.ref 4 0 0 (ds.map cD).length,.ref 5 0 0 (fV (fs++[f]) 0).length,.d .nil],.arr 3 (ds.map cD),.arr 3 (fV (fs++[f]) 0)]),6,[],2⟩ ?_ ?_
       any_goals
        repeat refine aw ?_
        refine ae 6 [0,1] h1 ?_
        repeat refine aw ?_
        exact aX (.inl ⟨rfl,by exact Uw.wW⟩)
       all_goals (repeat' first|refine aw ?_|refine bw (fun _=>?_) fun _=>?_)
       all_goals exact cM (fs++[f],k2,m) ⟨hR,hk3,by rw [hsf];simp;omega,by omega⟩ (by simp only;omega) (by exact Uw.wW)
     ·rw [X8 (by omega),gm,if_pos rfl] at hR
      have hR:R.ok (ds,fs++[]) []=Rr:=hR;rw [X4] at hR;have hkl:k=l.length:=by omega
      have hb:NP l Rr = .ok (.agg [.d (.slice 3 (ds.map cD) false),.d (.slice 3 (fV fs 0) false),.d (.slice 5 ((cr fs 0).map bR) false)]) (rdN l l.length (cr fs 0)):=by rw [<- hR];rfl
      have z1:((ds.map cD).drop 0).take (ds.map cD).length=ds.map cD:=by rw [XX,XE]
      have z2:((fV fs 0).drop 0).take (fV fs 0).length=fV fs 0:=by rw [XX,XE]
      have z3:(((cr fs 0).map bR).drop 0).take ((cr fs 0).map bR).length=(cr fs 0).map bR:=by rw [XX,XE]
      clear hR hout;subst hkl
      repeat refine aw ?_
      refine aH ?_
      repeat refine aw ?_
      exact wb 2 hb rfl rfl (by exact Uw.wW)
  ·rw [fq,if_neg hs] at hR
   have hk2:k<l.length:=by
    rcases XR k l.length with h|h
    ·exact h
    ·exact absurd (.inl (X8 h)) hs
   have hs2:hd (l.drop k)≠iu:=fun h=>hs (.inr h);clear hs;unfold iu at hs2
   rcases Wj (Tj l hl k [] hk) hk (fun e r h=>G9 zu sE h) with h0|⟨h0,h1⟩|⟨d,k2,h0,hk3,G4,h1⟩
   ·exact absurd h0 (Jf _)
   ·rw [h0] at hR
    have hb:NP l Rr = .bad:=by rw [<- hR];rfl
    clear hR hout h0
    repeat refine aw ?_
    refine ae 5 [0,1] pk ?_
    repeat refine aw ?_
    refine oS ?_
    repeat refine aw ?_
    refine bg 5 [0,1] h1 ?_;intro H q
    repeat refine aw ?_
    refine aX ⟨cP,rfl,?_⟩
    repeat refine aw ?_
    exact mF (lW 2 hb rfl)
   ·rw [h0] at hR
    have hR:((fq m (l.drop k2)).bind fun es r=>R.ok ((ds++[d])++es) r).bind (fun d r=>(gm n r).bind fun f r=>R.ok (d,f) r)=Rr:=by
     rw [<- hR];show _=R.bind (R.bind (R.bind (fq m (l.drop k2)) _) _) _
     cases fq m (l.drop k2) with
     | ok es r=>show R.bind (R.ok (ds++[d]++es) r) _=R.bind (R.ok (ds++(d::es)) r) _;rw [XH];rfl
     | bad=>rfl
     | out=>rfl
    have hdr:ds.map cD++[cD d]=(ds++[d]).map cD:=by simp
    have hdn:(ds.map cD).length+1=((ds++[d]).map cD).length:=by simp
    clear hout h0
    repeat refine aw ?_
    refine ae 5 [0,1] pk ?_
    repeat refine aw ?_
    refine bW ⟨[(3,.ptr 3 0),(2,.ptr 2 0),(0,.ptr 0 0)],bn 0 (rdN l k2 []++[.var [.d .nil,.d .nil,.d .nil],.var [.ref 4 0 0 ((ds++[d]).map cD).length,.d .nil,.d .nil],.arr 3 ((ds++[d]).map cD)]),5,[],2⟩ ?_ ?_
    ·repeat refine aw ?_
     refine ae 5 [0,1] h1 ?_
     repeat refine aw ?_
     exact aX (.inl ⟨rfl,by exact Uw.wW⟩)
    ·repeat refine aw ?_
     exact cM (ds++[d],k2,m) ⟨hR,hk3,by simp;omega⟩ (by simp only;omega) (by exact Uw.wW)
end Uw.Tryz
namespace Uw.Tryz
open Go Uw
theorem He (s:Str):(s=[40]/\delta s=1)\/(s≠[40]/\s=[123]/\delta s=1)\/(s≠[40]/\s≠[123]/\s=[41]/\delta s = -1)\/(s≠[40]/\s≠[123]/\s≠[41]/\s=[125]/\delta s = -1)\/(s≠[40]/\s≠[123]/\s≠[41]/\s≠[125]/\delta s=0):=by
 unfold delta;by_cases h1:s=[40]
 ·subst h1;exact .inl ⟨rfl,by decide⟩
 ·by_cases h2:s=[123]
  ·subst h2;exact .inr (.inl ⟨h1,rfl,by decide⟩)
  ·by_cases h3:s=[41]
   ·subst h3;exact .inr (.inr (.inl ⟨h1,h2,rfl,by decide⟩))
   ·by_cases h4:s=[125]
    ·subst h4;exact .inr (.inr (.inr (.inl ⟨h1,h2,h3,rfl,by decide⟩)))
    ·exact .inr (.inr (.inr (.inr ⟨h1,h2,h3,h4,by simp [h1,h2,h3,h4]⟩)))
theorem NQ (a b:Int):max a b=mmI true a b:=rfl
theorem CX (a b:Int):a<=mmI true a b/\b<=mmI true a b/\(mmI true a b=a\/mmI true a b=b):=by
 rw [<- NQ];omega
theorem oG (l:List Tok) (hl:l.length<1000000):Ret P0 tI [vd l] (I (mJ l 0 0)):=by
 have hm:(l.map rz).length=l.length:=by simp
 generalize hD:mJ l 0 0=D;refine bf zB rfl ?_
 repeat refine aw ?_
 refine dK (fun ((j,d,m):Nat×Int×Int)=>⟨[(9,.d (I j)),(8,.d (I (↑(List.map rz l).length))),(7,.d (vd l)),(4,.d (I m)),(3,.d (I d))],[],0,[],0⟩)
  (fun (j,d,m)=>j<=l.length/\mJ (l.drop j) d m=D/\- (j:Int)<=d/\d<=j/\0<=m/\m<=j) (fun (j,_,_)=>l.length - j) (0,0,0) (by exact Uw.wW) ⟨Yy _,hD,by simp,by simp,by simp,by simp⟩ ?_
 clear hD;rintro ⟨j,d,m⟩ ⟨hj,hD,h1,h2,h3,h4⟩;by_cases h:j<l.length
 ·rw [XY h,mJ] at hD
  generalize hx:l[j]=x at *;obtain ⟨k,s,n,a⟩:=x;have he:(l.map rz)[((j:Int)).toNat]? = some [I k,.str s,I n,I a]:=by
   rw [show ((j:Int)).toNat=j by omega,DF _ _ _ h,hx];rfl
  have hD:mJ (l.drop (j+1)) (d+delta s) (max m (d+delta s))=D:=hD
  rcases He s with ⟨e1,e2⟩|⟨e0,e1,e2⟩|⟨e0,e3,e1,e2⟩|⟨e0,e3,e4,e1,e2⟩|⟨e0,e3,e4,e5,e2⟩
  all_goals rw [e2,NQ] at hD
  all_goals try rw [show d + -1=d - 1 by omega] at hD
  all_goals try rw [Int.add_zero] at hD
  all_goals (repeat' first|refine aw ?_|refine bw (fun _=>?_) fun _=>?_)
  all_goals first|exact cM (j+1,_,_) ⟨by omega,hD,by omega,by omega,by have:=CX m (d+1);have:=CX m (d - 1);have:=CX m d;omega,by have:=CX m (d+1);have:=CX m (d - 1);have:=CX m d;omega⟩ (by simp only;omega) (by exact Uw.wW)
 ·rw [X8 (by omega),mJ] at hD
  subst hD
  repeat refine aw ?_
  refine aH ?_
  repeat refine aw ?_
  exact aC rfl rfl rfl rfl rfl
end Uw.Tryz
namespace Uw.Tryz
open Go Uw
def Wm (x:List Dec×List Fn):Dat:=.agg [.slice 3 (x.1.map cD) false,.slice 3 (fV x.2 0) false,.slice 5 ((cr x.2 0).map bR) false]
def noD:Dat:=.agg [.nil,.nil,.nil]
theorem Qn (h:Heap) (nx:Nat):DC P0 jy [.ptr 0 0,.ptr 1 0] h nx none (fun h' nx'=>h' = h/\nx' = nx):=by
 refine u5 tJ rfl ?_;refine L6 rfl ?_;exact aX ⟨.inl rfl,rfl,rfl,rfl⟩
theorem KT (a b c d:V) (nx:Nat):DC P0 jy [.ptr 0 0,.ptr 1 0] [(0,.var [a,b,c]),(1,.var [d])] nx (some cP) (fun h' nx'=>h' = (1,.var [.d (I 3)])::(0,.var [.d .nil,.d .nil,.d .nil])::[(0,.var [a,b,c]),(1,.var [d])]/\nx' = nx):=by
 refine u5 tJ rfl ?_;refine OV rfl ?_;exact aX ⟨.inl rfl,rfl,rfl,rfl⟩
theorem Aw (s:List UInt8) (hs:s.length<1000000) (l:List Tok) (e:Int) (hw:dA s=(l,e)) (he:e≠0):Ret P0 dR [.str s] (.tuple [noD,I e]):=by
 have h1:=nS s hs;rw [hw] at h1;refine ki nH rfl ?_
 repeat refine aw ?_
 refine bW ⟨[(3,.ptr 1 0),(2,.ptr 0 0)],[(1,.var [.d (I e)]),(0,.var [.d .nil,.d .nil,.d .nil])],2,[],0⟩ ?_ ?_
 ·repeat refine aw ?_
  exact aX (.inl ⟨rfl,by exact Uw.wW⟩)
 ·repeat refine aw ?_
  exact aX ⟨_,.inl rfl,.inl ⟨.inr rfl,rfl,_,_,rfl,rfl,rfl,rfl⟩⟩
theorem yn (s:List UInt8) (hs:s.length<1000000) (l:List Tok) (hl:l.length<1000000) (hw:dA s=(l,0)) (he:40<mJ l 0 0):Ret P0 dR [.str s] (.tuple [noD,I 2]):=by
 have h1:=nS s hs;have h2:=oG l hl;rw [hw] at h1;generalize mJ l 0 0=d at *;refine ki nH rfl ?_
 repeat refine aw ?_
 exact aX ⟨_,.inl rfl,.inl ⟨.inr rfl,rfl,_,_,rfl,rfl,rfl,rfl⟩⟩
theorem Ax (s:List UInt8) (hs:s.length<1000000) (l:List Tok) (hl:l.length<1000000) (hw:dA s=(l,0)) (he:mJ l 0 0<=40) (hb:ku P0 en [.ptr 0 0] (rdN l 0 []) cP):Ret P0 dR [.str s] (.tuple [noD,I 3]):=by
 have h1:=nS s hs;have h2:=oG l hl;rw [hw] at h1;generalize mJ l 0 0=d at *;refine ki nH rfl ?_
 repeat refine aw ?_
 refine PD 3 [2] hb ?_;intro h0 n0
 ·refine aX ⟨⟨[(2,.ptr 0 0),(3,.ptr 1 0)],[(0,.var [.d .nil,.d .nil,.d .nil]),(1,.var [.d (I 0)])],2,_,0⟩,.inr (Weak.rest ?_ ?_ rfl rfl rfl),.inr ⟨some cP,jy,[],[.ptr 0 0,.ptr 1 0],.inr ⟨_,rfl,rfl⟩,rfl,?_⟩⟩
  ·intro p hp
   simp only [XA,YJ,or_false] at hp
   rcases hp with rfl|rfl
   ·exact ⟨rfl,rfl,rfl⟩
   ·exact ⟨rfl,rfl,rfl⟩
  ·intro p hp
   simp only [XA,YJ,or_false] at hp
   rcases hp with rfl|rfl
   ·exact ⟨by decide,by decide,rfl,rfl,rfl,rfl⟩
   ·exact ⟨by decide,by decide,rfl,rfl,rfl,rfl⟩
  ·refine DC.mono (KT _ _ _ _ _) ?_
   rintro h' nx' ⟨rfl,rfl⟩;exact ⟨[.agg [.d .nil,.d .nil,.d .nil],.d (I 3)],_,rfl,rfl,rfl,rfl⟩
theorem Br (s:List UInt8) (hs:s.length<1000000) (l:List Tok) (hl:l.length<1000000) (hw:dA s=(l,0)) (he:mJ l 0 0<=40) (a b c:List (List Dat)) (ns:List Nod)
  (hb:bh P0 en [.ptr 0 0] (rdN l 0 []) (.agg [.d (.slice 3 a false),.d (.slice 3 b false),.d (.slice 5 c false)]) (rdN l l.length ns)):Ret P0 dR [.str s] (.tuple [.agg [.slice 3 a false,.slice 3 b false,.slice 5 c false],I 0]):=by
 have h1:=nS s hs;have h2:=oG l hl;rw [hw] at h1;generalize mJ l 0 0=d at *;refine ki nH rfl ?_
 repeat refine aw ?_
 refine ae 3 [2] hb ?_
 repeat refine aw ?_
 refine aX ⟨_,.inl rfl,.inr ⟨none,jy,[],[.ptr 0 0,.ptr 1 0],.inl ⟨.inr rfl,rfl⟩,rfl,?_⟩⟩;refine DC.mono (Qn _ _) ?_;rintro h' nx' ⟨rfl,rfl⟩;exact ⟨[.agg [.d (.slice 3 a false),.d (.slice 3 b false),.d (.slice 5 c false)],.d (I 0)],_,rfl,rfl,rfl,rfl⟩
def Rh (x:Pg×Int):Dat:=.tuple [pgD x.1,I x.2]
theorem Hf:∀(fs:List Fn) (b:Nat),A6 (fV fs b) ((mI fs b).map fuL)
 | [],b=>.refl _
 | f::fs,b=>by
  refine .cons (.cons (.refl _) (.cons ?_ (.refl _))) (Hf fs _);show DLe (jG f.args) (fS f.args);unfold jG
  split
  ·rename_i h;rw [h];exact .nil 1
  ·exact .refl _
theorem Tn {x:Nod} (h:x.kind=1\/x.kind=2\/x.kind=12->x.of=[]):DLe (ofD x.kind x.of) (cG (x.of.map fun (i:Nat)=>(i:Int))):=by
 have e:(x.of.map fun (i:Nat)=>[I i])=((x.of.map fun (i:Nat)=>(i:Int)).map fun i=>[I i]):=by simp
 unfold ofD cG
 split
 ·rename_i hk;rw [h hk];exact .nil 1
 ·split
  ·split
   ·rename_i h0;rw [h0];exact .nil 1
   ·rw [e];exact .refl _
  ·split
   ·rw [e];exact .refl _
   ·rw [e];exact .slice (.refl _)
def sk (l:List Nod):Prop:=∀x∈l,x.kind=1\/x.kind=2\/x.kind=12->x.of=[]
theorem sk.app {a b:List Nod} (h1:sk a) (h2:sk b):sk (a++b):=fun x hx=>(XG.1 hx).elim (h1 x) (h2 x)
theorem sk.one {x:Nod} (h:x.kind=1\/x.kind=2\/x.kind=12->x.of=[]):sk [x]:=fun y hy=>by simp at hy;subst hy;exact h
end Uw.Tryz
namespace Uw.Tryz
open Go Uw
mutual
theorem Ex.nq:∀(e:Ex) (b:Nat),e.good->sk (e.flat b)
 | .num _,b,_=>.one (fun _=>rfl)
 | .name _,b,_=>.one (fun _=>rfl)
 | .bin k x y,b,⟨hk,hx,hy⟩=>((x.nq b hx).app (y.nq _ hy)).app (.one (by simp only;omega))
 | .call o v ar,b,⟨_,_,h⟩=>(ar.nq b h).app (.one (by simp))
theorem Exs.nq:∀(e:Exs) (b:Nat),e.good->sk (e.flat b)
 | .nil,b,_=>by simp [sk,Exs.flat]
 | .cons e r,b,⟨h1,h2⟩=>(e.nq b h1).app (r.nq _ h2)
end
theorem Bl.sn {x:Bl} {b:Nat} (h:sk (x.flat b)):sk (x.all b):=h.app (.one (by simp))
mutual
theorem Stm.nq:∀(e:Stm) (b:Nat),e.good->sk (e.flat b)
 | .set s e,b,⟨_,h⟩=>(e.nq b h).app (.one (by simp))
 | .task par to f ar,b,⟨_,_,h,_⟩=>(ar.nq b h).app (.one (by simp only;split<;>omega))
 | .sync,b,_=>.one (fun _=>rfl)
 | .if1 e x,b,⟨h1,h2⟩=>((e.nq b h1).app (Bl.sn (x.nq _ h2))).app (.one (by simp))
 | .if2 e x y,b,⟨h1,h2,h3⟩=>(((e.nq b h1).app (Bl.sn (x.nq _ h2))).app (Bl.sn (y.nq _ h3))).app (.one (by simp))
 | .loop e x,b,⟨h1,h2⟩=>((e.nq b h1).app (Bl.sn (x.nq _ h2))).app (.one (by simp))
 | .one k e,b,⟨hk,h⟩=>(e.nq b h).app (.one (by simp only;omega))
 | .act o v ar,b,⟨_,_,h⟩=>((ar.nq b h).app (.one (by simp))).app (.one (by simp))
theorem Bl.nq:∀(e:Bl) (b:Nat),e.good->sk (e.flat b)
 | .nil,b,_=>by simp [sk,Bl.flat]
 | .cons e r,b,⟨h1,h2⟩=>(e.nq b h1).app (r.nq _ h2)
end
theorem xZ:∀(fs:List Fn) (b:Nat),(∀f∈fs,f.good)->sk (cr fs b)
 | [],b,_=>by simp [sk,cr]
 | f::fs,b,h=>(Bl.sn (f.body.nq b (h f (YL ..)).body)).app (xZ fs _ fun x hx=>h x (Yl _ hx))
theorem Hg:∀(l:List Nod),sk l->A6 (l.map bR) ((l.map Nod.nd).map ndL)
 | [],_=>.refl _
 | x::l,h=>.cons (.cons (.refl _) (.cons (.refl _) (.cons (.refl _) (.cons (.refl _) (.cons (Tn (h x (YL ..))) (.refl _)))))) (Hg l fun y hy=>h y (Yl _ hy))
theorem Tq {x:List Dec×List Fn} (h:∀f∈x.2,f.good):DLe (Wm x) (pgD (Kx x)):=
 .agg (.cons (.refl _) (.cons (.slice (Hf x.2 0)) (.cons (.slice (Hg _ (xZ x.2 0 h))) (.refl _))))
theorem Ri:DLe noD (pgD Bc):=.agg (.cons (.nil 3) (.cons (.nil 3) (.cons (.nil 5) (.refl _))))
theorem Az:∀(f:Nat) (r:List UInt8) (a:Int) (l:List Tok),kX f r a=some l->l.length<=r.length
 | 0,[],a,l,h=>by rw [kX] at h;injection h with h;subst h;simp
 | _+1,[],a,l,h=>by rw [kX] at h;injection h with h;subst h;simp
 | 0,c::t,a,l,h=>by unfold kX at h;cases h
 | f+1,c::t,a,l,h=>by
  rw [kX] at h
  split at h
  ·have:=Az f _ _ _ h
   simp;omega
  ·split at h
   ·cases h
   ·rename_i k n v ht
    rw [Xu] at h;obtain ⟨l',h1,rfl⟩:=h;have:=Az f _ _ _ h1;have:=fW ht;simp at *;omega
theorem AA (s:List UInt8):(dA s).1.length<=s.length:=by
 unfold dA
 split
 ·simp
 ·split
  ·simp
  ·rename_i l h
   exact Az _ _ _ _ h
theorem uI (s:List UInt8) (hs:s.length<1000000):Ret P0 dR [.str s] (Rh (ofR s)):=by
 have hno:∀e:Int,DLe (.tuple [noD,I e]) (.tuple [pgD Bc,I e]):=fun e=>.tuple (.cons Ri (.refl _));generalize hw:dA s=w;obtain ⟨l,e⟩:=w;have hl:l.length<1000000:=by
  have:=AA s;rw [hw] at this;simp only at this;omega
 unfold ofR;rw [hw];simp only;by_cases he:e≠0
 ·rw [if_pos he]
  exact (Aw s hs l e hw he).res (hno e)
 ·rw [if_neg he]
  have he:e=0:=Classical.byContradiction he;subst he;by_cases hd:40<mJ l 0 0
  ·rw [if_pos hd]
   exact (yn s hs l hl hw hd).res (hno 2)
  ·rw [if_neg hd]
   have hc:=Tm l hl (xK l);have Wn:=PH l;unfold xM
   cases hp:vf (xK l) l with
   | out=>exact absurd hp Wn
   | bad=>
    rw [hp] at hc;exact (Ax s hs l hl hw (by omega) hc).res (hno 3)
   | ok x r=>
    obtain ⟨ds,fs⟩:=x;rw [hp] at hc;refine (Br s hs l hl hw (by omega) _ _ _ (cr fs 0) hc).res ?_;refine .tuple (.cons (Tq (x:=(ds,fs)) ?_) (.refl _));have:=zy s;rw [hw] at this;exact ((Jh hp).good this).2
end Uw.Tryz
namespace Uw.Tryz
open Go Uw
def N9 (l:List Nod):Prop:=∀x∈l,x.kind=9->x.name≠[]
theorem N9.app {a b:List Nod} (h1:N9 a) (h2:N9 b):N9 (a++b):=fun x h=>(XG.1 h).elim (h1 x) (h2 x)
theorem N9.one {x:Nod} (h:x.kind=9->x.name≠[]):N9 [x]:=by intro a ha;simp at ha;subst ha;exact h
theorem NR {s:Str} (h:gG s):s≠[]:=fun e=>by
 subst e;have:=h.1;simp [M6,bz] at this
mutual
theorem Ex.n9:∀(e:Ex) (b:Nat),e.good->N9 (e.flat b)
 | .num _,b,_=>.one (fun h=>by simp at h)
 | .name _,b,_=>.one (fun h=>by simp at h)
 | .bin k x y,b,⟨hk,hx,hy⟩=>((x.n9 b hx).app (y.n9 _ hy)).app (.one (by simp only;omega))
 | .call o v ar,b,⟨_,_,h⟩=>(ar.n9 b h).app (.one (fun h=>by simp at h))
theorem Exs.n9:∀(e:Exs) (b:Nat),e.good->N9 (e.flat b)
 | .nil,b,_=>by simp [N9,Exs.flat]
 | .cons e r,b,⟨h1,h2⟩=>(e.n9 b h1).app (r.n9 _ h2)
end
theorem Bl.AB {x:Bl} {b:Nat} (h:N9 (x.flat b)):N9 (x.all b):=h.app (.one (fun h=>by simp at h))
mutual
theorem Stm.n9:∀(e:Stm) (b:Nat),e.good->N9 (e.flat b)
 | .set s e,b,⟨hs,h⟩=>(e.n9 b h).app (.one (fun _=>NR hs))
 | .task par to f ar,b,⟨_,_,h,_⟩=>(ar.n9 b h).app (.one (by simp only;split<;>omega))
 | .sync,b,_=>.one (fun h=>by simp at h)
 | .if1 e x,b,⟨h1,h2⟩=>((e.n9 b h1).app (Bl.AB (x.n9 _ h2))).app (.one (fun h=>by simp at h))
 | .if2 e x y,b,⟨h1,h2,h3⟩=>(((e.n9 b h1).app (Bl.AB (x.n9 _ h2))).app (Bl.AB (y.n9 _ h3))).app (.one (fun h=>by simp at h))
 | .loop e x,b,⟨h1,h2⟩=>((e.n9 b h1).app (Bl.AB (x.n9 _ h2))).app (.one (fun h=>by simp at h))
 | .one k e,b,⟨hk,h⟩=>(e.n9 b h).app (.one (by simp only;omega))
 | .act o v ar,b,⟨_,_,h⟩=>((ar.n9 b h).app (.one (fun h=>by simp at h))).app (.one (fun h=>by simp at h))
theorem Bl.n9:∀(e:Bl) (b:Nat),e.good->N9 (e.flat b)
 | .nil,b,_=>by simp [N9,Bl.flat]
 | .cons e r,b,⟨h1,h2⟩=>(e.n9 b h1).app (r.n9 _ h2)
end
theorem CY:∀(fs:List Fn) (b:Nat),(∀f∈fs,f.good)->N9 (cr fs b)
 | [],b,_=>by simp [N9,cr]
 | f::fs,b,h=>(Bl.AB (f.body.n9 b (h f (YL ..)).body)).app (CY fs _ fun x hx=>h x (Yl _ hx))
theorem AE:∀(n:Nat) {r r' : List Tok} {l:List Str},cm n r = .ok l r'->Suf r r' l.length
 | 0,_,_,_,h=>by rw [cm] at h;cases h
 | n+1,r,r',l,h=>by
  rw [cm] at h
  split at h
  ·rename_i hh
   obtain ⟨s,r1,h1,h⟩:=bind_ok.1 h;obtain ⟨l2,r2,h2,h⟩:=bind_ok.1 h;injection h with e1 e2
   subst e1 e2;exact ((Suf.hd hh (by decide)).trans ((Suf.name h1).trans (AE n h2))).le (by simp;omega)
  ·obtain ⟨u,r1,h1,h⟩:=bind_ok.1 h
   injection h with e1 e2
   subst e1 e2;exact (Suf.want (by decide) h1).le (by simp)
theorem Qo {n:Nat} {r r' : List Tok} {f:Fn} (h:kY n r = .ok f r'):r'.length+f.sz<=r.length/\f.args.length<=r.length/\r'.length<r.length:=by
 rw [kY] at h;obtain ⟨u,r1,h1,h⟩:=bind_ok.1 h;obtain ⟨s,r2,h2,h⟩:=bind_ok.1 h;obtain ⟨l,r3,h3,h⟩:=bind_ok.1 h;obtain ⟨b,r4,h4,h⟩:=bind_ok.1 h;injection h with e1 e2
 subst e1 e2;have a1:=(Suf.want (by decide) h1).len;have a2:=(Suf.name h2).len;have a4:=((o4 n).block _ _ _ h4).len;have a3:Suf r2 r3 l.length:=by
  rw [iW] at h3;obtain ⟨u,q1,g1,h3⟩:=bind_ok.1 h3
  split at h3
  ·rename_i hh
   injection h3 with e1 e2
   subst e1 e2;exact ((Suf.want (by decide) g1).trans (Suf.hd hh (by decide))).le (by simp)
  ·obtain ⟨s,q2,g2,h3⟩:=bind_ok.1 h3
   obtain ⟨l2,q3,g3,h3⟩:=bind_ok.1 h3;injection h3 with e1 e2
   subst e1 e2;exact ((Suf.want (by decide) g1).trans ((Suf.name g2).trans (AE n g3))).le (by simp;omega)
 have a3:=a3.len;simp only [Fn.sz];omega
theorem NT {r:List Tok} {fs:List Fn} (h:o6 r fs):dX fs<=r.length/\fs.length<=r.length/\∀f∈fs,f.args.length<=r.length:=by
 induction h with
 | nil=>simp [dX]
 | cons h1 h2 ih=>
  obtain ⟨n,h1⟩:=h1;have:=Qo h1;refine ⟨by rw [dX];omega,by rw [Xt];omega,fun f hf=>?_⟩
  rcases XA.1 hf with rfl|hf
  ·exact this.2.1
  ·have:=ih.2.2 f hf;omega
theorem Tt (s:List UInt8) (h:(ofR s).2≠0):(ofR s).1=Bc:=by
 unfold ofR at h ⊢
 split at h
 ·rename_i h1
  rw [if_pos h1]
 ·split at h
  ·rename_i h1 h2
   rw [if_neg h1,if_pos h2]
  ·rename_i h1 h2
   rw [if_neg h1,if_neg h2]
   cases hp:xM (dA s).1 with
   | none=>rfl
   | some x=>rw [hp] at h;exact absurd rfl h
theorem Is (s:List UInt8) (h:(ofR s).2=0):∃ds fs,Prg (dA s).1 ds fs/\(ofR s).1=Kx (ds,fs):=by
 unfold ofR at h ⊢
 split at h
 ·rename_i h1
  exact absurd h h1
 ·split at h
  ·cases h
  ·rename_i h1 h2
   rw [if_neg h1,if_neg h2]
   cases hp:xM (dA s).1 with
   | none=>rw [hp] at h;cases h
   | some x=>exact ⟨x.1,x.2,Ks.1 hp,rfl⟩
theorem CZ:∀(fs:List Fn) (b:Nat),∀g∈mI fs b,∃f∈fs,g.args=f.args/\g.name=f.name
 | [],_,g,h=>by simp [mI] at h
 | f::fs,b,g,h=>by
  rw [mI] at h
  rcases XA.1 h with rfl|h
  ·exact ⟨f,by simp,rfl,rfl⟩
  ·obtain ⟨f2,h1,h2⟩:=CZ fs _ g h
   exact ⟨f2,by simp [h1],h2⟩
theorem Tv {ns:List Nod} {x:Nod} (h:x∈ns):x.of.length<=(ofs ns).length:=by
 induction ns with
 | nil=>simp at h
 | cons y ns ih=>
  rw [ofs,Za,Xr]
  rcases XA.1 h with rfl|h
  ·omega
  ·have:=ih h
   rw [ofs] at this;omega
theorem Iu (s:List UInt8) (hs:s.length<100000):Lim (ofR s).1/\EF (ofR s).1/\(ofR s).1.nodes.length<=s.length/\(ofR s).1.ag.length<=s.length:=by
 by_cases he:(ofR s).2=0
 rotate_left 1
 ·rw [Tt s he]
  exact ⟨⟨by decide,by decide,by decide,by decide,by decide⟩,⟨fun d h=>by simp [Bc] at h,fun x h=>by simp [Bc] at h⟩,Yy _,Yy _⟩
 ·obtain ⟨ds,fs,hp,e⟩:=Is s he
  have hg:=hp.good (zy s);obtain ⟨r,h1,h2⟩:=hp;have hl:=AA s;have a1:=h1.len;obtain ⟨b1,b2,b3⟩:=NT h2;have hn:((cr fs 0).map Nod.nd).length<=s.length:=by rw [XJ,qa];omega
  have hof:(ofs (cr fs 0)).length<=dX fs:=by
   have:=(xN fs 0).length_eq;rw [Xr,List.length_range'] at this;omega
  rw [e];refine ⟨⟨?_,?_,?_,?_,?_⟩,⟨fun d hd=>(hg.1 d hd).n,fun x hx=>?_⟩,hn,?_⟩
  ·exact Nat.lt_of_le_of_lt hn hs
  ·show (mI fs 0).length<_;rw [sH];omega
  ·show ds.length<_;omega
  ·intro x hx
   obtain ⟨y,hy,rfl⟩:=Yf.1 hx;have:y.of.length<=(ofs (cr fs 0)).length:=Tv hy;show (y.of.map _).length<_;rw [XJ];omega
  ·intro g hgm
   obtain ⟨f,hf,e,_⟩:=CZ fs 0 g hgm;rw [e];have:=b3 f hf;omega
  ·obtain ⟨y,hy,rfl⟩:=Yf.1 hx
   exact CY fs 0 hg.2 y hy
  ·show (mI fs 0).length<=_;rw [sH];omega
end Uw.Tryz
namespace Uw.Tryz
open Go Uw
theorem Iw (c:UInt8) (hc:cls c=5) (h61:c.toNat≠61) (b:List UInt8):∀(a:List UInt8),a≠[]->bz (a++c::b)=bz a
 | [],h=>absurd rfl h
 | x::r,_=>by
  have n1:nameB c=false:=by simp [nameB,hc]
  have n2:dz c=false:=by simp [dz,hc]
  have hl:sU ((r++c::b).dropWhile dz)=sU (r.dropWhile dz):=by
   rw [oy dz c b n2 r]
   cases r.dropWhile dz with
   | nil=>rw [Yb,sU,sU,hc];rfl
   | cons y z=>rfl
  have he:eqq (r++c::b)=eqq r:=by
   cases r with
   | nil=>
    rw [Yb,eqq,eqq];exact decide_eq_false h61
   | cons y z=>rfl
  rw [Xv,bz,bz,iM nameB c b n1,iM dz c b n2,hl,he]
theorem AG (c:UInt8) (hc:cls c=5) (h61:c.toNat≠61) (b:List UInt8):∀(n:Nat) (a:List UInt8) (p:Int),a.length<=n->fy (a++c::b) p=(fy a p).bind fun l=>(fy (c::b) (p+a.length)).map (l++·)
 | n,[],p,_=>by
  rw [Yb,zo];simp
 | 0,_::_,_,h=>by simp at h
 | n+1,x::r,p,h=>by
  simp only [Xt] at h;by_cases hx:cls x=4
  ·rw [Xv,jW x _ p hx,jW x r p hx,AG c hc h61 b n r (p+1) (by omega)]
   rw [show p+1+(r.length:Int)=p+((x::r).length:Nat) by simp;omega]
  ·have ht:=Iw c hc h61 b (x::r) (by simp)
   cases hk:bz (x::r) with
   | none=>
    rw [hk] at ht;rw [oW x r p hx hk];exact oW x (r++c::b) p hx ht
   | some q=>
    obtain ⟨k,m,v⟩:=q;rw [hk] at ht;have hm:=fW hk;simp only [Xt] at hm;rw [rB x r p hx hk];have e1:((x::r)++c::b).drop m=((x::r).drop m)++c::b:=Zt (by simp;omega);have e2:((x::r)++c::b).take m=(x::r).take m:=Zp (by simp;omega);have:=rB x (r++c::b) p hx (by rw [<- Xv];exact ht);rw [Xv,this,<- Xv,e1,e2,AG c hc h61 b n ((x::r).drop m) (p+m) (by simp;omega)];rw [show p+(m:Int)+(((x::r).drop m).length:Nat)=p+((x::r).length:Nat) by simp;omega]
    cases fy ((x::r).drop m) (p+m) with
    | none=>rfl
    | some l=>
     simp only [YT,Zi,Option.map_map];rfl
def bhA:Str:=[32,102,117,110,99,32]
def bhZ:Str:=[40,41,32,123,32,114,101,116,117,114,110,32,49,59,32,125]
theorem Vo (p:Int):fy bhZ p=some (⟨3,[40],0,0+p⟩::⟨3,[41],0,1+p⟩::wN (3+p) (5+p) (12+p) (13+p) (15+p)):=by
 rw [CM];rfl
theorem EN {a nm:Str} {l:List Tok} (h:fy (((a++bhA)++nm)++bhZ) 0=some l):∃la r a1 a2 a3 a4 a5,fy a 0=some la/\l=la++(r++wN a1 a2 a3 a4 a5)/\hd (r++wN a1 a2 a3 a4 a5)=iu:=by
 have e:((a++bhA)++nm)++bhZ=a++32::([102,117,110,99]++32::(nm++40::[41,32,123,32,114,101,116,117,114,110,32,49,59,32,125])):=by simp [bhA,bhZ]
 rw [e,vR 32 (by decide) _ _ a 0 (Xn _),vR 32 (by decide) _ _ _ _ (Xn _),AG 40 (by decide) (by decide) _ _ _ _ (Xn _)] at h
 cases hla:fy a 0 with
 | none=>rw [hla] at h;cases h
 | some la=>
  rw [hla,YT] at h;have hf:∀p,fy [102,117,110,99] p=some [⟨1,iu,0,0+p⟩]:=fun p=>by rw [CM];rfl
  rw [hf,YT] at h;generalize (0:Int)+(a.length:Int)+1=p at h;generalize p+(([102,117,110,99]:List UInt8).length:Int)+1=p2 at h
  cases hln:fy nm p2 with
  | none=>rw [hln] at h;cases h
  | some ln=>
   rw [hln,YT] at h;rw [show (40::[41,32,123,32,114,101,116,117,114,110,32,49,59,32,125]:List UInt8)=bhZ from rfl,Vo] at h;simp only [Zi,XP] at h;refine ⟨la,⟨1,iu,0,0+p⟩::(ln++[⟨3,[40],0,0+(p2+nm.length)⟩,⟨3,[41],0,1+(p2+nm.length)⟩]),3+(p2+nm.length),5+(p2+nm.length),12+(p2+nm.length),13+(p2+nm.length),15+(p2+nm.length),rfl,?_,rfl⟩;rw [<- h];simp only [XH,Xv,Yb]
theorem om.det {r r1 r2:List Tok} {ds1 ds2:List Dec} (h1:om r ds1 r1) (h2:om r ds2 r2):ds1=ds2/\r1=r2:=by
 have e1:=h1.at (r.length+1) (Xn _);rw [h2.at (r.length+1) (Xn _)] at e1;injection e1 with e1 e2
 exact ⟨e1.symm,e2.symm⟩
theorem Hh {l:List Tok} {f:Fn} (h:o6 l [f]):∃n,kY n l = .ok f []:=by
 cases h with
 | cons h1 h2=>
  cases h2;exact h1
def bU (p:Pg) (nm:Str) (ar:List Str):Pg:=⟨p.decls,p.ag++[⟨nm,ar,((p.nodes.length+2:Nat):Int)⟩],p.nodes++[⟨1,1,[],[],[]⟩,⟨15,0,[],[],[((p.nodes.length:Nat):Int)]⟩,⟨18,0,[],[],[((p.nodes.length+1:Nat):Int)]⟩]⟩
theorem KU {a nm:Str} (hl:a.length+nm.length<=900) (h1:(ofR a).2=0) (h2:(ofR (((a++bhA)++nm)++bhZ)).2=0) (hn:(ofR (((a++bhA)++nm)++bhZ)).1.ag.length=(ofR a).1.ag.length+1):∃s ar,(ofR (((a++bhA)++nm)++bhZ)).1=bU (ofR a).1 s ar:=by
 obtain ⟨ds,fs,hp,e1⟩:=Is _ h1;obtain ⟨ds2,fs2,hq,e2⟩:=Is _ h2;have hw:=zy (((a++bhA)++nm)++bhZ);rw [e1,e2] at hn ⊢;have hlen:¬4000<(((a++bhA)++nm)++bhZ).length:=by simp [bhA,bhZ];omega
 have hlex:fy (((a++bhA)++nm)++bhZ) 0=some (dA (((a++bhA)++nm)++bhZ)).1:=by
  unfold ofR at h2
  cases h:fy (((a++bhA)++nm)++bhZ) 0 with
  | none=>
   have e:dA (((a++bhA)++nm)++bhZ)=([],3):=by unfold dA;rw [if_neg hlen,h]
   rw [e] at h2;cases h2
  | some l=>
   have e:dA (((a++bhA)++nm)++bhZ)=(l,0):=by unfold dA;rw [if_neg hlen,h]
   rw [e]
 obtain ⟨la,r,a1,a2,a3,a4,a5,hla,el,hh⟩:=EN hlex;have ea:(dA a).1=la:=by unfold dA;rw [if_neg (by omega),hla]
 rw [ea] at hp;generalize (dA (((a++bhA)++nm)++bhZ)).1=l at *;subst el;obtain ⟨r1,d1,f1⟩:=hp;obtain ⟨r2,d2,f2⟩:=hq;obtain ⟨rfl,rfl⟩:=(d1.app _ (.inr hh)).det d2;obtain ⟨fs3,rfl,f3⟩:=f1.cut f2;have h3:fs3.length=1:=by
  simp only [Kx,sH,Xr] at hn;omega
 obtain ⟨f,rfl⟩:=ZM.1 h3;obtain ⟨n,f3⟩:=Hh f3;have hb:=PK (fun t ht=>(hw t (YN _ ht)).wf) f3;refine ⟨f.name,f.args,?_⟩;obtain ⟨fn,fa,fb⟩:=f;simp only at hb;subst hb;have hs:((cr fs 0).map Nod.nd).length=dX fs:=by rw [XJ,qa]
 show Kx _=_;unfold Kx bU;simp only [CB,uk,Yc,hs,Xy];rfl
end Uw.Tryz
namespace Uw.Tryz
open Go Uw
structure Mk where
 ns:List Nd
 te:MS
 fe:MS
 he:MS
 le:MS
 pd:Dat
abbrev mkB (M:Mk) (l:List In4):List Blk:=[.var [.d (bY M.ns),.hnd 1,.hnd 2,.hnd 3,.d M.pd,.hnd 4,.ref 5 l.length 0 l.length],.map none M.te,.map none M.fe,.map none M.he,.map none M.le,.mt 4 l.length (l.map in4)]
theorem bI (M:Mk) (l:List In4) (hl:l.length<1000000) (op a b c:Int):bh P0 lz [.ptr 0 0,.d (I op),.d (I a),.d (I b),.d (I c)] (mkB M l) (.tuple []) (mkB M (l++[⟨op,a,b,c⟩])):=by
 have hS:mkB M (l++[⟨op,a,b,c⟩])=[.var [.d (bY M.ns),.hnd 1,.hnd 2,.hnd 3,.d M.pd,.hnd 4,.ref 5 (l.length+1) 0 (l.length+1)],.map none M.te,.map none M.fe,.map none M.he,.map none M.le,.mt 4 (l.length+1) ((l.map in4).take l.length++[[I op,I a,I b,I c]])]:=by
  have e:(l.map in4).take l.length=l.map in4:=XB (by simp);rw [mkB,e];simp [in4]
 have hv:Nat.beq l.length l.length=true:=ZL _;have hby:decide ((l.length+1) * 32<=70368744177664)=true:=by rw [decide_eq_true_eq];omega
 rw [hS];refine aF rL rfl ?_
 repeat refine aw ?_
 refine c9 6 rfl rfl ?_;exact Uw.wM
abbrev opE:MS:=[(.s Nk,I 1),(.s Nn,I 2),(.s Nl,I 3),(.s Gw,I 4),(.s Np,I 5),(.s Gx,I 6),(.s Gy,I 7)]
theorem Tz (s:Str):(lH s=0/\aW opE (.s s)=none)\/aW opE (.s s)=some (I (lH s)):=by
 by_cases a1:s=Nk
 ·subst a1;exact .inr rfl
 by_cases a2:s=Nn
 ·subst a2;exact .inr rfl
 by_cases a3:s=Nl
 ·subst a3;exact .inr rfl
 by_cases a4:s=Gw
 ·subst a4;exact .inr rfl
 by_cases a5:s=Np
 ·subst a5;exact .inr rfl
 by_cases a6:s=Gx
 ·subst a6;exact .inr rfl
 by_cases a7:s=Gy
 ·subst a7;exact .inr rfl
 exact .inl ⟨by simp [lH,a1,a2,a3,a4,a5,a6,a7],by simp [aW,a1,a2,a3,a4,a5,a6,a7]⟩
theorem tw (s:Str):Ret P0 lC [.str s] (I (lH s)):=by
 rcases Tz s with ⟨e,hg⟩|hg
 ·rw [e]
  refine bf kG rfl ?_
  repeat (first|refine aw ?_|refine m1 ?_)
  exact aC rfl rfl rfl rfl rfl
 ·refine bf kG rfl ?_
  repeat (first|refine aw ?_|refine m1 ?_)
  exact aC rfl rfl rfl rfl rfl
theorem wh (k:Int) (hk:3<=k/\k<=7):Ret P0 nR [I k] (I (k+3)):=by
 have:k=3\/k=4\/k=5\/k=6\/k=7:=by omega
 rcases this with rfl|rfl|rfl|rfl|rfl
 all_goals refine bf uu rfl ?_
 all_goals repeat refine aw ?_
 all_goals exact aC rfl rfl rfl rfl rfl
theorem lp (M:Mk) (l:List In4) (s:Str) (v:Option Int) (h:aW M.le (.s s)=v.map I):bh P0 jP [.ptr 0 0,.d (.str s)] (mkB M l) (.d (I (v.getD (-1)))) (mkB M l):=by
 cases v with
 | some i=>
  have h:aW M.le (.s s)=some (I i):=h;refine aF jB rfl ?_
  repeat (first|refine aw ?_|refine m1 ?_)
  refine aE 6 rfl rfl ?_;exact Uw.wM
 | none=>
  have h:aW M.le (.s s)=none:=h;refine aF jB rfl ?_
  repeat (first|refine aw ?_|refine m1 ?_)
  refine aE 6 rfl rfl ?_;exact Uw.wM
theorem jH (M:Mk) (l:List In4) (s:Str) (v:Option Int) (h:aW M.le (.s s)=v.map I):bh P0 kH [.ptr 0 0,.d (.str s)] (mkB M l) (.d (I (if s=[] then -1 else v.getD (-1)))) (mkB M l):=by
 by_cases q:s=[]
 ·rw [if_pos q]
  refine aF jQ rfl ?_
  repeat refine aw ?_
  refine aE 6 rfl rfl ?_;exact Uw.wM
 ·rw [if_neg q]
  have hlo:=lp M l s v h;refine aF jQ rfl ?_
  repeat refine aw ?_
  refine ae 6 [0,1,2,3,4,5] hlo ?_
  repeat refine aw ?_
  refine aE 6 rfl rfl ?_;exact Uw.wM
end Uw.Tryz
namespace Uw.Tryz
open Go Uw
structure TA (M:Mk) (N:Nms):Prop where
 things:∀s,aW M.te (.s s)=(N.things s).map fun t=>Dat.agg [I t.1,I t.2]
 ag:∀s,(aW M.fe (.s s)).getD (I 0)=I (N.ag s)
 helps:∀s,(aW M.he (.s s)).getD (I 0)=I (N.helps s)
 yk:∀s,aW M.le (.s s)=(N.yk s).map I
abbrev ndC (xk xn:Int) (xs xt:Str) (xo:List Int):V:=.agg [.d (I xk),.d (I xn),.d (.str xs),.d (.str xt),.d (cG xo)]
abbrev lsS (M:Mk) (l:List In4) (xk xn:Int) (xs xt:Str) (xo:List Int) (b:Bool) (tk tn:Int):St:=⟨[(5,.d (.bool b)),(4,.ptr 7 0),(3,.ptr 6 0),(0,.ptr 0 0)],(7,.var [.d (I tk),.d (I tn)])::(6,.var [.d (I xk),.d (I xn),.d (.str xs),.d (.str xt),.d (cG xo)])::bn 0 (mkB M l),8,[],6⟩
def Qp (M:Mk) (xs:Str) (b:Bool) (tk tn:Int):Prop:=(aW M.te (.s xs)=none/\b=false/\tk=0/\tn=0)\/(aW M.te (.s xs)=some (.agg [I tk,I tn])/\b=true)
theorem xi (M:Mk) (l:List In4) (hl:l.length<1000000) (xk xn:Int) (xs xt:Str) (xo:List Int) (hxo:xo.length<1000000) (b:Bool) (tk tn:Int) (hth:Qp M xs b tk tn) (i:In4) (h:(xk=1/\i=⟨1,xn,0,0⟩)\/(xk=12/\i=⟨14,0,0,0⟩)\/(xk=15/\i=⟨17,0,0,0⟩)\/(xk=16/\i=⟨18,0,0,0⟩)\/(xk=17/\i=⟨12,0,0,0⟩)\/(xk=8/\i=⟨11,lH xt,tn,((xo.map fun i=>[I i]).length:Nat)⟩)):bh P0 aU [.ptr 0 0,ndC xk xn xs xt xo] (mkB M l) (.tuple []) (mkB M (l++[i])):=by
 have hol:(xo.map fun i=>[I i]).length=xo.length:=by simp
 have hput:=bI M l hl i.op i.a i.b i.c;have hop:=tw xt
 rcases hth with ⟨h2,rfl,rfl,rfl⟩|⟨h2,rfl⟩
 ·rcases h with ⟨hk,rfl⟩|⟨hk,rfl⟩|⟨hk,rfl⟩|⟨hk,rfl⟩|⟨hk,rfl⟩|⟨hk,rfl⟩
  all_goals
   refine aF aZ rfl ?_
   repeat refine aw ?_
   refine bW (lsS M l xk xn xs xt xo false 0 0) ?_ ?_
   ·repeat (first|refine aw ?_|refine m1 ?_)
    exact aX (.inl ⟨rfl,by exact Uw.wM⟩)
   repeat (first|refine aw ?_|refine m1 ?_)
   refine ae 8 [0,1,2,3,4,5] hput ?_
   repeat refine aw ?_
   refine c9 6 rfl rfl ?_;exact Uw.wM
 ·rcases h with ⟨hk,rfl⟩|⟨hk,rfl⟩|⟨hk,rfl⟩|⟨hk,rfl⟩|⟨hk,rfl⟩|⟨hk,rfl⟩
  all_goals
   refine aF aZ rfl ?_
   repeat refine aw ?_
   refine bW (lsS M l xk xn xs xt xo true tk tn) ?_ ?_
   ·repeat (first|refine aw ?_|refine m1 ?_)
    exact aX (.inl ⟨rfl,by exact Uw.wM⟩)
   repeat (first|refine aw ?_|refine m1 ?_)
   refine ae 8 [0,1,2,3,4,5] hput ?_
   repeat refine aw ?_
   refine c9 6 rfl rfl ?_;exact Uw.wM
theorem Qq (M:Mk) (l:List In4) (hl:l.length<1000000) (xn:Int) (xs xt:Str) (xo:List Int) (hxo:xo.length<1000000) (tk tn:Int) (h:aW M.te (.s xs)=some (.agg [I tk,I tn])):bh P0 aU [.ptr 0 0,ndC 2 xn xs xt xo] (mkB M l) (.tuple []) (mkB M (l++[⟨4,tn,0,0⟩])):=by
 have hol:(xo.map fun i=>[I i]).length=xo.length:=by simp
 have hput:=bI M l hl;have hput:=hput 4 tn 0 0;refine aF aZ rfl ?_
 repeat refine aw ?_
 refine bW (lsS M l 2 xn xs xt xo true tk tn) ?_ ?_
 ·repeat (first|refine aw ?_|refine m1 ?_)
  exact aX (.inl ⟨rfl,by exact Uw.wM⟩)
 repeat (first|refine aw ?_|refine m1 ?_)
 refine ae 8 [0,1,2,3,4,5] hput ?_
 repeat refine aw ?_
 refine c9 6 rfl rfl ?_;exact Uw.wM
theorem Qr (M:Mk) (l:List In4) (hl:l.length<1000000) (xn:Int) (xs xt:Str) (xo:List Int) (hxo:xo.length<1000000) (h:aW M.te (.s xs)=none) (v:Option Int) (hv:aW M.le (.s xs)=v.map I):bh P0 aU [.ptr 0 0,ndC 2 xn xs xt xo] (mkB M l) (.tuple []) (mkB M (l++[⟨2,v.getD (-1),0,0⟩])):=by
 have hol:(xo.map fun i=>[I i]).length=xo.length:=by simp
 have hput:=bI M l hl;have hput:=hput 2 (v.getD (-1)) 0 0;have hlo:=lp M l xs v hv;refine aF aZ rfl ?_
 repeat refine aw ?_
 refine bW (lsS M l 2 xn xs xt xo false 0 0) ?_ ?_
 ·repeat (first|refine aw ?_|refine m1 ?_)
  exact aX (.inl ⟨rfl,by exact Uw.wM⟩)
 repeat (first|refine aw ?_|refine m1 ?_)
 refine ae 8 [0,1,2,3,4,5] hlo ?_
 repeat refine aw ?_
 refine ae 8 [0,1,2,3,4,5] hput ?_
 repeat refine aw ?_
 refine c9 6 rfl rfl ?_;exact Uw.wM
theorem Qs (M:Mk) (l:List In4) (hl:l.length<1000000) (xn:Int) (xs xt:Str) (xo:List Int) (hxo:xo.length<1000000) (tk tn:Int) (h:aW M.te (.s xs)=some (.agg [I tk,I tn])):bh P0 aU [.ptr 0 0,ndC 9 xn xs xt xo] (mkB M l) (.tuple []) (mkB M (l++[⟨5,tn,0,0⟩])):=by
 have hol:(xo.map fun i=>[I i]).length=xo.length:=by simp
 have hput:=bI M l hl;have hput:=hput 5 tn 0 0;refine aF aZ rfl ?_
 repeat refine aw ?_
 refine bW (lsS M l 9 xn xs xt xo true tk tn) ?_ ?_
 ·repeat (first|refine aw ?_|refine m1 ?_)
  exact aX (.inl ⟨rfl,by exact Uw.wM⟩)
 repeat (first|refine aw ?_|refine m1 ?_)
 refine ae 8 [0,1,2,3,4,5] hput ?_
 repeat refine aw ?_
 refine c9 6 rfl rfl ?_;exact Uw.wM
theorem Qu (M:Mk) (l:List In4) (hl:l.length<1000000) (xn:Int) (xs xt:Str) (xo:List Int) (hxo:xo.length<1000000) (h:aW M.te (.s xs)=none) (v:Option Int) (hv:aW M.le (.s xs)=v.map I):bh P0 aU [.ptr 0 0,ndC 9 xn xs xt xo] (mkB M l) (.tuple []) (mkB M (l++[⟨3,v.getD (-1),0,0⟩])):=by
 have hol:(xo.map fun i=>[I i]).length=xo.length:=by simp
 have hput:=bI M l hl;have hput:=hput 3 (v.getD (-1)) 0 0;have hlo:=lp M l xs v hv;refine aF aZ rfl ?_
 repeat refine aw ?_
 refine bW (lsS M l 9 xn xs xt xo false 0 0) ?_ ?_
 ·repeat (first|refine aw ?_|refine m1 ?_)
  exact aX (.inl ⟨rfl,by exact Uw.wM⟩)
 repeat (first|refine aw ?_|refine m1 ?_)
 refine ae 8 [0,1,2,3,4,5] hlo ?_
 repeat refine aw ?_
 refine ae 8 [0,1,2,3,4,5] hput ?_
 repeat refine aw ?_
 refine c9 6 rfl rfl ?_;exact Uw.wM
theorem TB (M:Mk) (l:List In4) (hl:l.length<1000000) (xk xn:Int) (xs xt:Str) (xo:List Int) (hxo:xo.length<1000000) (b:Bool) (tk tn:Int) (hth:Qp M xs b tk tn) (hk:3<=xk/\xk<=7):bh P0 aU [.ptr 0 0,ndC xk xn xs xt xo] (mkB M l) (.tuple []) (mkB M (l++[⟨xk+3,0,0,0⟩])):=by
 have hput:=bI M l hl (xk+3) 0 0 0;have hrk:=wh xk hk;have h:xk=3\/xk=4\/xk=5\/xk=6\/xk=7:=by omega
 rcases hth with ⟨h2,rfl,rfl,rfl⟩|⟨h2,rfl⟩
 ·rcases h with hk|hk|hk|hk|hk
  all_goals
   refine aF aZ rfl ?_
   repeat refine aw ?_
   refine bW (lsS M l xk xn xs xt xo false 0 0) ?_ ?_
   ·repeat (first|refine aw ?_|refine m1 ?_)
    exact aX (.inl ⟨rfl,by exact Uw.wM⟩)
   repeat (first|refine aw ?_|refine m1 ?_)
   refine ae 8 [0,1,2,3,4,5] hput ?_
   repeat refine aw ?_
   refine c9 6 rfl rfl ?_;exact Uw.wM
 ·rcases h with hk|hk|hk|hk|hk
  all_goals
   refine aF aZ rfl ?_
   repeat refine aw ?_
   refine bW (lsS M l xk xn xs xt xo true tk tn) ?_ ?_
   ·repeat (first|refine aw ?_|refine m1 ?_)
    exact aX (.inl ⟨rfl,by exact Uw.wM⟩)
   repeat (first|refine aw ?_|refine m1 ?_)
   refine ae 8 [0,1,2,3,4,5] hput ?_
   repeat refine aw ?_
   refine c9 6 rfl rfl ?_;exact Uw.wM
end Uw.Tryz
namespace Uw.Tryz
open Go Uw
theorem NU (M:Mk) (l:List In4) (hl:l.length<1000000) (xn:Int) (xs xt:Str) (xo:List Int) (hxo:xo.length<1000000) (h:aW M.te (.s xs)=none) (fn:Int) (hfu:(aW M.fe (.s xt)).getD (I 0)=I fn) (v:Option Int) (hv:aW M.le (.s xs)=v.map I):bh P0 aU [.ptr 0 0,ndC 10 xn xs xt xo] (mkB M l) (.tuple []) (mkB M (l++[⟨13,fn,((xo.map fun i=>[I i]).length:Nat),if xs=[] then -1 else v.getD (-1)⟩])):=by
 have hol:(xo.map fun i=>[I i]).length=xo.length:=by simp
 have hput:=bI M l hl 13 fn (((xo.map fun i=>[I i]).length:Nat)) (if xs=[] then -1 else v.getD (-1));have hde:=jH M l xs v hv;generalize (if xs=[] then -1 else v.getD (-1))=de at *;refine aF aZ rfl ?_
 repeat refine aw ?_
 refine bW (lsS M l 10 xn xs xt xo false 0 0) ?_ ?_
 ·repeat (first|refine aw ?_|refine m1 ?_)
  exact aX (.inl ⟨rfl,by exact Uw.wM⟩)
 repeat (first|refine aw ?_|refine m1 ?_)
 refine bW ⟨[],bn 0 (mkB M (l++[⟨13,fn,((xo.map fun i=>[I i]).length:Nat),de⟩])),8,[],6⟩ ?_ ?_
 ·repeat (first|refine aw ?_|refine m1 ?_)
  refine cK (I 0) _ hfu ?_
  repeat (first|refine aw ?_|refine m1 ?_)
  refine ae 8 [0,1,2,3,4,5] hde ?_
  repeat (first|refine aw ?_|refine m1 ?_)
  refine cK (I 0) _ hfu ?_
  repeat (first|refine aw ?_|refine m1 ?_)
  refine ae 8 [0,1,2,3,4,5] hput ?_
  repeat (first|refine aw ?_|refine m1 ?_)
  exact aX (.inl ⟨rfl,by exact Uw.wM⟩)
 refine c9 6 rfl rfl ?_;exact Uw.wM
theorem NV (M:Mk) (l:List In4) (hl:l.length<1000000) (xn:Int) (xs xt:Str) (xo:List Int) (hxo:xo.length<1000000) (tk tn:Int) (h:aW M.te (.s xs)=some (.agg [I tk,I tn])) (fn:Int) (hfu:(aW M.fe (.s xt)).getD (I 0)=I fn) (v:Option Int) (hv:aW M.le (.s xs)=v.map I):bh P0 aU [.ptr 0 0,ndC 10 xn xs xt xo] (mkB M l) (.tuple []) (mkB M (l++[⟨13,fn,((xo.map fun i=>[I i]).length:Nat),if xs=[] then -1 else v.getD (-1)⟩])):=by
 have hol:(xo.map fun i=>[I i]).length=xo.length:=by simp
 have hput:=bI M l hl 13 fn (((xo.map fun i=>[I i]).length:Nat)) (if xs=[] then -1 else v.getD (-1));have hde:=jH M l xs v hv;generalize (if xs=[] then -1 else v.getD (-1))=de at *;refine aF aZ rfl ?_
 repeat refine aw ?_
 refine bW (lsS M l 10 xn xs xt xo true tk tn) ?_ ?_
 ·repeat (first|refine aw ?_|refine m1 ?_)
  exact aX (.inl ⟨rfl,by exact Uw.wM⟩)
 repeat (first|refine aw ?_|refine m1 ?_)
 refine bW ⟨[],bn 0 (mkB M (l++[⟨13,fn,((xo.map fun i=>[I i]).length:Nat),de⟩])),8,[],6⟩ ?_ ?_
 ·repeat (first|refine aw ?_|refine m1 ?_)
  refine cK (I 0) _ hfu ?_
  repeat (first|refine aw ?_|refine m1 ?_)
  refine ae 8 [0,1,2,3,4,5] hde ?_
  repeat (first|refine aw ?_|refine m1 ?_)
  refine cK (I 0) _ hfu ?_
  repeat (first|refine aw ?_|refine m1 ?_)
  refine ae 8 [0,1,2,3,4,5] hput ?_
  repeat (first|refine aw ?_|refine m1 ?_)
  exact aX (.inl ⟨rfl,by exact Uw.wM⟩)
 refine c9 6 rfl rfl ?_;exact Uw.wM
theorem NW (M:Mk) (l:List In4) (hl:l.length<1000000) (xn:Int) (xs xt:Str) (xo:List Int) (hxo:xo.length<1000000) (h:aW M.te (.s xs)=none) (fn:Int) (hfu:(aW M.he (.s xt)).getD (I 0)=I fn) (v:Option Int) (hv:aW M.le (.s xs)=v.map I):bh P0 aU [.ptr 0 0,ndC 11 xn xs xt xo] (mkB M l) (.tuple []) (mkB M (l++[⟨13,fn,2,if xs=[] then -1 else v.getD (-1)⟩])):=by
 have hol:(xo.map fun i=>[I i]).length=xo.length:=by simp
 have hput:=bI M l hl 13 fn 2 (if xs=[] then -1 else v.getD (-1));have hde:=jH M l xs v hv;generalize (if xs=[] then -1 else v.getD (-1))=de at *;refine aF aZ rfl ?_
 repeat refine aw ?_
 refine bW (lsS M l 11 xn xs xt xo false 0 0) ?_ ?_
 ·repeat (first|refine aw ?_|refine m1 ?_)
  exact aX (.inl ⟨rfl,by exact Uw.wM⟩)
 repeat (first|refine aw ?_|refine m1 ?_)
 refine bW ⟨[],bn 0 (mkB M (l++[⟨13,fn,2,de⟩])),8,[],6⟩ ?_ ?_
 ·repeat (first|refine aw ?_|refine m1 ?_)
  refine cK (I 0) _ hfu ?_
  repeat (first|refine aw ?_|refine m1 ?_)
  refine ae 8 [0,1,2,3,4,5] hde ?_
  repeat (first|refine aw ?_|refine m1 ?_)
  refine cK (I 0) _ hfu ?_
  repeat (first|refine aw ?_|refine m1 ?_)
  refine ae 8 [0,1,2,3,4,5] hput ?_
  repeat (first|refine aw ?_|refine m1 ?_)
  exact aX (.inl ⟨rfl,by exact Uw.wM⟩)
 refine c9 6 rfl rfl ?_;exact Uw.wM
theorem NY (M:Mk) (l:List In4) (hl:l.length<1000000) (xn:Int) (xs xt:Str) (xo:List Int) (hxo:xo.length<1000000) (tk tn:Int) (h:aW M.te (.s xs)=some (.agg [I tk,I tn])) (fn:Int) (hfu:(aW M.he (.s xt)).getD (I 0)=I fn) (v:Option Int) (hv:aW M.le (.s xs)=v.map I):bh P0 aU [.ptr 0 0,ndC 11 xn xs xt xo] (mkB M l) (.tuple []) (mkB M (l++[⟨13,fn,2,if xs=[] then -1 else v.getD (-1)⟩])):=by
 have hol:(xo.map fun i=>[I i]).length=xo.length:=by simp
 have hput:=bI M l hl 13 fn 2 (if xs=[] then -1 else v.getD (-1));have hde:=jH M l xs v hv;generalize (if xs=[] then -1 else v.getD (-1))=de at *;refine aF aZ rfl ?_
 repeat refine aw ?_
 refine bW (lsS M l 11 xn xs xt xo true tk tn) ?_ ?_
 ·repeat (first|refine aw ?_|refine m1 ?_)
  exact aX (.inl ⟨rfl,by exact Uw.wM⟩)
 repeat (first|refine aw ?_|refine m1 ?_)
 refine bW ⟨[],bn 0 (mkB M (l++[⟨13,fn,2,de⟩])),8,[],6⟩ ?_ ?_
 ·repeat (first|refine aw ?_|refine m1 ?_)
  refine cK (I 0) _ hfu ?_
  repeat (first|refine aw ?_|refine m1 ?_)
  refine ae 8 [0,1,2,3,4,5] hde ?_
  repeat (first|refine aw ?_|refine m1 ?_)
  refine cK (I 0) _ hfu ?_
  repeat (first|refine aw ?_|refine m1 ?_)
  refine ae 8 [0,1,2,3,4,5] hput ?_
  repeat (first|refine aw ?_|refine m1 ?_)
  exact aX (.inl ⟨rfl,by exact Uw.wM⟩)
 refine c9 6 rfl rfl ?_;exact Uw.wM
end Uw.Tryz
namespace Uw.Tryz
open Go Uw
abbrev i2 (o a:Int):In4:=⟨o,a,0,0⟩
theorem Vp {l:List In4} {i:Nat} {x:In4} (h:l[i]? = some x):(l.map in4)[i]? = some (in4 x):=by rw [Yv,h];rfl
theorem x5 {l:List Int} {i:Nat} {c:Int} (h:l[i]? = some c):(l.map fun i=>[I i])[((i:Nat):Int).toNat]? = some [I c]:=by
 rw [YH,Yv,h];rfl
theorem NZ {l:List Int} {i:Nat} {c:Int} (h:l[i]? = some c):(i:Int)<((l.map fun i=>[I i]).length:Nat):=by
 have:=(XT.1 h).1;rw [XJ];omega
theorem EO (M:Mk) (l:List In4) (i:Nat) (o a:Int):mkB M (l.set i (i2 o a))=[.var [.d (bY M.ns),.hnd 1,.hnd 2,.hnd 3,.d M.pd,.hnd 4,.ref 5 l.length 0 l.length],.map none M.te,.map none M.fe,.map none M.he,.map none M.le,.mt 4 l.length ((l.map in4).set (0+((i:Nat):Int).toNat) (setAt [I o,I 0,I 0,I 0] (0+1) [I a]))]:=by
 simp [Z1,in4,i2,setAt]
theorem EP {l:List In4} {i:Nat} {o:Int} (h:l[i]? = some (i2 o 0)):(l.map in4)[0+((i:Nat):Int).toNat]? = some [I o,I 0,I 0,I 0]:=by
 have hr:=Vp h;simpa [in4] using hr
theorem AH (M:Mk) (l l1 l3:List In4) (xk xn:Int) (xs xt:Str) (xo:List Int) (c0 c1:Int) (h0:xo[0]? = some c0) (h1:xo[1]? = some c1)
  (hA:bh P0 aT [.ptr 0 0,.d (I c0)] (mkB M l) (.tuple []) (mkB M l1))
  (hB:bh P0 aT [.ptr 0 0,.d (I c1)] (mkB M (l1++[(i2 16 0)])) (.tuple []) (mkB M l3))
  (h16:l3[l1.length]? = some (i2 16 0)) (hl1:l1.length<1000000) (hl3:l3.length+1<1000000) :
  bh P0 gU [.ptr 0 0,ndC xk xn xs xt xo] (mkB M l) (.tuple []) (mkB M ((l3++[i2 15 (l.length:Nat)]).set l1.length (i2 16 ((l3++[i2 15 (l.length:Nat)]).length:Nat)))):=by
 have x6:=bI M l1 hl1 16 0 0 0;have AK:=bI M l3 (by omega) 15 (l.length:Nat) 0 0;have hlt:l1.length<l3.length:=(XT.1 h16).1;have h17:(l3++[i2 15 (l.length:Nat)])[l1.length]? = some (i2 16 0):=by rw [XM hlt];exact h16
 have hl4:(l3++[i2 15 (l.length:Nat)]).length=l3.length+1:=by simp
 generalize (l3++[i2 15 (l.length:Nat)])=l4 at *;have hr:=EP h17;rw [EO];have he0:=x5 h0;have he1:=x5 h1;have hlx:=NZ h1;refine aF qU rfl ?_
 repeat refine aw ?_
 refine ae 7 [0,1,2,3,4,5] hA ?_
 repeat refine aw ?_
 refine dr eF rfl ?_
 repeat refine aw ?_
 refine ae 9 [0,1,2,3,4,5] x6 ?_
 repeat refine aw ?_
 refine dJ rfl rfl ?_
 repeat refine aw ?_
 refine ae 9 [0,1,2,3,4,5] hB ?_
 repeat refine aw ?_
 refine ae 9 [0,1,2,3,4,5] AK ?_
 repeat refine aw ?_
 refine dr dN rfl ?_
 repeat refine aw ?_
 refine u4 rfl rfl ?_
 repeat refine aw ?_
 refine c9 6 rfl rfl ?_;exact Uw.wM
end Uw.Tryz
namespace Uw.Tryz
open Go Uw
theorem wi (M:Mk) (l l1 l3:List In4) (xk xn:Int) (xs xt:Str) (xo:List Int) (c0 c1:Int) (h0:xo[0]? = some c0) (h1:xo[1]? = some c1) (hxo:xo.length=2)
  (hA:bh P0 aT [.ptr 0 0,.d (I c0)] (mkB M l) (.tuple []) (mkB M l1))
  (hB:bh P0 aT [.ptr 0 0,.d (I c1)] (mkB M (l1++[(i2 16 0)])) (.tuple []) (mkB M l3))
  (h16:l3[l1.length]? = some (i2 16 0)) (hl1:l1.length<1000000) (hl3:l3.length<1000000) :
  bh P0 eo [.ptr 0 0,ndC xk xn xs xt xo] (mkB M l) (.tuple []) (mkB M (l3.set l1.length (i2 16 (l3.length:Nat)))):=by
 have x6:=bI M l1 hl1 16 0 0 0;have hlt:l1.length<l3.length:=(XT.1 h16).1;have hr:=EP h16;rw [EO];have he0:=x5 h0;have he1:=x5 h1;have hlx:(xo.map fun i=>[I i]).length=2:=by simpa using hxo
 refine aF jd rfl ?_
 repeat refine aw ?_
 refine ae 7 [0,1,2,3,4,5] hA ?_
 repeat refine aw ?_
 refine dr eF rfl ?_
 repeat refine aw ?_
 refine ae 9 [0,1,2,3,4,5] x6 ?_
 repeat refine aw ?_
 refine dJ rfl rfl ?_
 repeat refine aw ?_
 refine ae 9 [0,1,2,3,4,5] hB ?_
 repeat refine aw ?_
 refine dr dN rfl ?_
 repeat refine aw ?_
 refine u4 rfl rfl ?_
 repeat refine aw ?_
 refine aE 6 rfl rfl ?_;exact Uw.wM
theorem wj (M:Mk) (l l1 l3 l4 l6:List In4) (xk xn:Int) (xs xt:Str) (xo:List Int) (c0 c1 c2:Int) (h0:xo[0]? = some c0) (h1:xo[1]? = some c1) (h2:xo[2]? = some c2)
  (hA:bh P0 aT [.ptr 0 0,.d (I c0)] (mkB M l) (.tuple []) (mkB M l1))
  (hB:bh P0 aT [.ptr 0 0,.d (I c1)] (mkB M (l1++[(i2 16 0)])) (.tuple []) (mkB M l3))
  (hl4:l4=l3++[i2 15 0])
  (hC:bh P0 aT [.ptr 0 0,.d (I c2)] (mkB M (l4.set l1.length (i2 16 (l4.length:Nat)))) (.tuple []) (mkB M l6))
  (h16:l3[l1.length]? = some (i2 16 0)) (h15:l6[l3.length]? = some (i2 15 0)) (hl1:l1.length<1000000) (hl3:l3.length<1000000) (hl6:l6.length<1000000) :
  bh P0 eo [.ptr 0 0,ndC xk xn xs xt xo] (mkB M l) (.tuple []) (mkB M (l6.set l3.length (i2 15 (l6.length:Nat)))):=by
 have x6:=bI M l1 hl1 16 0 0 0;have AK:=bI M l3 hl3 15 0 0 0;have hlt:l1.length<l3.length:=(XT.1 h16).1;have h17:l4[l1.length]? = some (i2 16 0):=by rw [hl4,XM hlt];exact h16
 have hn4:l4.length=l3.length+1:=by rw [hl4];simp
 rw [<- hl4] at AK;clear hl4;have WL:l3.length<l6.length:=(XT.1 h15).1;have hr:=EP h17;have hr6:=EP h15;rw [EO];rw [EO] at hC;have he0:=x5 h0;have he1:=x5 h1;have he2:=x5 h2;have hlx:=NZ h2;refine aF jd rfl ?_
 repeat refine aw ?_
 refine ae 7 [0,1,2,3,4,5] hA ?_
 repeat refine aw ?_
 refine dr eF rfl ?_
 repeat refine aw ?_
 refine ae 9 [0,1,2,3,4,5] x6 ?_
 repeat refine aw ?_
 refine dJ rfl rfl ?_
 repeat refine aw ?_
 refine ae 9 [0,1,2,3,4,5] hB ?_
 repeat refine aw ?_
 refine dr eF rfl ?_
 repeat refine aw ?_
 refine ae 11 [0,1,2,3,4,5] AK ?_
 repeat refine aw ?_
 refine dJ rfl rfl ?_
 repeat refine aw ?_
 refine dr dN rfl ?_
 repeat refine aw ?_
 refine u4 rfl rfl ?_
 repeat refine aw ?_
 refine ae 11 [0,1,2,3,4,5] hC ?_
 repeat refine aw ?_
 refine dr dN rfl ?_
 repeat refine aw ?_
 refine u4 rfl rfl ?_
 repeat refine aw ?_
 refine c9 6 rfl rfl ?_;exact Uw.wM
end Uw.Tryz
namespace Uw.Tryz
open Go Uw
theorem TC (M:Mk) (l:List In4) (xk xn:Int) (xs xt:Str) (xo:List Int) (b:Bool) (tk tn:Int) (hth:Qp M xs b tk tn) (hk:xk<1\/17<xk\/xk=13\/xk=14):bh P0 aU [.ptr 0 0,ndC xk xn xs xt xo] (mkB M l) (.tuple []) (mkB M l):=by
 have k1:¬xk=1:=by omega
 have k2:¬xk=2:=by omega
 have k3:¬xk=3:=by omega
 have k4:¬xk=4:=by omega
 have k5:¬xk=5:=by omega
 have k6:¬xk=6:=by omega
 have k7:¬xk=7:=by omega
 have k8:¬xk=8:=by omega
 have k9:¬xk=9:=by omega
 have k10:¬xk=10:=by omega
 have k11:¬xk=11:=by omega
 have k12:¬xk=12:=by omega
 have k15:¬xk=15:=by omega
 have k16:¬xk=16:=by omega
 have k17:¬xk=17:=by omega
 clear hk
 rcases hth with ⟨h,rfl,rfl,rfl⟩|⟨h,rfl⟩
 ·refine aF aZ rfl ?_
  repeat refine aw ?_
  refine bW (lsS M l xk xn xs xt xo false 0 0) ?_ ?_
  ·repeat (first|refine aw ?_|refine m1 ?_)
   exact aX (.inl ⟨rfl,by exact Uw.wM⟩)
  repeat (first|refine aw ?_|refine m1 ?_)
  refine c9 6 rfl rfl ?_;exact Uw.wM
 ·refine aF aZ rfl ?_
  repeat refine aw ?_
  refine bW (lsS M l xk xn xs xt xo true tk tn) ?_ ?_
  ·repeat (first|refine aw ?_|refine m1 ?_)
   exact aX (.inl ⟨rfl,by exact Uw.wM⟩)
  repeat (first|refine aw ?_|refine m1 ?_)
  refine c9 6 rfl rfl ?_;exact Uw.wM
theorem AL (M:Mk) (N:Nms) (hM:TA M N) (l:List In4) (hl:l.length<1000000) (x:Nd) (hxo:x.of.length<1000000):bh P0 aU [.ptr 0 0,ndC x.kind x.n x.name x.name2 x.of] (mkB M l) (.tuple []) (mkB M (l++eS N x)):=by
 obtain ⟨xk,xn,xs,xt,xo⟩:=x;show bh P0 aU [.ptr 0 0,ndC xk xn xs xt xo] (mkB M l) (.tuple []) (mkB M (l++eS N ⟨xk,xn,xs,xt,xo⟩));have hxo:xo.length<1000000:=hxo;have yo:=hM.things xs;have hfu:=hM.ag xt;have hhe:=hM.helps xt;have hlo:=hM.yk xs;have hol:(xo.map fun i=>[I i]).length=xo.length:=by simp
 obtain ⟨b,tk,tn,hth,htn⟩:∃b tk tn,Qp M xs b tk tn/\tn=((N.things xs).getD (0,0)).2:=by
  cases ht:N.things xs with
  | none=>rw [ht] at yo;exact ⟨false,0,0,.inl ⟨yo,rfl,rfl,rfl⟩,rfl⟩
  | some t=>rw [ht] at yo;exact ⟨true,t.1,t.2,.inr ⟨yo,rfl⟩,rfl⟩
 by_cases k1:xk=1
 ·subst k1;exact xi M l hl _ xn xs xt xo hxo b tk tn hth _ (.inl ⟨rfl,rfl⟩)
 by_cases k2:xk=2
 ·subst k2
  cases ht:N.things xs with
  | none=>
   rw [ht] at yo;have e:eS N ⟨2,xn,xs,xt,xo⟩=[⟨2,(N.yk xs).getD (-1),0,0⟩]:=by simp [eS,ht,yl]
   rw [e];exact Qr M l hl xn xs xt xo hxo yo _ hlo
  | some t=>
   rw [ht] at yo;have e:eS N ⟨2,xn,xs,xt,xo⟩=[⟨4,t.2,0,0⟩]:=by simp [eS,ht]
   rw [e];exact Qq M l hl xn xs xt xo hxo _ _ yo
 by_cases k9:xk=9
 ·subst k9
  cases ht:N.things xs with
  | none=>
   rw [ht] at yo;have e:eS N ⟨9,xn,xs,xt,xo⟩=[⟨3,(N.yk xs).getD (-1),0,0⟩]:=by simp [eS,ht,yl]
   rw [e];exact Qu M l hl xn xs xt xo hxo yo _ hlo
  | some t=>
   rw [ht] at yo;have e:eS N ⟨9,xn,xs,xt,xo⟩=[⟨5,t.2,0,0⟩]:=by simp [eS,ht]
   rw [e];exact Qs M l hl xn xs xt xo hxo _ _ yo
 by_cases hk:3<=xk/\xk<=7
 ·have e:eS N ⟨xk,xn,xs,xt,xo⟩=[⟨xk+3,0,0,0⟩]:=by simp [eS,k1,k2,hk]
  rw [e];exact TB M l hl xk xn xs xt xo hxo b tk tn hth hk
 by_cases k8:xk=8
 ·subst k8
  have e:eS N ⟨8,xn,xs,xt,xo⟩=[⟨11,lH xt,tn,((xo.map fun i=>[I i]).length:Nat)⟩]:=by simp [eS,htn]
  rw [e];exact xi M l hl _ xn xs xt xo hxo b tk tn hth _ (.inr (.inr (.inr (.inr (.inr ⟨rfl,rfl⟩)))))
 by_cases k10:xk=10
 ·subst k10
  have e:eS N ⟨10,xn,xs,xt,xo⟩=[⟨13,N.ag xt,((xo.map fun i=>[I i]).length:Nat),if xs=[] then -1 else (N.yk xs).getD (-1)⟩]:=by simp [eS,kN,yl]
  rw [e]
  rcases hth with ⟨h,rfl,rfl,rfl⟩|⟨h,rfl⟩
  ·exact NU M l hl xn xs xt xo hxo h _ hfu _ hlo
  ·exact NV M l hl xn xs xt xo hxo _ _ h _ hfu _ hlo
 by_cases k11:xk=11
 ·subst k11
  have e:eS N ⟨11,xn,xs,xt,xo⟩=[⟨13,N.helps xt,2,if xs=[] then -1 else (N.yk xs).getD (-1)⟩]:=by simp [eS,kN,yl]
  rw [e]
  rcases hth with ⟨h,rfl,rfl,rfl⟩|⟨h,rfl⟩
  ·exact NW M l hl xn xs xt xo hxo h _ hhe _ hlo
  ·exact NY M l hl xn xs xt xo hxo _ _ h _ hhe _ hlo
 by_cases k12:xk=12
 ·subst k12;exact xi M l hl _ xn xs xt xo hxo b tk tn hth _ (.inr (.inl ⟨rfl,rfl⟩))
 by_cases k15:xk=15
 ·subst k15;exact xi M l hl _ xn xs xt xo hxo b tk tn hth _ (.inr (.inr (.inl ⟨rfl,rfl⟩)))
 by_cases k16:xk=16
 ·subst k16;exact xi M l hl _ xn xs xt xo hxo b tk tn hth _ (.inr (.inr (.inr (.inl ⟨rfl,rfl⟩))))
 by_cases k17:xk=17
 ·subst k17;exact xi M l hl _ xn xs xt xo hxo b tk tn hth _ (.inr (.inr (.inr (.inr (.inl ⟨rfl,rfl⟩)))))
 have e:eS N ⟨xk,xn,xs,xt,xo⟩=[]:=by simp [eS,k1,k2,hk,k8,k9,k10,k11,k12,k15,k16,k17]
 rw [e,X4];exact TC M l xk xn xs xt xo b tk tn hth (by omega)
end Uw.Tryz
namespace Uw.Tryz
open Go Uw
theorem oH (g:Int->Nat->List In4):∀(r r' : List Int) (a:Nat),layAll g (r++r') a=layAll g r a++layAll g r' (a+(layAll g r a).length)
 | [],r',a=>by simp [layAll]
 | k::r,r',a=>by
  rw [Xv,layAll,layAll,oH g r r' _,XH,Xr,Yj]
theorem Hj (g:Int->Nat->List In4) (r:List Int) (j:Nat) (c:Int) (h:r[j]? = some c) (a:Nat):layAll g (r.take (j+1)) a=layAll g (r.take j) a++g c (a+(layAll g (r.take j) a).length):=by
 have e:r.take (j+1)=r.take j++[c]:=by rw [ZZ,h];rfl
 rw [e,oH];simp [layAll]
theorem KW (g:Int->Nat->List In4) (r:List Int) (j:Nat) (a:Nat):(layAll g (r.take j) a).length<=(layAll g r a).length:=by
 have e:layAll g r a=layAll g (r.take j++r.drop j) a:=by rw [YD]
 rw [e,oH,Xr];omega
theorem set_mid (l1 B:List In4) (x y:In4):(l1++x::B).set l1.length y=l1++y::B:=by simp [List.set_append]
theorem Qv (l1 B:List In4) (x:In4):(l1++x::B)[l1.length]? = some x:=by simp
theorem JG (M:Mk) (l l' : List In4) (k:Nat) (xn:Int) (xs xt:Str) (xo:List Int) (hk:(k:Int)<((M.ns.map ndL).length:Nat)) (he:(M.ns.map ndL)[(k:Int).toNat]? = some [I 13,I xn,.str xs,.str xt,cG xo])
  (h:bh P0 eo [.ptr 0 0,ndC 13 xn xs xt xo] (mkB M l) (.tuple []) (mkB M l')):bh P0 aT [.ptr 0 0,.d (I k)] (mkB M l) (.tuple []) (mkB M l'):=by
 refine aF fZ rfl ?_
 repeat refine aw ?_
 refine ae 7 [0,1,2,3,4,5] h ?_
 repeat refine aw ?_
 refine aE 6 rfl rfl ?_;exact Uw.wM
theorem Qw (M:Mk) (l l' : List In4) (k:Nat) (xn:Int) (xs xt:Str) (xo:List Int) (hk:(k:Int)<((M.ns.map ndL).length:Nat)) (he:(M.ns.map ndL)[(k:Int).toNat]? = some [I 14,I xn,.str xs,.str xt,cG xo])
  (h:bh P0 gU [.ptr 0 0,ndC 14 xn xs xt xo] (mkB M l) (.tuple []) (mkB M l')):bh P0 aT [.ptr 0 0,.d (I k)] (mkB M l) (.tuple []) (mkB M l'):=by
 refine aF fZ rfl ?_
 repeat refine aw ?_
 refine ae 7 [0,1,2,3,4,5] h ?_
 repeat refine aw ?_
 refine aE 6 rfl rfl ?_;exact Uw.wM
theorem Qy (M:Mk) (l' : List In4) (L:Nat->List In4) (k:Nat) (xk xn:Int) (xs xt:Str) (xo:List Int) (k13:¬xk=13) (k14:¬xk=14) (hxo:xo.length<1000000) (hk:(k:Int)<((M.ns.map ndL).length:Nat)) (he:(M.ns.map ndL)[(k:Int).toNat]? = some [I xk,I xn,.str xs,.str xt,cG xo])
  (hN:∀(j:Nat) (c:Int),xo[j]? = some c->bh P0 aT [.ptr 0 0,.d (I c)] (mkB M (L j)) (.tuple []) (mkB M (L (j+1))))
  (h:bh P0 aU [.ptr 0 0,ndC xk xn xs xt xo] (mkB M (L xo.length)) (.tuple []) (mkB M l')):bh P0 aT [.ptr 0 0,.d (I k)] (mkB M (L 0)) (.tuple []) (mkB M l'):=by
 have hol:(xo.map fun i=>[I i]).length=xo.length:=by simp
 refine aF fZ rfl ?_
 repeat refine aw ?_
 refine cI xo.length (fun j=>⟨[(29,.d (I j)),(28,.d (I ((xo.map fun i=>[I i]).length:Nat))),(27,.d (cG xo)),(4,.ptr 6 0),(0,.ptr 0 0)],(6,.var [.d (I xk),.d (I xn),.d (.str xs),.d (.str xt),.d (cG xo)])::bn 0 (mkB M (L j)),7,[],6⟩) (fun _=>True) (by exact Uw.wM) ?_ ?_
 ·intro _
  repeat refine aw ?_
  refine aH ?_
  repeat refine aw ?_
  refine ae 7 [0,1,2,3,4,5] h ?_
  repeat refine aw ?_
  refine c9 6 rfl rfl ?_;exact Uw.wM
 ·intro j hj hpre
  obtain ⟨c,hc⟩:∃c,xo[j]? = some c:=⟨xo[j],Xw hj⟩
  have hn:=hN j c hc;have hec:=x5 hc
  repeat refine aw ?_
  refine ae 7 [0,1,2,3,4,5] hn ?_
  repeat refine aw ?_
  exact aK j trivial (by exact Uw.wM)
end Uw.Tryz
namespace Uw.Tryz
open Go Uw
theorem AO (M:Mk) (N:Nms) (hM:TA M N) (hL:Lays M.ns) (hof:∀(i:Nat) (h:i<M.ns.length),M.ns[i].of.length<1000000) (k:Nat):k<M.ns.length->∀l:List In4,l.length+(lay M.ns N (k:Int) l.length).length<1000000->bh P0 aT [.ptr 0 0,.d (I k)] (mkB M l) (.tuple []) (mkB M (l++lay M.ns N (k:Int) l.length)):=by
 induction k using Nat.strongRecOn with
 | ind k ih=>
  intro hk l hl;have hkl:(k:Int)<((M.ns.map ndL).length:Nat):=by simpa using hk
  have he:(M.ns.map ndL)[(k:Int).toNat]? = some (ndL M.ns[k]):=by simp [hk]
  have hc:∀c∈M.ns[k].of,∀l:List In4,l.length+(lay M.ns N c l.length).length<1000000->bh P0 aT [.ptr 0 0,.d (I c)] (mkB M l) (.tuple []) (mkB M (l++lay M.ns N c l.length)):=fun c hcm l=>by
   obtain ⟨h1,h2⟩:=hL.low k hk c hcm;obtain ⟨m,rfl⟩:∃m:Nat,c=(m:Int):=⟨c.toNat,by omega⟩
   exact ih m (by omega) (by omega) l
  have h13:=hL.ifs k hk;have h14:=hL.xg k hk;have hxo:=hof k hk;have hq:=Ab N hL k hk l.length;have hown:∀l:List In4,l.length<1000000->_:=fun l hl=>AL M N hM l hl M.ns[k] hxo;rw [hq] at hl ⊢;clear hq ih;generalize M.ns[k]=x at *;obtain ⟨xk,xn,xs,xt,xo⟩:=x;have he:(M.ns.map ndL)[(k:Int).toNat]? = some [I xk,I xn,.str xs,.str xt,cG xo]:=he;simp only at hc h13 h14 hxo hl ⊢;have hown:∀l:List In4,l.length<1000000->bh P0 aU [.ptr 0 0,ndC xk xn xs xt xo] (mkB M l) (.tuple []) (mkB M (l++eS N ⟨xk,xn,xs,xt,xo⟩)):=hown;by_cases k13:xk=13
  ·have h13:=h13 k13
   simp only [if_pos k13] at hl ⊢;subst k13;have h0:xo[0]? = some (xo.getD 0 0):=by simp [List.getD,show 0<xo.length by omega]
   have h1:xo[1]? = some (xo.getD 1 0):=by simp [List.getD,show 1<xo.length by omega]
   have hA:=hc _ (XK h0) l;have hB:=hc _ (XK h1);generalize hAA:lay M.ns N (xo.getD 0 0) l.length=A at *;have hB:=hB ((l++A)++[i2 16 0]);rw [show ((l++A)++[i2 16 0]).length=l.length+A.length+1 by simp<;>omega] at hB;generalize hBB:lay M.ns N (xo.getD 1 0) (l.length+A.length+1)=B at *;by_cases h3:xo.length<3
   ·simp only [if_pos h3,Xr,Xt] at hl ⊢
    have hs:=wi M l (l++A) ((l++A)++[i2 16 0]++B) 13 xn xs xt xo _ _ h0 h1 (by omega) (hA (by omega)) (hB (by omega)) (by simp) (by simp<;>omega) (by simp<;>omega);rw [XH (l++A),List.singleton_append,set_mid] at hs;rw [XH] at hs;have e:((l++A++i2 16 0::B).length:Int)=((l.length+A.length+1+B.length:Nat):Int):=by simp<;>omega
    rw [e] at hs;exact JG M l _ k xn xs xt xo hkl he hs
   ·simp only [if_neg h3,Xr,Xt] at hl ⊢
    have h2:xo[2]? = some (xo.getD 2 0):=by simp [List.getD,show 2<xo.length by omega]
    have hC:=hc _ (XK h2);have hC:=hC (l++A++i2 16 ((l.length+A.length+1+B.length+1:Nat):Int)::(B++[i2 15 0]));have eC:(l++A++i2 16 ((l.length+A.length+1+B.length+1:Nat):Int)::(B++[i2 15 0])).length=l.length+A.length+1+B.length+1:=by simp<;>omega
    rw [eC] at hC;generalize hCC:lay M.ns N (xo.getD 2 0) (l.length+A.length+1+B.length+1)=C at *;have e3:l++A++[i2 16 0]++B++[i2 15 0]=l++A++i2 16 0::(B++[i2 15 0]):=by simp
    have hs:=wj M l (l++A) ((l++A)++[i2 16 0]++B) (l++A++i2 16 0::(B++[i2 15 0])) ((l++A++i2 16 ((l.length+A.length+1+B.length+1:Nat):Int)::(B++[i2 15 0]))++C) 13 xn xs xt xo _ _ _ h0 h1 h2 (hA (by omega)) (hB (by omega)) e3.symm
     (by
      rw [set_mid];have e4:((l++A++i2 16 0::(B++[i2 15 0])).length:Int)=((l.length+A.length+1+B.length+1:Nat):Int):=by simp<;>omega
      rw [e4];exact hC (by omega)) (by simp) ?_ (by simp<;>omega) (by simp<;>omega) (by simp<;>omega)
    ·have e5:((l++A++i2 16 ((l.length+A.length+1+B.length+1:Nat):Int)::(B++[i2 15 0]))++C)=(l++A++i2 16 ((l.length+A.length+1+B.length+1:Nat):Int)::B)++i2 15 0::C:=by simp
     have e6:((l++A)++[i2 16 0]++B).length=(l++A++i2 16 ((l.length+A.length+1+B.length+1:Nat):Int)::B).length:=by simp<;>omega
     rw [e5,e6,set_mid] at hs;have e7:(((l++A++i2 16 ((l.length+A.length+1+B.length+1:Nat):Int)::B)++i2 15 0::C).length:Int)=((l.length+A.length+1+B.length+1+C.length:Nat):Int):=by simp<;>omega
     rw [e7] at hs;refine JG M l _ k xn xs xt xo hkl he ?_;simpa using hs
    ·have e5:((l++A++i2 16 ((l.length+A.length+1+B.length+1:Nat):Int)::(B++[i2 15 0]))++C)=(l++A++i2 16 ((l.length+A.length+1+B.length+1:Nat):Int)::B)++i2 15 0::C:=by simp
     have e6:((l++A)++[i2 16 0]++B).length=(l++A++i2 16 ((l.length+A.length+1+B.length+1:Nat):Int)::B).length:=by simp<;>omega
     rw [e5,e6];exact Qv _ _ _
  by_cases k14:xk=14
  ·have h14:=h14 k14
   simp only [if_neg k13,if_pos k14] at hl ⊢;clear k13;subst k14;have h0:xo[0]? = some (xo.getD 0 0):=by simp [List.getD,show 0<xo.length by omega]
   have h1:xo[1]? = some (xo.getD 1 0):=by simp [List.getD,show 1<xo.length by omega]
   have hA:=hc _ (XK h0) l;have hB:=hc _ (XK h1);generalize hAA:lay M.ns N (xo.getD 0 0) l.length=A at *;have hB:=hB ((l++A)++[i2 16 0]);rw [show ((l++A)++[i2 16 0]).length=l.length+A.length+1 by simp<;>omega] at hB;generalize hBB:lay M.ns N (xo.getD 1 0) (l.length+A.length+1)=B at *;simp only [Xr,Xt,X3] at hl;have hs:=AH M l (l++A) ((l++A)++[i2 16 0]++B) 14 xn xs xt xo _ _ h0 h1 (hA (by omega)) (hB (by omega)) (by simp) (by simp<;>omega) (by simp<;>omega);have e5:(l++A)++[i2 16 0]++B++[i2 15 (l.length:Nat)]=(l++A)++i2 16 0::(B++[i2 15 (l.length:Nat)]):=by simp
   rw [e5,set_mid] at hs;have e7:(((l++A)++i2 16 0::(B++[i2 15 (l.length:Nat)])).length:Int)=((l.length+A.length+1+B.length+1:Nat):Int):=by simp<;>omega
   rw [e7] at hs;refine Qw M l _ k xn xs xt xo hkl he ?_;simpa using hs
  simp only [if_neg k13,if_neg k14,Xr] at hl ⊢;have ho:(eS N ⟨xk,xn,xs,xt,xo⟩).length=0\/0<(eS N ⟨xk,xn,xs,xt,xo⟩).length:=by omega
  have hlen:l.length+(layAll (lay M.ns N) xo l.length).length<1000000:=by omega
  have hs:=Qy M (l++layAll (lay M.ns N) xo l.length++eS N ⟨xk,xn,xs,xt,xo⟩) (fun j=>l++layAll (lay M.ns N) (xo.take j) l.length) k xk xn xs xt xo k13 k14 hxo hkl he ?_ ?_
  ·simp only [Z8,layAll,X4] at hs
   rw [XH] at hs;exact hs
  ·intro j c hj
   have hle:=KW (lay M.ns N) xo (j+1) l.length;rw [Hj _ _ _ _ hj] at hle ⊢;rw [Xr] at hle;have:=hc c (XK hj) (l++layAll (lay M.ns N) (xo.take j) l.length) (by rw [Xr];omega);rw [Xr] at this;rw [<- XH];exact this
  ·rw [XE]
   exact hown _ (by rw [Xr];omega)
end Uw.Tryz
namespace Uw.Tryz
open Go Uw
abbrev pgA (p:Pg):V:=.agg [.d (.slice 3 (p.decls.map cD) false),.d (.slice 3 (p.ag.map fuL) false),.d (bY p.nodes)]
def lI (p:Pg) (l:List Str):List Int:=l.map fun s=>(((db p s).getD 0:Nat):Int)
abbrev nuH (p:Pg) (C T F H:MS) (l:List Int):Heap:=[(7,.arr 1 (l.map fun i=>[I i])),(6,.map (some .i64) C),(5,.var [.hnd 2,.hnd 3,.hnd 4,.ref 7 0 0 (l.map fun i=>[I i]).length]),(4,.map none H),(3,.map none F),(2,.map none T),(1,.var [.d .aV,.d .aV,.d .aV,.d .nil]),(0,.var [.d (.slice 3 (p.decls.map cD) false),.d (.slice 3 (p.ag.map fuL) false),.d (bY p.nodes)])]
abbrev TD (p:Pg) (C T:MS) (F:Nat->MS) (j:Nat):St:=⟨[(45,.d (I j)),(44,.d (I ((p.ag.map fuL).length:Nat))),(43,.d (.slice 3 (p.ag.map fuL) false)),(4,.hnd 6),(3,.ptr 5 0),(2,.ptr 1 0),(1,.ptr 0 0)],nuH p C T (F j) [] [],8,[],0⟩
abbrev Ix (p:Pg) (C T F:MS) (H:Nat->MS) (L:Nat->List Int) (j:Nat):St:=⟨[(59,.d (I j)),(58,.d (I ((p.nodes.map ndL).length:Nat))),(57,.d (bY p.nodes)),(4,.hnd 6),(3,.ptr 5 0),(2,.ptr 1 0),(1,.ptr 0 0)],nuH p C T F (H j) (L j),8,[],0⟩
abbrev TE (p:Pg) (C T:Nat->MS) (j:Nat):St:=⟨[(21,.d (I j)),(20,.d (I ((p.decls.map cD).length:Nat))),(19,.d (.slice 3 (p.decls.map cD) false)),(4,.hnd 6),(3,.ptr 5 0),(2,.ptr 1 0),(1,.ptr 0 0)],nuH p (C j) (T j) [] [] [],8,[],0⟩
theorem xj (p:Pg) (hp:Lim p) (hm:May p):bh P0 o8 [pgA p] [] (.agg [.hnd 0,.hnd 1,.hnd 2,.d (cG (lI p (bL p)))]) [.map none (tgE p.decls),.map none (fuE p.ag),.map none (hpE p.ag.length (bL p))]:=by
 have hF:=hp.ag;have hD:=hp.decls;have hN:=hp.nodes;have hfl:(p.ag.map fuL).length=p.ag.length:=by simp
 have hdl:(p.decls.map cD).length=p.decls.length:=by simp
 have hnl:(p.nodes.map ndL).length=p.nodes.length:=by simp
 obtain ⟨C,hC⟩:∃E:Nat->MS,∀j,E j=ctE (p.decls.take j):=⟨_,fun _=>rfl⟩
 obtain ⟨T,hT⟩:∃E:Nat->MS,∀j,E j=tgE (p.decls.take j):=⟨_,fun _=>rfl⟩
 have hst:∀(j:Nat) (h:j<p.decls.length),∃c:Nat,c<=100000/\(aW (C j) (.i p.decls[j].kind)).getD (I 0)=I (c:Nat)/\dx (C j) (.i p.decls[j].kind) (I ((c:Nat)+1))=C (j+1)/\dx (T j) (.s p.decls[j].name) (.agg [I p.decls[j].kind,I (c:Nat)])=T (j+1):=fun j h=>by
  refine ⟨ctN (p.decls.take j) p.decls[j].kind,?_,by rw [hC,uF],?_,?_⟩
  ·have h2:(p.decls.take j).length<=j:=by rw [XW];omega
   have h3:ctN (p.decls.take j) p.decls[j].kind<=(p.decls.take j).length:=ZR;omega
  ·rw [hC,hC,JC,<- Xq h]
  ·rw [hT,hT,Xq h,An]
 have hdel:∀(j:Nat) (h:j<p.decls.length),(p.decls.map cD)[(j:Int).toNat]? = some (cD p.decls[j]):=fun j h=>by simp [h]
 obtain ⟨F,hF1⟩:∃E:Nat->MS,∀j,E j=fuE (p.ag.take j):=⟨_,fun _=>rfl⟩
 obtain ⟨H,hH⟩:∃E:Nat->MS,∀j,E j=hpE p.ag.length (fD (p.nodes.take j) []):=⟨_,fun _=>rfl⟩
 obtain ⟨L,hL⟩:∃E:Nat->List Int,∀j,E j=lI p (fD (p.nodes.take j) []):=⟨_,fun _=>rfl⟩
 have hfs:∀(j:Nat) (h:j<p.ag.length),dx (F j) (.s p.ag[j].name) (I (j:Nat))=F (j+1):=fun j h=>by
  rw [hF1,hF1,Xq h,Ao,XW,ZQ (by omega)]
 have KX:∀(j:Nat) (h:j<p.ag.length),(p.ag.map fuL)[(j:Int).toNat]? = some (fuL p.ag[j]):=fun j h=>by simp [h]
 have N1:∀(j:Nat) (h:j<p.nodes.length),(p.nodes.map ndL)[(j:Int).toNat]? = some (ndL p.nodes[j]):=fun j h=>by simp [h]
 have hFg:∀s,(aW (F p.ag.length) (.s s)).getD (I 0)=I (((db p s).getD 0:Nat):Int):=fun s=>by
  rw [hF1,XE,Ip p hm.names.2.1]
  cases db p s<;>rfl
 have hns:∀(j:Nat) (h:j<p.nodes.length),(∃i,aW (H j) (.s p.nodes[j].name2)=some (I i)/\H j=H (j+1)/\L j=L (j+1))\/(p.nodes[j].kind≠11/\H j=H (j+1)/\L j=L (j+1))\/
   (p.nodes[j].kind=11/\aW (H j) (.s p.nodes[j].name2)=none/\dx (H j) (.s p.nodes[j].name2) (I (((p.ag.map fuL).length:Nat)+((L j).map fun i=>[I i]).length:Int))=H (j+1)/\L j++[(((db p p.nodes[j].name2).getD 0:Nat):Int)]=L (j+1)):=fun j h=>by
  have hS:=kc p.nodes[j] (p.nodes.take j) [];rw [<- Xq h] at hS;have hg:=Iq p.ag.length p.nodes[j].name2 (fD (p.nodes.take j) []) (nY _ _ ZB);have hi:=CQ (l:=fD (p.nodes.take j) []) (s:=p.nodes[j].name2);simp only [hH,hL];rw [hS];by_cases k11:p.nodes[j].kind=11
  ·by_cases hm2:p.nodes[j].name2∈fD (p.nodes.take j) []
   ·rw [decide_eq_true hm2] at hi
    rw [if_neg (fun e=>e.2 hm2)]
    cases hq:lV (fD (p.nodes.take j) []) p.nodes[j].name2 with
    | none=>rw [hq] at hi;cases hi
    | some i=>rw [hq] at hg;exact .inl ⟨_,hg,rfl,rfl⟩
   ·rw [decide_eq_false hm2] at hi
    rw [if_pos ⟨k11,hm2⟩]
    cases hq:lV (fD (p.nodes.take j) []) p.nodes[j].name2 with
    | some i=>rw [hq] at hi;cases hi
    | none=>
     rw [hq] at hg;refine .inr (.inr ⟨k11,hg,?_,by simp [lI]⟩);rw [Ap]
     congr 2
     simp [lI]
  ·rw [if_neg (fun e=>k11 e.1)]
   exact .inr (.inl ⟨k11,rfl,rfl⟩)
 have hLl:∀j,(L j).length<=j:=fun j=>by
  rw [hL,lI,XJ];have:∀n,(fD (p.nodes.take n) []).length<=n:=by
   intro n
   induction n with
   | zero=>simp [fD]
   | succ n ih=>
    rcases XR n p.nodes.length with h|h
    ·rw [Xq h,kc]
     split
     ·simp;omega
     ·omega
    ·rw [XB (by omega)]
     rw [XB h] at ih;omega
  exact this j
 have hC0:C 0=[]:=by rw [hC];rfl
 have hT0:T 0=[]:=by rw [hT];rfl
 have hF0:F 0=[]:=by rw [hF1];rfl
 have hH0:H 0=[]:=by rw [hH];rfl
 have hL0:L 0=[]:=by rw [hL];rfl
 have hTn:tgE p.decls=T p.decls.length:=by rw [hT,XE]
 have hFn:fuE p.ag=F p.ag.length:=by rw [hF1,XE]
 have hHn:hpE p.ag.length (bL p)=H p.nodes.length:=by rw [hH,XE];rfl
 have hLn:lI p (bL p)=L p.nodes.length:=by rw [hL,XE];rfl
 rw [hTn,hFn,hHn,hLn];clear hTn hFn hHn hLn hC hT hF1 hH hL;have hS0:TE p C T 0=⟨[(21,.d (I (0:Nat))),(20,.d (I ((p.decls.map cD).length:Nat))),(19,.d (.slice 3 (p.decls.map cD) false)),(4,.hnd 6),(3,.ptr 5 0),(2,.ptr 1 0),(1,.ptr 0 0)],nuH p [] [] [] [] [],8,[],0⟩:=by rw [TE,hC0,hT0]
 have hS1:TD p (C p.decls.length) (T p.decls.length) F 0=⟨[(45,.d (I (0:Nat))),(44,.d (I ((p.ag.map fuL).length:Nat))),(43,.d (.slice 3 (p.ag.map fuL) false)),(4,.hnd 6),(3,.ptr 5 0),(2,.ptr 1 0),(1,.ptr 0 0)],nuH p (C p.decls.length) (T p.decls.length) [] [] [],8,[],0⟩:=by rw [TD,hF0]
 have hS2:Ix p (C p.decls.length) (T p.decls.length) (F p.ag.length) H L 0=⟨[(59,.d (I (0:Nat))),(58,.d (I ((p.nodes.map ndL).length:Nat))),(57,.d (bY p.nodes)),(4,.hnd 6),(3,.ptr 5 0),(2,.ptr 1 0),(1,.ptr 0 0)],nuH p (C p.decls.length) (T p.decls.length) (F p.ag.length) [] [],8,[],0⟩:=by rw [Ix,hH0,hL0]
 have hLn:=hLl p.nodes.length;have hrow:(((L p.nodes.length).map fun i=>[I i]).drop 0).take ((L p.nodes.length).map fun i=>[I i]).length=(L p.nodes.length).map fun i=>[I i]:=by rw [XX,XE]
 refine aF vu rfl ?_
 repeat (first|refine aw ?_|refine f1 ?_|refine m1 ?_)
 refine cI p.decls.length (TE p C T) (fun _=>True) (ep hS0 ?_) (fun _=>?_) (fun j hj _=>?_)
 ·exact Uw.wM
 rotate_left 1
 ·have he:=hdel j hj
  obtain ⟨c,hcl,hcg,hcs,hcu⟩:=hst j hj;clear hdel hst hfs hns hLl;generalize p.decls[j]=d at *;obtain ⟨dk,ds,dn⟩:=d;have he:(p.decls.map cD)[(j:Int).toNat]? = some [I dk,.str ds,I dn]:=he;simp only at hcg hcs hcu
  repeat (first|refine aw ?_|refine f1 ?_)
  refine cK (I 0) _ hcg ?_
  repeat (first|refine aw ?_|refine f1 ?_)
  refine cK (I 0) _ hcg ?_
  repeat (first|refine aw ?_|refine f1 ?_)
  exact aK j trivial (by exact Uw.wM)
 clear hdel hst
 repeat (first|refine aw ?_|refine f1 ?_)
 refine aH ?_
 repeat (first|refine aw ?_|refine f1 ?_)
 refine cI p.ag.length (TD p (C p.decls.length) (T p.decls.length) F) (fun _=>True) (ep hS1 ?_) (fun _=>?_) (fun j hj _=>?_)
 ·exact Uw.wM
 rotate_left 1
 ·have he:=KX j hj
  have hcu:=hfs j hj;clear KX hfs hns hLl;generalize p.ag[j]=d at *;obtain ⟨fn,fa,fb⟩:=d;have he:(p.ag.map fuL)[(j:Int).toNat]? = some [.str fn,.slice 1 (fa.map fun s=>[Dat.str s]) false,I fb]:=he;simp only at hcu
  repeat (first|refine aw ?_|refine f1 ?_)
  exact aK j trivial (by exact Uw.wM)
 clear KX hfs
 repeat (first|refine aw ?_|refine f1 ?_)
 refine aH ?_
 repeat (first|refine aw ?_|refine f1 ?_)
 refine cI p.nodes.length (Ix p (C p.decls.length) (T p.decls.length) (F p.ag.length) H L) (fun _=>True) (ep hS2 ?_) (fun _=>?_) (fun j hj _=>?_)
 ·exact Uw.wM
 rotate_left 1
 ·have he:=N1 j hj
  have hcu:=hns j hj;have hLj:=hLl j;clear N1 hns hLl;generalize p.nodes[j]=d at *;obtain ⟨xk,xn,xs,xt,xo⟩:=d;have he:(p.nodes.map ndL)[(j:Int).toNat]? = some [I xk,I xn,.str xs,.str xt,cG xo]:=he;simp only at hcu;have hFg:=hFg xt;have hll:((L j).map fun i=>[I i]).length=(L j).length:=by simp
  rcases hcu with ⟨i,h1,h2,h3⟩|⟨h1,h2,h3⟩|⟨k11,h1,h2,h3⟩
  ·by_cases k11:xk=11
   ·subst k11
    repeat (first|refine aw ?_|refine f1 ?_|refine m1 ?_)
    refine aK j trivial (ep (by rw [Ix,<- h2,<- h3]) ?_);exact Uw.wM
   ·repeat (first|refine aw ?_|refine f1 ?_|refine m1 ?_)
    refine aK j trivial (ep (by rw [Ix,<- h2,<- h3]) ?_);exact Uw.wM
  ·repeat (first|refine aw ?_|refine f1 ?_|refine m1 ?_)
   refine aK j trivial (ep (by rw [Ix,<- h2,<- h3]) ?_);exact Uw.wM
  ·have h4:((L (j+1)).map fun i=>[I i])=((L j).map fun i=>[I i])++(List.replicate 1 [Dat.int .i64 0]).set 0 [I (((db p xt).getD 0:Nat):Int)]:=by rw [<- h3,Yc];rfl
   clear h3;subst k11
   repeat (first|refine aw ?_|refine f1 ?_|refine m1 ?_)
   refine cK (I 0) _ hFg ?_
   repeat (first|refine aw ?_|refine f1 ?_|refine m1 ?_)
   refine aK j trivial (ep (by rw [Ix,nuH,h4,<- h2]) ?_);exact Uw.wM
 repeat (first|refine aw ?_|refine f1 ?_)
 refine aH ?_
 repeat (first|refine aw ?_|refine f1 ?_)
 refine aE 0 rfl rfl (Weak.ofR [(0,2),(1,3),(2,4)] ?_ ?_ rfl rfl ?_ rfl rfl rfl)
 ·refine ⟨⟨_,rfl,?_⟩,trivial⟩
  exact Or.inr (Or.inr (Or.inr (Or.inr (Or.inl ⟨_,_,rfl,rfl,.inl ⟨rfl,rfl⟩,.inl ⟨rfl,rfl⟩,.inl ⟨rfl,rfl⟩,.inr (.inr (.inr ⟨_,_,_,_,_,_,_,rfl,rfl,hrow,rfl⟩)),trivial⟩))))
 ·exact ⟨⟨.inl ⟨_,rfl,⟨rfl,rfl⟩⟩,rfl⟩,⟨.inl ⟨_,rfl,⟨rfl,rfl⟩⟩,rfl⟩,⟨.inl ⟨_,rfl,⟨rfl,rfl⟩⟩,rfl⟩,trivial⟩
 ·trivial
end Uw.Tryz
namespace Uw.Tryz
open Go Uw
abbrev bdS (p:Pg) (E:Nat->MS) (j:Nat):St:=⟨[(20,.d (I j)),(19,.d (I ((p.decls.map cD).length:Nat))),(18,.d (.slice 3 (p.decls.map cD) false)),(3,.hnd 3),(1,.ptr 2 0)],(3,.map (some .i64) (E j))::sHp p,4,[],2⟩
theorem AP (p:Pg) (hp:Lim p):bh P0 kB [.agg (sCs p)] (sBs p) (.d (.bool (gg p))) (sBs p):=by
 have hF:=hp.ag;have hD:=hp.decls;have hN:=hp.nodes;have hfl:(p.ag.map fuL).length=p.ag.length:=by simp
 have hdl:(p.decls.map cD).length=p.decls.length:=by simp
 have hnl:(p.nodes.map ndL).length=p.nodes.length:=by simp
 have hll:=kP p;have hml:((ak p).map fun l=>[fS l]).length=(ak p).length:=by simp
 obtain ⟨c0,hc0⟩:∃c,ctN p.decls 0=c:=⟨_,rfl⟩
 obtain ⟨c1,hc1⟩:∃c,ctN p.decls 1=c:=⟨_,rfl⟩
 obtain ⟨c2,hc2⟩:∃c,ctN p.decls 2=c:=⟨_,rfl⟩
 obtain ⟨c3,hc3⟩:∃c,ctN p.decls 3=c:=⟨_,rfl⟩
 have hB:gg p=(decide (16<p.ag.length)||decide (16<c0)||decide (8<c1)||decide (8<c2)||decide (8<c3)||((ak p).any fun l=>decide (16<l.length))||(p.nodes.any fun x=>decide (x.kind=10)&&decide (16<x.of.length))):=by rw [<- hc0,<- hc1,<- hc2,<- hc3];rfl
 have b0:16<p.ag.length->gg p=true:=fun h=>by rw [hB];simp [h]
 have b1:16<c0->gg p=true:=fun h=>by rw [hB];simp [h]
 have b2:8<c1->gg p=true:=fun h=>by rw [hB];simp [h]
 have b3:8<c2->gg p=true:=fun h=>by rw [hB];simp [h]
 have b4:8<c3->gg p=true:=fun h=>by rw [hB];simp [h]
 have b5:∀(j:Nat) (h:j<(ak p).length),16<(ak p)[j].length->gg p=true:=fun j h e=>by
  have:((ak p).any fun l=>decide (16<l.length))=true:=YA.2 ⟨_,XF h,by simp [e]⟩;rw [hB,this];simp
 have b6:∀(j:Nat) (h:j<p.nodes.length),p.nodes[j].kind=10/\16<p.nodes[j].of.length->gg p=true:=fun j h e=>by
  have:(p.nodes.any fun x=>decide (x.kind=10)&&decide (16<x.of.length))=true:=YA.2 ⟨_,XF h,by simp [e]⟩;rw [hB,this];simp
 have ER:¬16<p.ag.length->¬16<c0->¬8<c1->¬8<c2->¬8<c3->(∀(j:Nat) (h:j<(ak p).length),¬16<(ak p)[j].length)->(∀(j:Nat) (h:j<p.nodes.length),¬(p.nodes[j].kind=10/\16<p.nodes[j].of.length))->gg p=false:=fun g0 g1 g2 g3 g4 g5 g6=>by
  have h5:((ak p).any fun l=>decide (16<l.length))=false:=X2.2 fun x hx=>by
   obtain ⟨j,hj,rfl⟩:=XQ.1 hx;simpa using g5 j hj
  have h6:(p.nodes.any fun x=>decide (x.kind=10)&&decide (16<x.of.length))=false:=X2.2 fun x hx=>by
   obtain ⟨j,hj,rfl⟩:=XQ.1 hx;simpa using g6 j hj
  rw [hB,h5,h6];simp [g0,g1,g2,g3,g4]
 clear hB;generalize gg p=R at *;obtain ⟨E,hE⟩:∃E:Nat->MS,∀j,E j=ctE (p.decls.take j):=⟨_,fun _=>rfl⟩
 have hE0:([]:MS)=E 0:=by rw [hE];rfl
 have hst:∀(j:Nat) (h:j<p.decls.length),∃c:Nat,c<=100000/\(aW (E j) (.i p.decls[j].kind)).getD (I 0)=I (c:Nat)/\dx (E j) (.i p.decls[j].kind) (I ((c:Nat)+1))=E (j+1):=fun j h=>by
  refine ⟨ctN (p.decls.take j) p.decls[j].kind,?_,by rw [hE,uF],?_⟩
  ·have h2:(p.decls.take j).length<=j:=by rw [XW];omega
   have h3:ctN (p.decls.take j) p.decls[j].kind<=(p.decls.take j).length:=ZR;omega
  ·rw [hE,hE,JC,<- Xq h]
 have hg0:(aW (E p.decls.length) (.i 0)).getD (I 0)=I (c0:Nat):=by rw [hE,XE,uF,hc0]
 have hg1:(aW (E p.decls.length) (.i 1)).getD (I 0)=I (c1:Nat):=by rw [hE,XE,uF,hc1]
 have hg2:(aW (E p.decls.length) (.i 2)).getD (I 0)=I (c2:Nat):=by rw [hE,XE,uF,hc2]
 have hg3:(aW (E p.decls.length) (.i 3)).getD (I 0)=I (c3:Nat):=by rw [hE,XE,uF,hc3]
 have hdel:∀(j:Nat) (h:j<p.decls.length),(p.decls.map cD)[(j:Int).toNat]? = some (cD p.decls[j]):=fun j h=>by simp [h]
 clear hc0 hc1 hc2 hc3 hE;have hS0:bdS p E 0=⟨[(20,.d (I (0:Nat))),(19,.d (I ((p.decls.map cD).length:Nat))),(18,.d (.slice 3 (p.decls.map cD) false)),(3,.hnd 3),(1,.ptr 2 0)],(3,.map (some .i64) [])::sHp p,4,[],2⟩:=by rw [bdS,<- hE0]
 refine aF qS rfl ?_;by_cases h16:16<p.ag.length
 ·rw [b0 h16]
  have h17:(16:Int)<((p.ag.map fuL).length:Nat):=by omega
  repeat (first|refine aw ?_|refine f1 ?_|refine m1 ?_)
  refine aE 2 rfl rfl ?_;exact Uw.wM
 have ER:=ER h16;have h17:¬(16:Int)<((p.ag.map fuL).length:Nat):=by omega
 repeat (first|refine aw ?_|refine f1 ?_|refine m1 ?_)
 refine cI p.decls.length (bdS p E) (fun _=>True) (ep hS0 ?_) (fun _=>?_) (fun j hj _=>?_)
 ·exact Uw.wM
 rotate_left 1
 ·have he:=hdel j hj
  obtain ⟨c,hcl,hcg,hcs⟩:=hst j hj;clear hdel hst;generalize p.decls[j]=d at *;obtain ⟨dk,ds,dn⟩:=d;have he:(p.decls.map cD)[(j:Int).toNat]? = some [I dk,.str ds,I dn]:=he;simp only at hcg hcs
  repeat (first|refine aw ?_|refine f1 ?_)
  refine cK (I 0) _ hcg ?_
  repeat (first|refine aw ?_|refine f1 ?_)
  exact aK j trivial (by exact Uw.wM)
 by_cases q1:16<c0
 ·rw [b1 q1]
  have q1' : (16:Int)<(c0:Nat):=by omega
  repeat (first|refine aw ?_|refine f1 ?_)
  refine aH ?_
  repeat (first|refine aw ?_|refine f1 ?_)
  refine cK (I 0) _ hg0 ?_
  repeat (first|refine aw ?_|refine f1 ?_)
  refine aE 2 rfl rfl ?_;exact Uw.wM
 have q1' : ¬(16:Int)<(c0:Nat):=by omega
 by_cases q2:8<c1
 ·rw [b2 q2]
  have q2' : (8:Int)<(c1:Nat):=by omega
  repeat (first|refine aw ?_|refine f1 ?_)
  refine aH ?_
  repeat (first|refine aw ?_|refine f1 ?_)
  refine cK (I 0) _ hg0 ?_
  repeat (first|refine aw ?_|refine f1 ?_)
  refine cK (I 0) _ hg1 ?_
  repeat (first|refine aw ?_|refine f1 ?_)
  refine aE 2 rfl rfl ?_;exact Uw.wM
 have q2' : ¬(8:Int)<(c1:Nat):=by omega
 by_cases q3:8<c2
 ·rw [b3 q3]
  have q3' : (8:Int)<(c2:Nat):=by omega
  repeat (first|refine aw ?_|refine f1 ?_)
  refine aH ?_
  repeat (first|refine aw ?_|refine f1 ?_)
  refine cK (I 0) _ hg0 ?_
  repeat (first|refine aw ?_|refine f1 ?_)
  refine cK (I 0) _ hg1 ?_
  repeat (first|refine aw ?_|refine f1 ?_)
  refine cK (I 0) _ hg2 ?_
  repeat (first|refine aw ?_|refine f1 ?_)
  refine aE 2 rfl rfl ?_;exact Uw.wM
 have q3' : ¬(8:Int)<(c2:Nat):=by omega
 by_cases q4:8<c3
 ·rw [b4 q4]
  have q4' : (8:Int)<(c3:Nat):=by omega
  repeat (first|refine aw ?_|refine f1 ?_)
  refine aH ?_
  repeat (first|refine aw ?_|refine f1 ?_)
  refine cK (I 0) _ hg0 ?_
  repeat (first|refine aw ?_|refine f1 ?_)
  refine cK (I 0) _ hg1 ?_
  repeat (first|refine aw ?_|refine f1 ?_)
  refine cK (I 0) _ hg2 ?_
  repeat (first|refine aw ?_|refine f1 ?_)
  refine cK (I 0) _ hg3 ?_
  repeat (first|refine aw ?_|refine f1 ?_)
  refine aE 2 rfl rfl ?_;exact Uw.wM
 have q4' : ¬(8:Int)<(c3:Nat):=by omega
 have ER:=ER q1 q2 q3 q4;have TF:∀(j:Nat) (h:j<(ak p).length),((ak p).map fun l=>[fS l])[(j:Int).toNat]? = some [.slice 1 ((ak p)[j].map fun s=>[Dat.str s]) false]:=fun j h=>by simp [h];rfl
 have N1:∀(j:Nat) (h:j<p.nodes.length),(p.nodes.map ndL)[(j:Int).toNat]? = some (ndL p.nodes[j]):=fun j h=>by simp [h]
 repeat (first|refine aw ?_|refine f1 ?_)
 refine aH ?_
 repeat (first|refine aw ?_|refine f1 ?_)
 refine cK (I 0) _ hg0 ?_
 repeat (first|refine aw ?_|refine f1 ?_)
 refine cK (I 0) _ hg1 ?_
 repeat (first|refine aw ?_|refine f1 ?_)
 refine cK (I 0) _ hg2 ?_
 repeat (first|refine aw ?_|refine f1 ?_)
 refine cK (I 0) _ hg3 ?_
 repeat (first|refine aw ?_|refine f1 ?_)
 clear hst hdel hg0 hg1 hg2 hg3 hS0 b0 b1 b2 b3 b4;refine cI (ak p).length (fun j:Nat=>⟨[(51,.d (I j)),(50,.d (I (((ak p).map fun l=>[fS l]).length:Nat))),(49,.d (sc (ak p))),(1,.ptr 2 0)],sHp p,3,[],2⟩) (fun j=>∀h:j<(ak p).length,¬16<(ak p)[j].length) (by exact Uw.wM) (fun g5=>?_) (fun j hj _=>?_);rotate_left 1
 ·have he:=TF j hj
  have b5:=b5 j hj;have hgd:¬16<(ak p)[j].length->(fun j=>∀h:j<(ak p).length,¬16<(ak p)[j].length) j:=fun h _=>h;clear TF ER b6;generalize (ak p)[j]=l at *;have hl:(l.map fun s=>[Dat.str s]).length=l.length:=by simp
  by_cases q:16<l.length
  ·rw [b5 q]
   have q' : (16:Int)<((l.map fun s=>[Dat.str s]).length:Nat):=by omega
   repeat (first|refine aw ?_|refine f1 ?_)
   refine bK (aE 2 rfl rfl ?_);exact Uw.wM
  ·have hgd:=hgd q
   have q' : ¬(16:Int)<((l.map fun s=>[Dat.str s]).length:Nat):=by omega
   repeat (first|refine aw ?_|refine f1 ?_)
   exact aK j hgd (by exact Uw.wM)
 have ER:=ER fun j h=>g5 j h h;clear g5 b5 TF
 repeat (first|refine aw ?_|refine f1 ?_)
 refine aH ?_
 repeat (first|refine aw ?_|refine f1 ?_)
 refine cI p.nodes.length (fun j:Nat=>⟨[(63,.d (I j)),(62,.d (I ((p.nodes.map ndL).length:Nat))),(61,.d (bY p.nodes))],sHp p,3,[],2⟩) (fun j=>∀h:j<p.nodes.length,¬(p.nodes[j].kind=10/\16<p.nodes[j].of.length)) (by exact Uw.wM) (fun g6=>?_) (fun j hj _=>?_)
 ·rw [ER fun j h=>g6 j h h]
  repeat (first|refine aw ?_|refine f1 ?_)
  refine aH ?_
  repeat (first|refine aw ?_|refine f1 ?_)
  refine aE 2 rfl rfl ?_;exact Uw.wM
 have he:=N1 j hj;have b6:=b6 j hj;have hgd:¬(p.nodes[j].kind=10/\16<p.nodes[j].of.length)->(fun j=>∀h:j<p.nodes.length,¬(p.nodes[j].kind=10/\16<p.nodes[j].of.length)) j:=fun h _=>h;clear N1 ER;generalize p.nodes[j]=x at *;obtain ⟨xk,xn,xs,xt,xo⟩:=x;have he:(p.nodes.map ndL)[(j:Int).toNat]? = some [I xk,I xn,.str xs,.str xt,.slice 1 (xo.map fun i=>[I i]) false]:=he;simp only at b6 hgd;have hol:(xo.map fun i=>[I i]).length=xo.length:=by simp
 by_cases k10:xk=10
 ·by_cases q:16<xo.length
  ·rw [b6 ⟨k10,q⟩]
   have q' : (16:Int)<((xo.map fun i=>[I i]).length:Nat):=by omega
   subst k10
   repeat (first|refine aw ?_|refine f1 ?_)
   refine bK (aE 2 rfl rfl ?_);exact Uw.wM
  ·have hgd1:=hgd (fun h=>q h.2)
   have q' : ¬(16:Int)<((xo.map fun i=>[I i]).length:Nat):=by omega
   subst k10
   repeat (first|refine aw ?_|refine f1 ?_)
   exact aK j hgd1 (by exact Uw.wM)
 ·have hgd1:=hgd (fun h=>k10 h.1)
  repeat (first|refine aw ?_|refine f1 ?_)
  exact aK j hgd1 (by exact Uw.wM)
end Uw.Tryz
namespace Uw.Tryz
open Go Uw
abbrev Wp (p:Pg):List V:=[.d (.slice 3 (p.decls.map cD) false),.d (.slice 3 (p.ag.map fuL) false),.d (bY p.nodes),.hnd 1,.hnd 2,.d (cG (aJ p)),.d (sc (ak p))]
abbrev wyH (p:Pg) (es:MS):Heap:=[(2,.map none es),(3,.var (Wp p)),(1,.map none (thE p.decls)),(0,pgV p)]
theorem C0 (f:Fu):∀(fs:List Fu) (i:Nat) (es:MS),q9 i (fs++[f]) es=(if (aW (q9 i fs es) (.s f.name)).isSome then q9 i fs es else dx (q9 i fs es) (.s f.name) (I ((i+fs.length:Nat):Int)))
 | [],i,es=>rfl
 | g::fs,i,es=>by
  rw [Xv,q9,C0 f fs,q9,Xt,show i+1+fs.length=i+(fs.length+1) by omega]
theorem Qz (p:Pg) (j:Nat) (h:j<p.ag.length):((∃v,aW (fnE (p.ag.take j)) (.s p.ag[j].name)=some (I v))/\fnE (p.ag.take j)=fnE (p.ag.take (j+1)))\/(aW (fnE (p.ag.take j)) (.s p.ag[j].name)=none/\dx (fnE (p.ag.take j)) (.s p.ag[j].name) (I (j:Nat))=fnE (p.ag.take (j+1))):=by
 have hl:(p.ag.take j).length=j:=by rw [XW];omega
 rw [Xq h];have e:=C0 p.ag[j] (p.ag.take j) 0 [];rw [hl,Xy] at e;show ((∃v,_)/\_=q9 0 _ [])\/(_/\_=q9 0 _ [])
 rw [e];have hg:=Ai p.ag[j].name (p.ag.take j) 0 []
 cases hq:aW (q9 0 (p.ag.take j) []) (.s p.ag[j].name) with
 | none=>exact .inr ⟨hq,by simp [fnE]⟩
 | some v=>
  refine .inl ⟨?_,by simp [fnE]⟩;rw [hq] at hg;simp only [aW,Z7] at hg
  cases hi:(p.ag.take j).findIdx? fun f=>decide (f.name=p.ag[j].name) with
  | none=>rw [hi] at hg;cases hg
  | some i=>rw [hi] at hg;exact ⟨_,hq.trans hg⟩
abbrev wyS (p:Pg) (E:Nat->MS) (j:Nat):St:=⟨[(26,.d (I j)),(25,.d (I ((p.ag.map fuL).length:Nat))),(24,.d (.slice 3 (p.ag.map fuL) false)),(3,.ptr 3 0),(1,.ptr 0 0)],wyH p (E j),4,[],0⟩
theorem TG (p:Pg) (hp:Lim p) (hnm:bC p=true->bh P0 iC [.agg (sCs p)] (sBs p) (.d (.bool (nameP p))) (sBs p)):Ret P0 nJ [pgD p] (I (mX p)):=by
 have hfm:=rX p hp;have hF:=hp.ag;have hfl:(p.ag.map fuL).length=p.ag.length:=by simp
 refine bf D2 rfl ?_
 cases hf:bC p with
 | false=>
  rw [hf] at hfm;have hw:mX p=1:=by rw [mX,if_pos hf]
  rw [hw]
  repeat (first|refine aw ?_|refine f1 ?_)
  exact aC rfl rfl rfl rfl rfl
 | true=>
 rw [hf] at hfm;have how:=mZ p hf hp;have hlo:=sd p hf hp;have hth:=mY p hp.decls;obtain ⟨E,hE⟩:∃E:Nat->MS,∀j,E j=fnE (p.ag.take j):=⟨_,fun _=>rfl⟩
 have hS0:wyS p E 0=⟨[(26,.d (I (0:Nat))),(25,.d (I ((p.ag.map fuL).length:Nat))),(24,.d (.slice 3 (p.ag.map fuL) false)),(3,.ptr 3 0),(1,.ptr 0 0)],wyH p [],4,[],0⟩:=by
  rw [wyS,hE];rfl
 have hSn:wyS p E p.ag.length=⟨[(26,.d (I (p.ag.length:Nat))),(25,.d (I ((p.ag.map fuL).length:Nat))),(24,.d (.slice 3 (p.ag.map fuL) false)),(3,.ptr 3 0),(1,.ptr 0 0)],wyH p (fnE p.ag),4,[],0⟩:=by
  rw [wyS,hE,XE]
 have hst:∀(j:Nat) (h:j<p.ag.length),((∃v,aW (E j) (.s p.ag[j].name)=some (I v))/\E j=E (j+1))\/(aW (E j) (.s p.ag[j].name)=none/\dx (E j) (.s p.ag[j].name) (I (j:Nat))=E (j+1)):=fun j h=>by
  rw [hE,hE];exact Qz p j h
 have hel:∀(j:Nat) (h:j<p.ag.length),(p.ag.map fuL)[(j:Int).toNat]? = some (fuL p.ag[j]):=fun j h=>by simp [h]
 clear hE
 repeat (first|refine aw ?_|refine f1 ?_)
 refine bW ⟨[(3,.ptr 3 0),(1,.ptr 0 0)],wyH p [],4,[],0⟩ ?_ ?_
 ·repeat' (first|refine aw ?_|refine f1 ?_|refine IZ ?_ ?_|refine ae 1 [] hth ?_|refine ae 2 [] hth ?_|refine ae 3 [] hth ?_)
  all_goals first|exact aX (.inl ⟨rfl,Weak.eqs [(1,1),(2,2),(3,3)] rfl rfl rfl rfl rfl rfl rfl rfl rfl rfl⟩)|exact aX (.inl ⟨rfl,Weak.eqs [(1,1),(2,3),(3,2)] rfl rfl rfl rfl rfl rfl rfl rfl rfl rfl⟩)|exact aX (.inl ⟨rfl,Weak.eqs [(1,2),(2,1),(3,3)] rfl rfl rfl rfl rfl rfl rfl rfl rfl rfl⟩)|exact aX (.inl ⟨rfl,Weak.eqs [(1,2),(2,3),(3,1)] rfl rfl rfl rfl rfl rfl rfl rfl rfl rfl⟩)|exact aX (.inl ⟨rfl,Weak.eqs [(1,3),(2,1),(3,2)] rfl rfl rfl rfl rfl rfl rfl rfl rfl rfl⟩)|exact aX (.inl ⟨rfl,Weak.eqs [(1,3),(2,2),(3,1)] rfl rfl rfl rfl rfl rfl rfl rfl rfl rfl⟩)
 repeat (first|refine aw ?_|refine f1 ?_)
 refine cI p.ag.length (wyS p E) (fun _=>True) (ep hS0 ?_) (fun _=>?_) (fun j hj _=>?_)
 ·exact Uw.wM
 rotate_left 1
 ·have he:=hel j hj
  have hs:=hst j hj;clear hel hst hSn hS0 hfm how hlo hth;generalize p.ag[j]=f at *;obtain ⟨fn,fa,fb⟩:=f;have he:(p.ag.map fuL)[(j:Int).toNat]? = some [.str fn,.slice 1 (fa.map fun s=>[Dat.str s]) false,I fb]:=he;simp only at hs
  rcases hs with ⟨⟨v,hv⟩,h2⟩|⟨hv,h2⟩
  ·repeat (first|refine aw ?_|refine f1 ?_|refine m1 ?_)
   exact aK j trivial (by exact Uw.wM)
  ·repeat (first|refine aw ?_|refine f1 ?_|refine m1 ?_)
   exact aK j trivial (by exact Uw.wM)
 rw [hSn];clear hel hst hSn hS0 hfm how hlo hth;have hb:=AP p hp;have ht:=Am p hp;have hnm:=hnm hf;have hs:=Bj p hp;have hm:=fun h=>Bm p hp h;have hmain:nameP p=false->p.ag≠[]:=fun h e=>by
  rw [nameP,X0,X0,db,e] at h;simp at h
 have hw:mX p=(if gg p=true then 2 else if iG p=true then 5 else if nameP p=true then 4 else if pu p=true then 6 else if lG p=true then 7 else 0):=by rw [mX,hf];rfl
 cases h1:gg p with
 | true=>
  rw [h1] at hb;rw [show mX p=2 by rw [hw,h1];rfl];refine aw ?_;refine aH ?_
  repeat (first|refine aw ?_|refine f1 ?_)
  refine fp 6 ?_
  repeat (first|refine aw ?_|refine f1 ?_)
  refine ae 6 [1,2] hb ?_
  repeat (first|refine aw ?_|refine f1 ?_)
  refine oV ?_;exact aC rfl rfl rfl rfl rfl
 | false=>
 rw [h1] at hb
 cases h2:iG p with
 | true=>
  rw [h2] at ht;rw [show mX p=5 by rw [hw,h1,h2];rfl];refine aw ?_;refine aH ?_
  repeat (first|refine aw ?_|refine f1 ?_)
  refine fp 6 ?_
  repeat (first|refine aw ?_|refine f1 ?_)
  refine ae 6 [1,2] hb ?_
  repeat (first|refine aw ?_|refine f1 ?_)
  refine eA ?_
  repeat (first|refine aw ?_|refine f1 ?_)
  refine ae 7 [1,2] ht ?_
  repeat (first|refine aw ?_|refine f1 ?_)
  refine oV ?_;exact aC rfl rfl rfl rfl rfl
 | false=>
 rw [h2] at ht
 cases h3:nameP p with
 | true=>
  rw [h3] at hnm;rw [show mX p=4 by rw [hw,h1,h2,h3];rfl];refine aw ?_;refine aH ?_
  repeat (first|refine aw ?_|refine f1 ?_)
  refine fp 6 ?_
  repeat (first|refine aw ?_|refine f1 ?_)
  refine ae 6 [1,2] hb ?_
  repeat (first|refine aw ?_|refine f1 ?_)
  refine eA ?_
  repeat (first|refine aw ?_|refine f1 ?_)
  refine ae 7 [1,2] ht ?_
  repeat (first|refine aw ?_|refine f1 ?_)
  refine eA ?_
  repeat (first|refine aw ?_|refine f1 ?_)
  refine ae 8 [1,2] hnm ?_
  repeat (first|refine aw ?_|refine f1 ?_)
  refine oV ?_;exact aC rfl rfl rfl rfl rfl
 | false=>
 rw [h3] at hnm
 cases h4:pu p with
 | true=>
  rw [h4] at hs;rw [show mX p=6 by rw [hw,h1,h2,h3,h4];rfl];refine aw ?_;refine aH ?_
  repeat (first|refine aw ?_|refine f1 ?_)
  refine fp 6 ?_
  repeat (first|refine aw ?_|refine f1 ?_)
  refine ae 6 [1,2] hb ?_
  repeat (first|refine aw ?_|refine f1 ?_)
  refine eA ?_
  repeat (first|refine aw ?_|refine f1 ?_)
  refine ae 7 [1,2] ht ?_
  repeat (first|refine aw ?_|refine f1 ?_)
  refine eA ?_
  repeat (first|refine aw ?_|refine f1 ?_)
  refine ae 8 [1,2] hnm ?_
  repeat (first|refine aw ?_|refine f1 ?_)
  refine eA ?_
  repeat (first|refine aw ?_|refine f1 ?_)
  refine ae 9 [1,2] hs ?_
  repeat (first|refine aw ?_|refine f1 ?_)
  refine oV ?_;exact aC rfl rfl rfl rfl rfl
 | false=>
 rw [h4] at hs;have hm:=hm (hmain h3)
 cases h5:lG p with
 | true=>
  rw [h5] at hm;rw [show mX p=7 by rw [hw,h1,h2,h3,h4,h5];rfl];refine aw ?_;refine aH ?_
  repeat (first|refine aw ?_|refine f1 ?_)
  refine fp 6 ?_
  repeat (first|refine aw ?_|refine f1 ?_)
  refine ae 6 [1,2] hb ?_
  repeat (first|refine aw ?_|refine f1 ?_)
  refine eA ?_
  repeat (first|refine aw ?_|refine f1 ?_)
  refine ae 7 [1,2] ht ?_
  repeat (first|refine aw ?_|refine f1 ?_)
  refine eA ?_
  repeat (first|refine aw ?_|refine f1 ?_)
  refine ae 8 [1,2] hnm ?_
  repeat (first|refine aw ?_|refine f1 ?_)
  refine eA ?_
  repeat (first|refine aw ?_|refine f1 ?_)
  refine ae 9 [1,2] hs ?_
  repeat (first|refine aw ?_|refine f1 ?_)
  refine eA ?_
  repeat (first|refine aw ?_|refine f1 ?_)
  refine ae 10 [1,2] hm ?_
  repeat (first|refine aw ?_|refine f1 ?_)
  refine oV ?_;exact aC rfl rfl rfl rfl rfl
 | false=>
 rw [h5] at hm;rw [show mX p=0 by rw [hw,h1,h2,h3,h4,h5];rfl];refine aw ?_;refine aH ?_
 repeat (first|refine aw ?_|refine f1 ?_)
 refine fp 6 ?_
 repeat (first|refine aw ?_|refine f1 ?_)
 refine ae 6 [1,2] hb ?_
 repeat (first|refine aw ?_|refine f1 ?_)
 refine eA ?_
 repeat (first|refine aw ?_|refine f1 ?_)
 refine ae 7 [1,2] ht ?_
 repeat (first|refine aw ?_|refine f1 ?_)
 refine eA ?_
 repeat (first|refine aw ?_|refine f1 ?_)
 refine ae 8 [1,2] hnm ?_
 repeat (first|refine aw ?_|refine f1 ?_)
 refine eA ?_
 repeat (first|refine aw ?_|refine f1 ?_)
 refine ae 9 [1,2] hs ?_
 repeat (first|refine aw ?_|refine f1 ?_)
 refine eA ?_
 repeat (first|refine aw ?_|refine f1 ?_)
 refine ae 10 [1,2] hm ?_
 repeat (first|refine aw ?_|refine f1 ?_)
 refine eA ?_
 repeat (first|refine aw ?_|refine f1 ?_)
 refine oU ?_
 repeat (first|refine aw ?_|refine f1 ?_)
 exact aC rfl rfl rfl rfl rfl
end Uw.Tryz
namespace Uw.Tryz
open Go Uw
abbrev naH (p:Pg) (mv:List V) (fam:Heap):Heap:=(2,.var (sCs p))::(3,.var mv)::(0,.map none (thE p.decls))::(1,.map none (fnE p.ag))::fam
theorem yI {p:Pg} {mv:List V} {fam:Heap} {id:Nat} {b:Blk} (h:look (naH p mv fam) id=some b):(id=2/\b = .var (sCs p))\/(id=3/\b = .var mv)\/(id=0/\b = .map none (thE p.decls))\/(id=1/\b = .map none (fnE p.ag))\/look fam id=some b:=by
 rw [ai] at h;by_cases h2:2=id
 ·rw [if_pos h2] at h;injection h with h;exact .inl ⟨h2.symm,h.symm⟩
 rw [if_neg h2,ai] at h;by_cases h3:3=id
 ·rw [if_pos h3] at h;injection h with h;exact .inr (.inl ⟨h3.symm,h.symm⟩)
 rw [if_neg h3,ai] at h;by_cases h1:0=id
 ·rw [if_pos h1] at h;injection h with h;exact .inr (.inr (.inl ⟨h1.symm,h.symm⟩))
 rw [if_neg h1,ai] at h;by_cases h0:1=id
 ·rw [if_pos h0] at h;injection h with h;exact .inr (.inr (.inr (.inl ⟨h0.symm,h.symm⟩)))
 rw [if_neg h0] at h;exact .inr (.inr (.inr (.inr h)))
theorem QA {p:Pg} {mv:List V} {fam:Heap} {id:Nat} (h:4<=id):look (naH p mv fam) id=look fam id:=by
 rw [ai,if_neg (by omega),ai,if_neg (by omega),ai,if_neg (by omega),ai,if_neg (by omega)]
theorem xl {p:Pg} {ls:List (List Str)} {ms:List MS} {mv:List V} {r n:Nat} (hms:ms.length=ls.length) (hn:n=ls.length):cB (naH p mv (cF ls ms)) (bQ mid 0 n++List.replicate r (.d .aV))=true:=by
 subst hn;rw [dF];intro v hv
 rcases XG.1 hv with hv|hv
 ·obtain ⟨k,hk⟩:=YM.1 hv
  have hkl:k<ls.length:=by
   rcases XR k ls.length with h|h
   ·exact h
   ·rw [Xz (by rw [c8];exact h)] at hk;cases hk
  rw [ka mid ls.length 0 k hkl] at hk;injection hk with hk
  subst hk;have:=qn (rid:=rid) (mid:=mid) (xe ls.length) (ls:=ls) (ms:=ms) (i:=0) (k:=k) (m:=ms[k]) (by omega) (by omega) (by simp [show k<ms.length by omega]);show (look _ _).isSome=true;rw [QA (by simp [mid];omega)];show (look (jD rid mid 0 ls ms) _).isSome=true;rw [this];rfl
 ·rw [YE] at hv
  rw [hv.2];rfl
theorem ES {p:Pg} {ls:List (List Str)} {ms:List MS} {R R' : fk} {H:Heap} {r n:Nat} (hms:ms.length=ls.length) (hl:ls.length<100000) (h1:od (c6 []) R H (naH p (bQ mid 0 ls.length++List.replicate r (.d .aV)) (cF ls ms)) R')
  (e2:look H 2=some (.var (sCs p))) (e3:look H 3=some (.var (bQ mid 0 ls.length++List.replicate r (.d .aV)))) (e0:look H 0=some (.map none (thE p.decls))) (e1:look H 1=some (.map none (fnE p.ag)))
  (ho:Over (cF ls ms) H):Weak ⟨R,H,n,[],2⟩ ⟨R',naH p (bQ mid 0 ls.length++List.replicate r (.d .aV)) (cF ls ms),1000000,[],2⟩:=by
 refine Weak.looks h1 ?_ (by omega) (fun id h _=>?_)
 ·intro id x hx
  rcases yI hx with ⟨rfl,rfl⟩|⟨rfl,rfl⟩|⟨rfl,rfl⟩|⟨rfl,rfl⟩|hx
  ·exact ⟨e2,rfl,by omega⟩
  ·exact ⟨e3,xl hms rfl,by omega⟩
  ·exact ⟨e0,rfl,by omega⟩
  ·exact ⟨e1,rfl,by omega⟩
  ·obtain ⟨g1,g2,g3,_⟩:=fu hx
   exact ⟨by rw [ho id g1 (by omega)];exact hx,g3 _,by omega⟩
 ·rcases (show id=0\/id=1 by omega) with rfl|rfl<;>rfl
end Uw.Tryz
namespace Uw.Tryz
open Go Uw
def Wq:bT:=qL (qL (qR (qL (qR (qR (qR (qR cv.code)))))))
abbrev noL (n:Nat):List (List Str):=List.replicate n []
abbrev nmV (n:Nat):List V:=bQ mid 0 (noL n).length++List.replicate 0 (.d .aV)
abbrev KY (p:Pg) (ms:List MS) (k:Nat):St:=⟨[(59,.d (I k)),(58,.d (I ((p.nodes.map ndL).length:Nat))),(57,.d (bY p.nodes)),(5,.row 3 (ak p).length),(1,.ptr 2 0)],naH p (nmV (ak p).length) (cF (noL (ak p).length) ms),1000000,[],2⟩
abbrev nmG (p:Pg) (k:Nat):Prop:=∀h:k<p.nodes.length,nU p p.nodes[k] ((aJ p).getD k 0)=false
theorem Iy (p:Pg) (hf:bC p=true) (hp:Lim p) (R:Bool) (j:Nat) (hj:j<p.nodes.length) (hone:nU p p.nodes[j] ((aJ p).getD j 0)=true->R=true) (hpre:∀i,i<j->nmG p i) (ms:List MS) (hms:ms=(ak p).map cj) {kk:aB->St->Tree} (hkk:∀s,kk .ret s=Tree.done .ret s) :
  WT P0 (mE (KY p ms) (A8 p.nodes.length (nmG p)) (forM p.nodes.length) j fun e s=>WT P0 (EQ 2 cv.res (.d (.bool R)) (sBs p)) (kk e s)) (exec Wq (KY p ms j) Tree.done):=by
 have hN:=hp.nodes;have hF:=hp.ag;have hnl:(p.nodes.map ndL).length=p.nodes.length:=by simp
 have hll:=kP p;have Ws:(noL (ak p).length).length=(ak p).length:=by simp
 have N2:(noL (ak p).length).length<100000:=by omega
 have Vd:ms.length=(noL (ak p).length).length:=by rw [hms];simp
 have hvl:(nmV (ak p).length).length=(ak p).length:=by rw [Xr,c8];simp
 have hown:=zV hf _ j hj (Xn _);have hol:((aJ p).map fun i=>[I i]).length=p.nodes.length:=by rw [XJ,cS]
 have hoe:((aJ p).map fun i=>[I i])[(j:Int).toNat]? = some [I ((aJ p).getD j 0)]:=by
  have h2:j<(aJ p).length:=by rw [cS];exact hj
  simp [List.getD,h2]
 have he:(p.nodes.map ndL)[(j:Int).toNat]? = some (ndL p.nodes[j]):=by simp [hj]
 have hth:=wZ p p.nodes[j].name;have hfn:=Ey p p.nodes[j].name2;have hG:nU p p.nodes[j] ((aJ p).getD j 0)=false->nmG p j:=fun h _=>h;have hd:∀x o,nU p x o=(if x.kind=10\/x.kind=11 then (db p x.name2).isNone else if x.kind=8 then (bk p x.name).isNone else if x.kind=2 then (bk p x.name).isNone&&!decide (x.name∈(ak p).getD o.toNat []) else false):=fun x o=>rfl;rw [hd] at hone hG;clear hd;generalize (aJ p).getD j 0=o at *;generalize p.nodes[j]=x at *;obtain ⟨xk,xn,xs,xt,xo⟩:=x;have he:(p.nodes.map ndL)[(j:Int).toNat]? = some [I xk,I xn,.str xs,.str xt,cG xo]:=he;simp only at hone hG hth hfn;obtain ⟨l,hl⟩:∃l,(ak p)[o.toNat]? = some l:=⟨(ak p)[o.toNat]'(by omega),by simp⟩
 have hld:(ak p).getD o.toNat []=l:=by rw [List.getD,hl];rfl
 rw [hld] at hone hG;have hmg:(nmV (ak p).length)[o.toNat * 1]? = some (.hnd (mid o.toNat)):=by
  rw [ZS,XM (by rw [c8];omega),ka mid _ 0 _ (by omega),Xy]
 have hlk:∀H,Over (cF (noL (ak p).length) ms) H->look H (mid o.toNat)=some (.map none (cj l)):=fun H ho=>by
  rw [ho _ (by simp only [mid];omega) (by simp only [mid];omega)];have:=qn (xe (noL (ak p).length).length) (ls:=noL (ak p).length) (ms:=ms) (i:=0) (k:=o.toNat) (m:=cj l) (by omega) (by omega) (by rw [hms];simp [hl])
  rwa [Xy] at this
 have hsg:=sM l xs;have tP:∀(Rg:fk) (H:Heap) (nx:Nat),look H 2=some (.var (sCs p))->look H 3=some (.var (nmV (ak p).length))->look H 0=some (.map none (thE p.decls))->look H 1=some (.map none (fnE p.ag))->Over (cF (noL (ak p).length) ms) H->
   (∀mv fam,od (c6 []) Rg H (naH p mv fam) [(59,.d (I ((j+1:Nat):Int))),(58,.d (I ((p.nodes.map ndL).length:Nat))),(57,.d (bY p.nodes)),(5,.row 3 (ak p).length),(1,.ptr 2 0)])->Weak ⟨Rg,H,nx,[],2⟩ (KY p ms (j+1)):=by
  intro Rg H nx e2 e3 e0 e1 ho hR;exact ES Vd N2 (hR _ _) e2 e3 e0 e1 ho
 have hend:∀st:St,st.defers=[]->st.base=2->resV st cv.res=some [.d (.bool true)]->look st.heap 0=some (.map none (thE p.decls))->look st.heap 1=some (.map none (fnE p.ag))->EQ 2 cv.res (.d (.bool true)) (sBs p) .ret st:=by
  intro st h1 _ h3 h4 h5;refine ⟨.inr rfl,h1,_,h3,?_⟩;refine Weak.looks ⟨⟨_,rfl,.inl ⟨rfl,rfl⟩⟩,trivial⟩ ?_ (by show 2<=2;omega) (fun id h _=>?_)
  ·intro id y hy
   have:(id=0/\y = .map none (thE p.decls))\/(id=1/\y = .map none (fnE p.ag)):=by
    have hy:look [(0,Blk.map none (thE p.decls)),(1,Blk.map none (fnE p.ag))] id=some y:=hy;rw [ai] at hy;by_cases h0:0=id
    ·rw [if_pos h0] at hy;injection hy with hy;exact .inl ⟨h0.symm,hy.symm⟩
    rw [if_neg h0,ai] at hy;by_cases h0:1=id
    ·rw [if_pos h0] at hy;injection hy with hy;exact .inr ⟨h0.symm,hy.symm⟩
    rw [if_neg h0] at hy;cases hy
   rcases this with ⟨rfl,rfl⟩|⟨rfl,rfl⟩
   ·exact ⟨h4,rfl,by show 0<2;omega⟩
   ·exact ⟨h5,rfl,by show 1<2;omega⟩
  ·rcases (show id=0\/id=1 by omega) with rfl|rfl<;>rfl
 have hT:(bk p xs=none/\aW (thE p.decls) (.s xs)=none)\/∃kd,bk p xs=some kd/\aW (thE p.decls) (.s xs)=some (I kd):=by
  rw [hth]
  cases bk p xs with
  | none=>exact .inl ⟨rfl,rfl⟩
  | some kd=>exact .inr ⟨kd,rfl,rfl⟩
 have hU:(db p xt=none/\aW (fnE p.ag) (.s xt)=none)\/∃i:Nat,db p xt=some i/\aW (fnE p.ag) (.s xt)=some (I i):=by
  rw [hfn]
  cases db p xt with
  | none=>exact .inl ⟨rfl,rfl⟩
  | some i=>exact .inr ⟨i,rfl,rfl⟩
 clear hth hfn;by_cases k1:xk=10\/xk=11
 ·rcases hU with ⟨u1,u2⟩|⟨i,u1,u2⟩
  ·rw [hone (by rw [if_pos k1,u1];rfl)]
   rcases k1 with rfl|rfl<;>rcases hT with ⟨_,t2⟩|⟨kd,_,t2⟩
   all_goals repeat (first|refine aw ?_|refine f1 ?_|refine m1 ?_)
   all_goals exact ip hkk (hend _ rfl rfl rfl rfl rfl)
  ·have hG1:=hG (by rw [if_pos k1,u1];rfl)
   rcases k1 with rfl|rfl<;>rcases hT with ⟨_,t2⟩|⟨kd,_,t2⟩
   all_goals repeat (first|refine aw ?_|refine f1 ?_|refine m1 ?_)
   all_goals refine aK j hG1 (tP _ _ _ rfl rfl rfl rfl (by (repeat refine br ?_ rfl);exact bq) (fun mv fam=>?_))
   all_goals (repeat' first|exact trivial|refine ⟨⟨_,rfl,?_⟩,?_⟩|exact cN (by first|with_reducible rfl|omega)|exact Or.inl ⟨rfl,rfl⟩)
 obtain ⟨k10,k11⟩:xk≠10/\xk≠11:=by omega
 by_cases k8:xk=8
 ·rcases hT with ⟨t1,t2⟩|⟨kd,t1,t2⟩
  ·rw [hone (by rw [if_neg k1,if_pos k8,t1];rfl)]
   subst k8
   rcases hU with ⟨_,u2⟩|⟨i,_,u2⟩
   all_goals repeat (first|refine aw ?_|refine f1 ?_|refine m1 ?_)
   all_goals exact ip hkk (hend _ rfl rfl rfl rfl rfl)
  ·have hG1:=hG (by rw [if_neg k1,if_pos k8,t1];rfl)
   subst k8
   rcases hU with ⟨_,u2⟩|⟨i,_,u2⟩
   all_goals repeat (first|refine aw ?_|refine f1 ?_|refine m1 ?_)
   all_goals refine aK j hG1 (tP _ _ _ rfl rfl rfl rfl (by (repeat refine br ?_ rfl);exact bq) (fun mv fam=>?_))
   all_goals (repeat' first|exact trivial|refine ⟨⟨_,rfl,?_⟩,?_⟩|exact cN (by first|with_reducible rfl|omega)|exact Or.inl ⟨rfl,rfl⟩)
 by_cases k2:xk=2
 ·rcases hT with ⟨t1,t2⟩|⟨kd,t1,t2⟩
  ·by_cases hin:xs∈l
   ·rw [if_pos hin] at hsg
    have hG1:=hG (by rw [if_neg k1,if_neg k8,if_pos k2,t1];simp [hin]);subst k2
    rcases hU with ⟨_,u2⟩|⟨i,_,u2⟩
    all_goals repeat (first|refine aw ?_|refine f1 ?_|refine m1 ?_)
    all_goals refine kW _ (hlk _ (by (repeat refine br ?_ rfl);exact bq)) ?_
    all_goals repeat (first|refine aw ?_|refine f1 ?_|refine m1 ?_)
    all_goals refine aK j hG1 (tP _ _ _ rfl rfl rfl rfl (by (repeat refine br ?_ rfl);exact bq) (fun mv fam=>?_))
    all_goals (repeat' first|exact trivial|refine ⟨⟨_,rfl,?_⟩,?_⟩|exact cN (by first|with_reducible rfl|omega)|exact Or.inl ⟨rfl,rfl⟩)
   ·rw [if_neg hin] at hsg
    rw [hone (by rw [if_neg k1,if_neg k8,if_pos k2,t1];simp [hin])];subst k2
    rcases hU with ⟨_,u2⟩|⟨i,_,u2⟩
    all_goals repeat (first|refine aw ?_|refine f1 ?_|refine m1 ?_)
    all_goals refine kW _ (hlk _ (by (repeat refine br ?_ rfl);exact bq)) ?_
    all_goals repeat (first|refine aw ?_|refine f1 ?_|refine m1 ?_)
    all_goals exact ip hkk (hend _ rfl rfl rfl rfl rfl)
  ·have hG1:=hG (by rw [if_neg k1,if_neg k8,if_pos k2,t1];rfl)
   subst k2
   rcases hU with ⟨_,u2⟩|⟨i,_,u2⟩
   all_goals repeat (first|refine aw ?_|refine f1 ?_|refine m1 ?_)
   all_goals refine aK j hG1 (tP _ _ _ rfl rfl rfl rfl (by (repeat refine br ?_ rfl);exact bq) (fun mv fam=>?_))
   all_goals (repeat' first|exact trivial|refine ⟨⟨_,rfl,?_⟩,?_⟩|exact cN (by first|with_reducible rfl|omega)|exact Or.inl ⟨rfl,rfl⟩)
 have hG1:=hG (by rw [if_neg k1,if_neg k8,if_neg k2])
 rcases hU with ⟨_,u2⟩|⟨i,_,u2⟩<;>rcases hT with ⟨_,t2⟩|⟨kd,_,t2⟩
 all_goals repeat (first|refine aw ?_|refine f1 ?_|refine m1 ?_)
 all_goals refine aK j hG1 (tP _ _ _ rfl rfl rfl rfl (by (repeat refine br ?_ rfl);exact bq) (fun mv fam=>?_))
 all_goals (repeat' first|exact trivial|refine ⟨⟨_,rfl,?_⟩,?_⟩|exact cN (by first|with_reducible rfl|omega)|exact Or.inl ⟨rfl,rfl⟩)
end Uw.Tryz
namespace Uw
open Go
theorem Weak.TI [Glob] (ρ:Nat->Nat) {R R' : fk} {H H' : Heap} {n n' b:Nat} (h1:od ρ R H H' R') (h2:∀id x,look H' id=some x->(∃y,look H (ρ id)=some y/\nj ρ H H' y x)/\id<n')
  (h3:∀id id',(look H' id).isSome=true->(look H' id').isSome=true->ρ id=ρ id'->id=id') (hb:∀id,id<b->ρ id=id/\((look H id).isSome=true->(look H' id).isSome=true)) (hn:b<=n'):Weak ⟨R,H,n,[],b⟩ ⟨R',H',n',[],b⟩:=
 ⟨ρ,fun i v h=>jU h1 i v h,fun i x h=>.inl (h2 i x h).1,fun i x h=>(h2 i x h).2,rfl,hn,hb,h3,rfl,rfl⟩
end Uw
namespace Uw.Tryz
open Go Uw
def uJ (j b:Nat) (id:Nat):Nat:=if id=mid j then b else id
theorem QB {p:Pg} {k:Nat} {ms:List MS} {m:MS} {R R' : fk} {H:Heap} {r n b:Nat} {mv' : List V} (hms:ms.length=k) (hl:k<100000) (hb:1000000<=b)
  (h1:od (uJ k b) R H (naH p (bQ mid 0 (k+1)++List.replicate r (.d .aV)) (cF (noL (k+1)) (ms++[m]))) R')
  (e2:look H 2=some (.var (sCs p))) (e3:look H 3=some (.var mv')) (hmv:mv' = bQ mid 0 k++[.hnd b]++List.replicate r (.d .aV))
  (e0:look H 0=some (.map none (thE p.decls))) (e1:look H 1=some (.map none (fnE p.ag))) (eb:look H b=some (.map none m)) (ho:Over (cF (noL k) ms) H) :
  Weak ⟨R,H,n,[],2⟩ ⟨R',naH p (bQ mid 0 (k+1)++List.replicate r (.d .aV)) (cF (noL (k+1)) (ms++[m])),1000000,[],2⟩:=by
 subst hmv;have hlow:∀i,i<4->uJ k b i=i:=fun i h=>by unfold uJ;rw [if_neg (by simp only [mid];omega)]
 have hm:∀i,i<k->uJ k b (mid i)=mid i:=fun i h=>by unfold uJ;rw [if_neg (by simp only [mid];omega)]
 have hmk:uJ k b (mid k)=b:=by unfold uJ;rw [if_pos rfl]
 have hnk:(noL k).length=k:=by simp
 have hlen:(noL (k+1)).length=k+1:=by simp
 have bd:∀i x,look (naH p (bQ mid 0 (k+1)++List.replicate r (.d .aV)) (cF (noL (k+1)) (ms++[m]))) i=some x->i<1000000:=by
  intro i x hx
  rcases yI hx with ⟨rfl,rfl⟩|⟨rfl,rfl⟩|⟨rfl,rfl⟩|⟨rfl,rfl⟩|hx
  ·omega
  ·omega
  ·omega
  ·omega
  ·have:=(fu hx).2.1
   rw [hlen] at this;omega
 refine Weak.TI (uJ k b) h1 ?_ ?_ (fun id h=>⟨hlow id (by omega),fun _=>?_⟩) (by omega)
 ·intro id x hx
  refine ⟨?_,bd id x hx⟩
  rcases yI hx with ⟨rfl,rfl⟩|⟨rfl,rfl⟩|⟨rfl,rfl⟩|⟨rfl,rfl⟩|hx
  ·exact ⟨_,by rw [hlow 2 (by omega)];exact e2,dL (by show Blk.var _=Blk.var (fx _ _);simp [fx,V.ren,hlow 0,hlow 1]) rfl⟩
  ·refine ⟨_,by rw [hlow 3 (by omega)];exact e3,dL ?_ (xl (by simp [hms]) hlen.symm)⟩
   show _=Blk.var (fx _ _);have hc:bQ (fun i=>uJ k b (mid i)) 0 k=bQ mid 0 k:=nV k 0 fun i hi=>by simp only [Xy];exact hm i hi
   rw [px,na,sP,uE,hc];simp only [Xy];rw [hmk]
  ·exact ⟨_,by rw [hlow 0 (by omega)];exact e0,dL rfl rfl⟩
  ·exact ⟨_,by rw [hlow 1 (by omega)];exact e1,dL rfl rfl⟩
  ·obtain ⟨g1,g2,g3,g4⟩:=fu hx
   refine ⟨x,?_,dL (g4 _).symm (g3 _)⟩
   rcases vY hx with ⟨i,m',k1,k2,k3,rfl,rfl⟩|⟨i,l',k1,k2,k3,k4,rfl,rfl⟩
   ·rw [Xy]
    rw [hlen] at k1;by_cases hi:i<k
    ·rw [hm i hi,ho _ (by simp only [mid];omega) (by simp only [mid];omega)]
     have:=qn (xe (noL k).length) (ls:=noL k) (ms:=ms) (i:=0) (k:=i) (m:=m') (by omega) (by omega) (by rwa [XM (by omega)] at k3)
     rwa [Xy] at this
    ·obtain rfl:i=k:=by omega
     rw [XV (by omega),hms,ZA] at k3;injection k3 with k3
     rw [hmk,<- k3];exact eb
   ·exfalso
    have:=XK k3;rw [YE] at this;exact k4 this.2
 ·intro id id' h h' he
  obtain ⟨x,hx⟩:=Zg.1 h;obtain ⟨x',hx'⟩:=Zg.1 h';have b1:=bd id x hx;have b2:=bd id' x' hx';unfold uJ at he
  split at he<;>split at he<;>omega
 ·rcases (show id=0\/id=1 by omega) with rfl|rfl<;>rfl
end Uw.Tryz
namespace Uw.Tryz
open Go Uw
theorem KZ {p:Pg} (h:db p fU=none):nameP p=true:=by rw [nameP,h];rfl
theorem K0 {p:Pg} (j:Nat) (h:j<p.nodes.length) (hn:nU p p.nodes[j] ((aJ p).getD j 0)=true):nameP p=true:=by
 have h2:j<(aJ p).length:=by rw [cS];exact h
 have hz:j<(p.nodes.zip (aJ p)).length:=by rw [Zw];omega
 have:((p.nodes.zip (aJ p)).any fun y=>nU p y.1 y.2)=true:=YA.2 ⟨_,XF hz,by
  rw [Zn];simpa [List.getD,h2] using hn⟩
 rw [nameP,this];simp
theorem K1 {p:Pg} (j:Nat) (h:j<p.decls.length) (hk:p.decls[j].kind<0\/3<p.decls[j].kind):nameP p=true:=by
 have:(p.decls.any fun d=>decide (d.kind<0)||decide (3<d.kind))=true:=YA.2 ⟨_,XF h,by simpa using hk⟩;rw [nameP,this];simp
theorem N3 {p:Pg} (h0:db p fU≠none) (h1:∀(j:Nat) (h:j<p.nodes.length),nU p p.nodes[j] ((aJ p).getD j 0)=false) (h2:∀(j:Nat) (h:j<p.decls.length),¬(p.decls[j].kind<0\/3<p.decls[j].kind)):nameP p=false:=by
 have e1:((p.nodes.zip (aJ p)).any fun y=>nU p y.1 y.2)=false:=X2.2 fun y hy=>by
  obtain ⟨j,hj,rfl⟩:=XQ.1 hy;rw [Zw] at hj;have hj1:j<p.nodes.length:=by omega
  have hj2:j<(aJ p).length:=by omega
  have:=h1 j hj1;rw [Zn];simpa [List.getD,hj2] using this
 have e2:(p.decls.any fun d=>decide (d.kind<0)||decide (3<d.kind))=false:=X2.2 fun d hd=>by
  obtain ⟨j,hj,rfl⟩:=XQ.1 hd;have:=h2 j hj;simpa using this
 rw [nameP,e1,e2]
 cases h:db p fU with
 | none=>exact absurd h h0
 | some i=>rfl
end Uw.Tryz
namespace Uw.Tryz
open Go Uw
theorem Rj {p:Pg} {k b nx:Nat} {ms:List MS} {m m' : MS} {R R' : fk} {H:Heap} {r n:Nat} {mv' : List V} (hms:ms.length=k) (hl:k<100000) (hb:1000000<=b) (hnx:b<nx) (hmv:mv' = bQ mid 0 k++[.hnd b]++List.replicate r (.d .aV))
  (h1:od (c6 []) R H ((b,.map none m')::naH p mv' (cF (noL k) ms)) R') (e2:look H 2=some (.var (sCs p))) (e3:look H 3=some (.var mv')) (e0:look H 0=some (.map none (thE p.decls))) (e1:look H 1=some (.map none (fnE p.ag))) (eb:look H b=some (.map none m)) (hm:m=m')
  (ho:Over (cF (noL k) ms) H):Weak ⟨R,H,n,[],2⟩ ⟨R',(b,.map none m')::naH p mv' (cF (noL k) ms),nx,[],2⟩:=by
 subst hm;have hkl:(noL k).length=k:=by simp
 have hlk:∀i,(look (naH p mv' (cF (noL k) ms)) i).isSome=true->(look ((b,.map none m)::naH p mv' (cF (noL k) ms)) i).isSome=true:=by
  intro i h;rw [ai]
  split
  ·rfl
  ·exact h
 refine Weak.looks h1 ?_ (by omega) (fun id h _=>?_)
 ·intro id x hx
  rw [ai] at hx;by_cases h2:b=id
  ·rw [if_pos h2] at hx;injection hx with hx;subst h2 hx;exact ⟨eb,rfl,by omega⟩
  rw [if_neg h2] at hx
  rcases yI hx with ⟨rfl,rfl⟩|⟨rfl,rfl⟩|⟨rfl,rfl⟩|⟨rfl,rfl⟩|hx
  ·refine ⟨e2,?_,by omega⟩
   show cB _ _=true;rw [dF];intro v hv;simp only [sCs,XA,List.mem_nil_iff,or_false] at hv
   rcases hv with rfl|rfl|rfl|rfl|rfl|rfl|rfl
   ·rfl
   ·rfl
   ·rfl
   ·exact hlk 0 rfl
   ·exact hlk 1 rfl
   ·rfl
   ·rfl
  ·refine ⟨e3,?_,by omega⟩
   show cB _ _=true;have hc:=xl (p:=p) (ls:=noL k) (ms:=ms) (mv:=mv') (r:=r) (n:=k) (by rw [hkl,hms]) hkl.symm;rw [dF] at hc ⊢;intro v hv;rw [hmv] at hv
   rcases XG.1 hv with hv|hv
   ·rcases XG.1 hv with hv|hv
    ·obtain ⟨q,hq⟩:=YM.1 hv
     have hql:q<k:=by
      rcases XR q k with h|h
      ·exact h
      ·rw [Xz (by rw [c8];exact h)] at hq;cases hq
     have hg:=ka mid k 0 q hql;rw [hq] at hg;injection hg with hg
     have:=hc v (Zr _ hv);rw [hg] at this ⊢;exact hlk _ this
    ·simp only [XA,List.mem_nil_iff,or_false] at hv
     subst hv;show (look _ _).isSome=true;rw [ai,if_pos rfl];rfl
   ·rw [(YE.1 hv).2];rfl
  ·exact ⟨e0,rfl,by omega⟩
  ·exact ⟨e1,rfl,by omega⟩
  ·obtain ⟨g1,g2,g3,_⟩:=fu hx
   rw [hkl] at g2;exact ⟨by rw [ho id g1 (by omega)];exact hx,g3 _,by omega⟩
 ·rcases (show id=0\/id=1 by omega) with rfl|rfl
  ·exact hlk 0 rfl
  ·exact hlk 1 rfl
end Uw.Tryz
namespace Uw.Tryz
open Go Uw
abbrev nL (p:Pg):Nat:=((ak p).map fun l=>[fS l]).length
abbrev nmR (p:Pg):fk:=[(5,.row 3 (nL p)),(1,.ptr 2 0)]
abbrev N4 (n r:Nat):List V:=bQ mid 0 n++List.replicate r (.d .aV)
abbrev Iz (p:Pg) (j:Nat):St:=⟨(33,.d (I j))::(32,.d (I (nL p:Nat)))::(31,.d (sc (ak p)))::nmR p,naH p (N4 j (nL p - j)) (cF (noL j) (((ak p).take j).map cj)),1000000,[],2⟩
theorem Hk {k b i:Nat} (h:i<4):uJ k b i=i:=by unfold uJ;rw [if_neg (by simp only [mid];omega)]
theorem QC {j b k n:Nat} {h h' : Heap} (hk:k<4) (hc:(look h' k).isSome=true):VW (uJ j b) h h' (.row k n) (.row k n):=.inl ⟨by rw [V.ren,Hk hk],hc⟩
theorem QD {j b k o:Nat} {h h' : Heap} (hk:k<4) (hc:(look h' k).isSome=true):VW (uJ j b) h h' (.ptr k o) (.ptr k o):=.inl ⟨by rw [V.ren,Hk hk],hc⟩
theorem QE {p:Pg} {k b:Nat} {R:fk} {H:Heap} {mv:List V} {fam:Heap} (h5:look R 5=some (.row 3 (nL p))) (h1:look R 1=some (.ptr 2 0)):od (uJ k b) R H (naH p mv fam) (nmR p):=
 ⟨⟨_,h5,QC (by omega) rfl⟩,⟨_,h1,QD (by omega) rfl⟩,trivial⟩
def Wt:bT:=qL (qL (qR (qL (qR (qR (qR cv.code))))))
theorem Hl (p:Pg) (hp:Lim p) (hls:∀l∈ak p,l.length<1000000000) (j:Nat) (hj:j<nL p) (hpre:∀i,i<j->True) {QQ:aB->St->Prop}:WT P0 (mE (Iz p) (A8 (nL p) fun _=>True) (forM (nL p)) j QQ) (exec Wt (Iz p j) Tree.done):=by
 have hnl:nL p=(ak p).length:=by simp
 have hll:=kP p;have hF:=hp.ag;have hj2:j<(ak p).length:=by rw [<- hnl];exact hj
 have he:((ak p).map fun l=>[fS l])[(j:Int).toNat]? = some [fS (ak p)[j]]:=by simp [hj2]
 have hml:(N4 j (nL p - j)).length=nL p:=by rw [Xr,c8,Yr];omega
 have hlL:=hls _ (XF hj2);have htk:(ak p).take (j+1)=(ak p).take j++[(ak p)[j]]:=Xq hj2;have hms:(((ak p).take j).map cj).length=j:=by rw [XJ,XW];omega
 generalize (ak p)[j]=l at *;have he:((ak p).map fun l=>[fS l])[(j:Int).toNat]? = some [.slice 1 (l.map fun s=>[Dat.str s]) false]:=he;have hrl:(l.map fun s=>[Dat.str s]).length=l.length:=by simp
 have hsm:∀v,(N4 j (nL p - j)).set ((j:Int).toNat * 1) v=bQ mid 0 j++[v]++List.replicate (nL p - (j+1)) (.d .aV):=fun v=>by
  have:=Es (bQ mid 0 j) (V.d .aV) v (nL p - (j+1));rw [c8,show nL p - (j+1)+1=nL p - j by omega] at this;rw [show (j:Int).toNat * 1=j by omega];exact this
 have hS:Iz p (j+1)=⟨(33,.d (I ((j+1:Nat):Int)))::(32,.d (I (nL p:Nat)))::(31,.d (sc (ak p)))::nmR p,naH p (bQ mid 0 (j+1)++List.replicate (nL p - (j+1)) (.d .aV)) (cF (noL (j+1)) (((ak p).take j).map cj++[cj l])),1000000,[],2⟩:=by
  rw [Iz,htk,Yc];rfl
 have hl5:j<100000:=by omega
 obtain ⟨E,hE⟩:∃E:Nat->MS,∀i,E i=cj (l.take i):=⟨_,fun _=>rfl⟩
 have hE0:([]:MS)=E 0:=by rw [hE];rfl
 have hEn:E l.length=cj l:=by rw [hE,XE]
 have hEs:∀(i:Nat) (h:i<l.length),dx (E i) (.s l[i]) (.bool true)=E (i+1):=fun i h=>by rw [hE,hE,Xq h,qo]
 have hge:∀(i:Nat) (h:i<l.length),(l.map fun s=>[Dat.str s])[(i:Int).toNat]? = some [.str l[i]]:=fun i h=>by simp [h]
 obtain ⟨mv',hmv⟩:∃mv',mv' = bQ mid 0 j++[V.hnd 1000000]++List.replicate (nL p - (j+1)) (.d .aV):=⟨_,rfl⟩
 have NA:(N4 j (nL p - j)).set ((j:Int).toNat * 1) (V.hnd 1000000)=mv':=by rw [hsm,hmv]
 have hmg:mv'[(j:Int).toNat * 1]? = some (.hnd 1000000):=by
  rw [hmv,XH,XV (by rw [c8];omega),c8];simp
 have Wb:mv'.length=nL p:=by rw [<- NA,Zj];exact hml
 repeat (first|refine aw ?_|refine f1 ?_)
 refine cI l.length (fun i:Nat=>⟨(44,.d (I i))::(43,.d (I ((l.map fun s=>[Dat.str s]).length:Nat)))::(42,.d (fS l))::(6,.d (I j))::(33,.d (I j))::(32,.d (I (nL p:Nat)))::(31,.d (sc (ak p)))::nmR p,(1000000,.map none (E i))::naH p mv' (cF (noL j) (((ak p).take j).map cj)),1000001,[],2⟩) (fun _=>True) ?_ (fun _=>?_) (fun i hi _=>?_)
 ·refine Rj hms hl5 (Xn _) (by omega) hmv ?_ rfl (by rw [<- NA];rfl) rfl rfl rfl hE0 (by (repeat refine br ?_ rfl);exact bq)
  repeat' first|exact trivial|refine ⟨⟨_,rfl,?_⟩,?_⟩|exact cN (by first|with_reducible rfl|omega)|exact Or.inl ⟨rfl,rfl⟩
 ·refine aw ?_
  refine aH ?_;refine aw ?_;refine aK j trivial (ep hS ?_);exact QB (b:=1000000) hms hl5 (by omega) ⟨⟨_,rfl,cN rfl⟩,⟨_,rfl,.inl ⟨rfl,rfl⟩⟩,⟨_,rfl,.inl ⟨rfl,rfl⟩⟩,QE rfl rfl⟩ rfl rfl hmv rfl rfl (by rw [<- hEn];rfl) (by (repeat refine br ?_ rfl);exact bq)
 have hg:=hge i hi;have hs:=hEs i hi;generalize l[i]=nm at *
 repeat (first|refine aw ?_|refine f1 ?_)
 refine zh ((1000000,.map none (dx (E i) (.s nm) (.bool true)))::naH p mv' (cF (noL j) (((ak p).take j).map cj))) (Jx _ _ _ _) ?_
 repeat (first|refine aw ?_|refine f1 ?_)
 refine aK i trivial ?_;refine Rj hms hl5 (Xn _) (by omega) hmv ?_ rfl rfl rfl rfl rfl hs (by (repeat refine br ?_ rfl);exact bq)
 repeat' first|exact trivial|refine ⟨⟨_,rfl,?_⟩,?_⟩|exact cN (by first|with_reducible rfl|omega)|exact Or.inl ⟨rfl,rfl⟩
end Uw.Tryz
namespace Uw.Tryz
open Go Uw
theorem ET (p:Pg) (hp:Lim p):∀l∈ak p,l.length<1000000000:=fun l hl=>by
 obtain ⟨i,hi,rfl⟩:=XQ.1 hl;have hN:=hp.nodes;have:=Ag p hp p.nodes.length i (ak p)[i] (by rw [wa];simp [hi]);omega
abbrev TJ (p:Pg) (j:Nat):St:=⟨[(114,.d (I j)),(113,.d (I ((p.decls.map cD).length:Nat))),(112,.d (.slice 3 (p.decls.map cD) false))],[(0,.map none (thE p.decls)),(1,.map none (fnE p.ag))],2,[],2⟩
abbrev QF (p:Pg) (k:Nat):Prop:=∀h:k<p.decls.length,¬(p.decls[k].kind<0\/3<p.decls[k].kind)
def Wu:bT:=qL (qL (qR (qL (qR (qR (qR (qR (qR cv.code))))))))
theorem Hm (p:Pg) (hp:Lim p) (R:Bool) (j:Nat) (hj:j<p.decls.length) (hone:p.decls[j].kind<0\/3<p.decls[j].kind->R=true) (hpre:∀i,i<j->QF p i) {kk:aB->St->Tree} (hkk:∀s,kk .ret s=Tree.done .ret s) :
  WT P0 (mE (TJ p) (A8 p.decls.length (QF p)) (forM p.decls.length) j fun e s=>WT P0 (EQ 2 cv.res (.d (.bool R)) (sBs p)) (kk e s)) (exec Wu (TJ p j) Tree.done):=by
 have hD:=hp.decls;have hdl:(p.decls.map cD).length=p.decls.length:=by simp
 have he:(p.decls.map cD)[(j:Int).toNat]? = some (cD p.decls[j]):=by simp [hj]
 have hG:¬(p.decls[j].kind<0\/3<p.decls[j].kind)->QF p j:=fun h _=>h;generalize p.decls[j]=x at *;obtain ⟨xk,xn,xv⟩:=x;simp only at hone hG
 first
  | (have he:(p.decls.map cD)[(j:Int).toNat]? = some [I xk,.str xn,I xv]:=he)
  | skip
 by_cases k0:xk<0
 ·rw [hone (.inl k0)]
  repeat (first|refine aw ?_|refine f1 ?_)
  refine ip hkk (aE 2 rfl rfl ?_);exact Uw.wM
 by_cases k3:3<xk
 ·rw [hone (.inr k3)]
  repeat (first|refine aw ?_|refine f1 ?_)
  refine ip hkk (aE 2 rfl rfl ?_);exact Uw.wM
 have hG1:=hG (by omega)
 repeat (first|refine aw ?_|refine f1 ?_)
 exact aK j hG1 (by exact Uw.wM)
theorem Bt (p:Pg) (hf:bC p=true) (hp:Lim p):bh P0 iC [.agg (sCs p)] (sBs p) (.d (.bool (nameP p))) (sBs p):=by
 have hmn:=Ey p fU
 cases hm:db p fU with
 | none=>
  rw [KZ hm];rw [hm] at hmn;have hmn:aW (fnE p.ag) (.s [109,97,105,110])=none:=hmn;refine aF kD rfl ?_
  repeat (first|refine aw ?_|refine f1 ?_|refine m1 ?_)
  refine aE 2 rfl rfl ?_;exact Uw.wM
 | some i0=>
 rw [hm] at hmn;have hmn:aW (fnE p.ag) (.s [109,97,105,110])=some (I (i0:Nat)):=hmn;have hll:=kP p;have hF:=hp.ag;have hN:=hp.nodes;have hD:=hp.decls;have hi0:i0<p.ag.length:=by
  rw [db] at hm;exact (X5.1 hm).1
 have hnl:nL p=(ak p).length:=by simp
 have hmk:(decide (((nL p:Nat):Int)=(nL p:Nat))&&decide ((0:Int)<=(nL p:Nat))&&decide ((((nL p:Nat):Nat):Int) * ((8:Nat):Int)<=70368744177664))=true:=by rw [hnl];simp;omega
 have hpi:(0:Int)<(nL p:Nat):=by omega
 have WM:(p.nodes.map ndL).length=p.nodes.length:=by simp
 have hdl:(p.decls.map cD).length=p.decls.length:=by simp
 have h0:db p fU≠none:=by rw [hm];exact fun h=>by cases h
 have Vq:=fun j (h:j<p.nodes.length)=>K0 (p:=p) j h;have yY:=fun j (h:j<p.decls.length)=>K1 (p:=p) j h;have hall:=fun h1 h2=>N3 (p:=p) h0 h1 h2;clear hm h0;have hls:=ET p hp;have hSn:Iz p (nL p)=⟨(33,.d (I (nL p:Nat)))::(32,.d (I (nL p:Nat)))::(31,.d (sc (ak p)))::nmR p,naH p (nmV (ak p).length) (cF (noL (ak p).length) ((ak p).map cj)),1000000,[],2⟩:=by
  have e:(ak p).take (nL p)=ak p:=XB (by omega);have e2:N4 (nL p) (nL p - nL p)=nmV (ak p).length:=by
   show _=bQ mid 0 (noL (ak p).length).length++_;rw [ZA,hnl,Yr]
  rw [Iz,e,e2];rw [show noL (nL p)=noL (ak p).length by rw [hnl]]
 have hS0:KY p ((ak p).map cj) 0=⟨(59,.d (I ((0:Nat):Int)))::(58,.d (I ((p.nodes.map ndL).length:Nat)))::(57,.d (bY p.nodes))::nmR p,naH p (nmV (ak p).length) (cF (noL (ak p).length) ((ak p).map cj)),1000000,[],2⟩:=by
  rw [KY,nmR,hnl]
 have Ws:(noL (ak p).length).length=(ak p).length:=by simp
 have hms:((ak p).map cj).length=(noL (ak p).length).length:=by simp
 have N2:(noL (ak p).length).length<100000:=by omega
 generalize nameP p=R at *;refine aF kD rfl ?_
 repeat (first|refine aw ?_|refine f1 ?_|refine m1 ?_)
 refine cI (nL p) (Iz p) (fun _=>True) ?_ (fun _=>?_) (fun j hj hpre=>?_);rotate_left 2
 ·exact Hl p hp hls j hj hpre
 ·refine ES (ls:=noL 0) (ms:=[]) (r:=nL p - 0) rfl (by simp) ?_ rfl rfl rfl rfl (by (repeat refine br ?_ rfl);exact bq)
  repeat' first|exact trivial|refine ⟨⟨_,rfl,?_⟩,?_⟩|exact cN (by first|with_reducible rfl|omega)|exact Or.inl ⟨rfl,rfl⟩
 rw [hSn];refine aw ?_;refine aH ?_
 repeat (first|refine aw ?_|refine f1 ?_)
 refine cI p.nodes.length (KY p ((ak p).map cj)) (nmG p) (ep hS0 ?_) (fun g2=>?_) (fun j hj hpre=>?_);rotate_left 2
 ·exact Iy p hf hp R j hj (Vq j hj) hpre _ rfl (fun s=>rfl)
 ·refine ES (r:=0) hms N2 ?_ rfl rfl rfl rfl (by (repeat refine br ?_ rfl);exact bq)
  repeat' first|exact trivial|refine ⟨⟨_,rfl,?_⟩,?_⟩|exact cN (by first|with_reducible rfl|omega)|exact Or.inl ⟨rfl,rfl⟩
 have hall:=hall fun j h=>g2 j h h;refine aw ?_;refine aH ?_
 repeat (first|refine aw ?_|refine f1 ?_)
 refine cI p.decls.length (TJ p) (QF p) ?_ (fun g3=>?_) (fun j hj hpre=>?_);rotate_left 2
 ·exact Hm p hp R j hj (yY j hj) hpre (fun s=>rfl)
 ·exact Uw.wM
 rw [hall fun j h=>g3 j h h];refine aw ?_;refine aH ?_
 repeat (first|refine aw ?_|refine f1 ?_)
 refine aE 2 rfl rfl ?_;exact Uw.wM
theorem Hn (p:Pg) (hp:Lim p):Ret P0 nJ [pgD p] (I (mX p)):=TG p hp fun hf=>Bt p hf hp
end Uw.Tryz
namespace Uw.Tryz
open Go Uw
theorem x7 {g:Int->Nat->List In4} (hg:∀k a b,(g k a).length=(g k b).length):∀(l:List Int) (a b:Nat),(layAll g l a).length=(layAll g l b).length
 | [],_,_=>rfl
 | k::r,a,b=>by rw [layAll,layAll,Xr,Xr,hg k a b,x7 hg r _ (b+(g k b).length)]
theorem Hq {ns:List Nd} {N:Nms}:∀(f:Nat) (k:Int) (a b:Nat),(jE ns N f k a).length=(jE ns N f k b).length
 | 0,_,_,_=>rfl
 | f+1,k,a,b=>by
  have ih:=Hq (ns:=ns) (N:=N) f;rw [jE,jE];simp only
  split
  ·split
   ·simp only [Xr,Xt]
    rw [ih _ a b,ih _ (a+_+1) (b+(jE ns N f (((ns.getD k.toNat default).of).getD 0 0) b).length+1)]
   ·simp only [Xr,Xt]
    rw [ih _ a b,ih (((ns.getD k.toNat default).of).getD 1 0) (a+_+1) (b+(jE ns N f (((ns.getD k.toNat default).of).getD 0 0) b).length+1),ih (((ns.getD k.toNat default).of).getD 2 0) _ (b+(jE ns N f (((ns.getD k.toNat default).of).getD 0 0) b).length+1+(jE ns N f (((ns.getD k.toNat default).of).getD 1 0) (b+(jE ns N f (((ns.getD k.toNat default).of).getD 0 0) b).length+1)).length+1)]
  ·split
   ·simp only [Xr,Xt]
    rw [ih _ a b,ih _ (a+_+1) (b+(jE ns N f (((ns.getD k.toNat default).of).getD 0 0) b).length+1)]
   ·rw [Xr,Xr,x7 ih _ a b]
def yp (ns:List Nd) (N:Nms) (k:Int):Nat:=(lay ns N k 0).length
theorem wk {ns:List Nd} {N:Nms} (k:Int) (a:Nat):(lay ns N k a).length=yp ns N k:=Hq _ _ _ _
theorem N5 (N:Nms) (x:Nd):(eS N x).length<=1:=by
 unfold eS
 repeat' split
 all_goals simp
theorem Hr {ns:List Nd} {N:Nms}:∀(l:List Int) (a:Nat),(layAll (lay ns N) l a).length=(l.map (yp ns N)).sum
 | [],_=>rfl
 | k::r,a=>by rw [layAll,Xr,wk,Hr r,Yk,aah]
theorem AQ {l:List Int} {W:Int->Nat}:(l.length=2->(l.map W).sum=W (l.getD 0 0)+W (l.getD 1 0))/\(l.length=3->(l.map W).sum=W (l.getD 0 0)+W (l.getD 1 0)+W (l.getD 2 0)):=by
 constructor
 ·intro h
  match l,h with
  | [a,b],_=>simp
 ·intro h
  match l,h with
  | [a,b,c],_=>simp;omega
theorem QG {ns:List Nd} {N:Nms} (hL:Lays ns) (k:Nat) (hk:k<ns.length):yp ns N (k:Int)<=2+(ns[k].of.map (yp ns N)).sum:=by
 rw [yp,Ab N hL k hk 0];have h13:=hL.ifs k hk;have h14:=hL.xg k hk
 split
 ·rename_i k13
  split
  ·rename_i h3
   have h2:ns[k].of.length=2:=by have:=h13 k13;omega
   rw [AQ.1 h2];simp only [Xr,Xt,wk];omega
  ·rename_i h3
   have h2:ns[k].of.length=3:=by have:=h13 k13;omega
   rw [AQ.2 h2];simp only [Xr,Xt,wk];omega
 ·split
  ·rename_i k14
   rw [AQ.1 (h14 k14)];simp only [Xr,Xt,X3,wk];omega
  ·rw [Xr,Hr]
   have:=N5 N ns[k];omega
theorem C2 {W:Int->Nat} {c:Nat}:∀(l:List Nd) (w:List Nat),w.length=l.length->(∀(i:Nat) (h:i<l.length),w.getD i 0<=c+(l[i].of.map W).sum)->w.sum<=c * l.length+((l.flatMap (·.of)).map W).sum
 | [],w,hw,_=>by
  have:w=[]:=XD hw;subst this;simp
 | x::l,[],hw,_=>by simp at hw
 | x::l,v::w,hw,h=>by
  have h0:=h 0 (by simp);have ih:=C2 l w (by simpa using hw) fun i hi=>h (i+1) (Nat.succ_lt_succ hi);simp only [List.getD_cons_zero,YW] at h0;rw [aah,Za,Yc,List.sum_append,Xt,Nat.mul_add];omega
theorem K2 {p:Pg} (h:bC p=true):(iN p).Perm ((List.range p.nodes.length).map fun (k:Nat)=>(k:Int)):=by
 refine (List.perm_ext_iff_of_nodup (zT h) ?_).2 fun a=>⟨fun ha=>?_,fun ha=>?_⟩
 ·rw [ZC,List.pairwise_map]
  exact (ZC.1 List.nodup_range).imp fun hab e=>hab (Int.ofNat.inj e)
 ·obtain ⟨h1,h2⟩:=yH h a ha
  exact Yf.2 ⟨a.toNat,YK.2 (by omega),by omega⟩
 ·obtain ⟨k,hk,rfl⟩:=Yf.1 ha
  refine List.count_pos_iff.1 ?_;rw [ql h k (YK.1 hk)];decide
theorem QH {l:List Nat} {a:Nat} (h:a∈l):a<=l.sum:=by
 induction l with
 | nil=>simp at h
 | cons b l ih=>
  rw [aah]
  rcases XA.1 h with rfl|h
  ·omega
  ·have:=ih h;omega
theorem QI {p:Pg} (h:bC p=true) (N:Nms) (f:Nat) (hf:f<p.ag.length) (a:Nat):(lay p.nodes N p.ag[f].body a).length<=2 * p.nodes.length:=by
 have hL:=kO h;have h1:=C2 (c:=2) (W:=yp p.nodes N) p.nodes ((List.range p.nodes.length).map fun (k:Nat)=>yp p.nodes N (k:Int)) (by simp) fun i hi=>by
  have:=QG (N:=N) hL i hi;simpa [List.getD,hi] using this
 have h2:=((K2 h).map (yp p.nodes N)).sum_nat;rw [iN,Yc,List.sum_append,aak,aak] at h2;have h3:(yp p.nodes N ∘ fun (k:Nat)=>(k:Int))=fun (k:Nat)=>yp p.nodes N (k:Int):=rfl;rw [h3] at h2;have h4:yp p.nodes N p.ag[f].body<=(p.ag.map (yp p.nodes N ∘ fun x=>x.body)).sum:=QH (Yf.2 ⟨p.ag[f],XF hf,rfl⟩);rw [wk];omega
abbrev cnB (p:Pg):List Blk:=[.map none (tgE p.decls),.map none (fuE p.ag),.map none (hpE p.ag.length (bL p))]
abbrev cnV (p:Pg):V:=.agg [.hnd 0,.hnd 1,.hnd 2,.d (cG (lI p (bL p)))]
def lcE (l:List Str):MS:=l.zipIdx.foldl (fun es y=>dx es (.s y.1) (I ((y.2:Nat):Int))) []
theorem IA (l:List Str):lcE l=hpE 0 l:=by simp [lcE,hpE]
theorem TK (s:Str) (l:List Str) (h:l.Nodup):aW (lcE l) (.s s)=(lV l s).map I:=by
 rw [IA,Iq 0 s l h]
 cases lV l s<;>simp
theorem N6 (l:List Str) (s:Str):lcE (l++[s])=dx (lcE l) (.s s) (I (l.length:Nat)):=by rw [IA,IA,Ap,Xy]
abbrev iP0:In4:=⟨1,0,0,0⟩
abbrev iRt:In4:=⟨17,0,0,0⟩
def mkF (p:Pg) (l:List Str):Mk:=⟨p.nodes,tgE p.decls,fuE p.ag,hpE p.ag.length (bL p),lcE l,cG (lI p (bL p))⟩
theorem Vr {p:Pg} (h:May p) (f:Nat) (hf:f<p.ag.length):TA (mkF p ((ak p).getD f [])) (fh p f):=by
 refine ⟨fun s=>?_,fun s=>?_,fun s=>?_,fun s=>?_⟩
 ·show aW (tgE p.decls) (.s s)=_
  rw [S8 p h.names.1];show _=((bk p s).map fun k=>(k,((sb p s:Nat):Int))).map _
  cases bk p s<;>rfl
 ·show (aW (fuE p.ag) (.s s)).getD (I 0)=I (((db p s).getD 0:Nat):Int)
  rw [Ip p h.names.2.1]
  cases db p s<;>rfl
 ·show (aW (hpE p.ag.length (bL p)) (.s s)).getD (I 0)=I (match lV (bL p) s with|some i=>(p.ag.length:Nat)+i|none=>0)
  have e:=Iq p.ag.length s (bL p) (nY _ _ ZB);rw [e]
  cases lV (bL p) s<;>rfl
 ·show aW (lcE ((ak p).getD f [])) (.s s)=(lV ((ak p).getD f []) s).map I
  rw [TK];have:=(h.locals f hf).1.2.1;rw [h.lof f hf] at this;exact this
theorem K3 (p:Pg) (te fe he:MS) (pi:List Int) (l:List Str) (c0:List In4) (f kb:Nat) (ga:List Str) (gn:Str) (hp:Lim p) (hloc:Ret P0 mL [pgD p,I f] (fS l)) (KX:(p.ag.map fuL)[(f:Int).toNat]? = some [.str gn,.slice 1 (ga.map fun s=>[Dat.str s]) false,I kb]) (hfi:(f:Int)<((p.ag.map fuL).length:Nat)) (hl:l.length<=16) (hc0:c0.length<900000)
  (C3:bh P0 aT [.ptr 0 0,.d (I kb)] (mkB ⟨p.nodes,te,fe,he,lcE l,cG pi⟩ []) (.tuple []) (mkB ⟨p.nodes,te,fe,he,lcE l,cG pi⟩ c0)) :
  bh P0 gI [pgA p,.agg [.hnd 0,.hnd 1,.hnd 2,.d (cG pi)],.d (I f)] [.map none te,.map none fe,.map none he] (.agg [.d (I (ga.length:Nat)),.d (I (l.length:Nat)),.ref 3 (c0++[iP0]++[iRt]).length 0 (c0++[iP0]++[iRt]).length]) [.map none te,.map none fe,.map none he,.mt 4 (c0++[iP0]++[iRt]).length ((c0++[iP0]++[iRt]).map in4)]:=by
 have x6:=bI ⟨p.nodes,te,fe,he,lcE l,cG pi⟩ c0 (by omega) 1 0 0 0;have AK:=bI ⟨p.nodes,te,fe,he,lcE l,cG pi⟩ (c0++[iP0]) (by simp;omega) 17 0 0 0;generalize (c0++[iP0]++[iRt])=c2 at *;generalize (c0++[iP0])=c1 at *;have hF:=hp.ag;have hsl:(l.map fun s=>[Dat.str s]).length=l.length:=by simp
 have hgl:(ga.map fun s=>[Dat.str s]).length=ga.length:=by simp
 obtain ⟨E,hE⟩:∃E:Nat->MS,∀j,E j=lcE (l.take j):=⟨_,fun _=>rfl⟩
 have hE0:E 0=[]:=by rw [hE];rfl
 have hEn:lcE l=E l.length:=by rw [hE,XE]
 have hst:∀(j:Nat) (h:j<l.length),dx (E j) (.s l[j]) (I (j:Nat))=E (j+1):=fun j h=>by
  rw [hE,hE,Xq h,N6,XW,ZQ (by omega)]
 have hel:∀(j:Nat) (h:j<l.length),(l.map fun s=>[Dat.str s])[(j:Int).toNat]? = some [.str l[j]]:=fun j h=>by simp [h]
 rw [hEn] at C3 x6 AK;clear hEn hE;rw [<- hgl,<- hsl];refine aF ye rfl ?_
 repeat (first|refine aw ?_|refine f1 ?_|refine m1 ?_)
 refine cI l.length (fun j=>⟨[(27,.d (I j)),(26,.d (I ((l.map fun s=>[Dat.str s]).length:Nat))),(25,.d (fS l)),(9,.d (fS l)),(8,.ptr 8 0),(7,.ptr 6 0),(6,.ptr 5 0)],[(7,.map none (E j)),(8,.var [.d (bY p.nodes),.hnd 0,.hnd 1,.hnd 2,.d (cG pi),.hnd 7,.d .nil]),(6,.var [.d (.str gn),.d (.slice 1 (ga.map fun s=>[Dat.str s]) false),.d (I kb)]),(5,.var [.d (I 0),.d (I 0),.d .nil]),(2,.map none he),(1,.map none fe),(0,.map none te)],9,[],3⟩) (fun _=>True) (ep (by rw [hE0]) ?_) (fun _=>?_) (fun j hj _=>?_)
 ·exact Uw.wM
 rotate_left 1
 ·have he2:=hel j hj
  have hs:=hst j hj;generalize l[j]=s at *
  repeat (first|refine aw ?_|refine f1 ?_|refine m1 ?_)
  exact aK j trivial (by exact Uw.wM)
 clear hel hst
 repeat (first|refine aw ?_|refine f1 ?_)
 refine aH ?_
 repeat (first|refine aw ?_|refine f1 ?_)
 refine ae 9 [8,0,1,2,7] C3 ?_
 repeat (first|refine aw ?_|refine f1 ?_)
 refine ae 10 [8,0,1,2,7,9] x6 ?_
 repeat (first|refine aw ?_|refine f1 ?_)
 refine ae 10 [8,0,1,2,7,9] AK ?_
 repeat (first|refine aw ?_|refine f1 ?_)
 refine aE 3 rfl rfl (Weak.ofR [(3,9)] ?_ ?_ rfl rfl ?_ rfl rfl rfl)
 ·refine ⟨⟨_,rfl,?_⟩,trivial⟩
  exact Or.inr (Or.inr (Or.inr (Or.inr (Or.inl ⟨_,_,rfl,rfl,.inl ⟨rfl,rfl⟩,.inl ⟨rfl,rfl⟩,.inl ⟨rfl,rfl⟩,trivial⟩))))
 ·exact ⟨⟨.inl ⟨_,rfl,⟨rfl,rfl⟩⟩,rfl⟩,⟨.inl ⟨_,rfl,⟨rfl,rfl⟩⟩,rfl⟩,⟨.inl ⟨_,rfl,⟨rfl,rfl⟩⟩,rfl⟩,⟨.inl ⟨_,rfl,⟨rfl,rfl,rfl⟩⟩,rfl⟩,trivial⟩
 ·exact ⟨⟨rfl,fun _=>rfl⟩,⟨rfl,fun _=>rfl⟩,⟨rfl,fun _=>rfl⟩,trivial⟩
theorem QJ (p:Pg) (hp:Lim p) (hm:May p) (f:Nat) (hf:f<p.ag.length):bh P0 gI [pgA p,cnV p,.d (I f)] (cnB p) (.agg [.d (I (p.ag[f].args.length:Nat)),.d (I (((ak p).getD f []).length:Nat)),.ref 3 (d5 p f p.ag[f]).ins.length 0 (d5 p f p.ag[f]).ins.length]) (cnB p++[.mt 4 (d5 p f p.ag[f]).ins.length ((d5 p f p.ag[f]).ins.map in4)]):=by
 have hF:=hp.ag;have hN:=hp.nodes;have hloc:=Ah p hp f;have hll:=(hm.locals f hf)
 rw [hm.lof f hf] at hloc hll;have hlen:=hll.2;have hfb:=kL hm.formed f hf;have hfew:=QI hm.formed (fh p f) f hf 0;have hbody:(d5 p f p.ag[f]).ins=lay p.nodes (fh p f) p.ag[f].body 0++[iP0]++[iRt]:=by simp [d5,lay]
 obtain ⟨kb,hkb⟩:∃k:Nat,p.ag[f].body=(k:Int):=⟨p.ag[f].body.toNat,by omega⟩
 have C3:=AO (mkF p ((ak p).getD f [])) (fh p f) (Vr hm f hf) (kO hm.formed) (fun i h=>Nat.lt_trans (hp.of _ (XF h)) (by decide)) kb (by show kb<p.nodes.length;omega) [];rw [hkb] at hfew hbody;have C3:bh P0 aT [.ptr 0 0,.d (I kb)] (mkB (mkF p ((ak p).getD f [])) []) (.tuple []) (mkB (mkF p ((ak p).getD f [])) (lay p.nodes (fh p f) kb 0)):=C3 (by show 0+(lay p.nodes (fh p f) kb 0).length<1000000;omega);have KX:(p.ag.map fuL)[(f:Int).toNat]? = some (fuL p.ag[f]):=by simp [hf]
 have hfl:(p.ag.map fuL).length=p.ag.length:=by simp
 have hfi:(f:Int)<((p.ag.map fuL).length:Nat):=by omega
 have Wv:(p.ag.map fuL)[(f:Int).toNat]? = some [.str p.ag[f].name,.slice 1 (p.ag[f].args.map fun s=>[Dat.str s]) false,I kb]:=by rw [KX,fuL,hkb];rfl
 rw [hbody];exact K3 p _ _ _ (lI p (bL p)) _ _ f kb _ _ hp hloc Wv hfi hlen (by omega) C3
theorem AU (p:Pg) (hp:Lim p) (hm:May p) (f:Nat) (hf:f<p.ag.length):bh P0 gI [pgA p,cnV p,.d (I f)] (cnB p) (.agg ((bdC (d5 p f p.ag[f])).map V.d)) (cnB p):=by
 refine kT.freeze (QJ p hp hm f hf) ?_;rintro r h0 n0 ⟨rfl,rfl,rfl⟩;refine ⟨_,bdC (d5 p f p.ag[f]),bn 0 (cnB p),3,rfl,?_,?_,Xn _,?_,rfl,rfl,rfl⟩
 ·have e:((d5 p f p.ag[f]).ins.map in4).drop 0=(d5 p f p.ag[f]).ins.map in4:=rfl
  have e2:((d5 p f p.ag[f]).ins.map in4).take (d5 p f p.ag[f]).ins.length=(d5 p f p.ag[f]).ins.map in4:=XB (by simp);have e3:Nat.beq (d5 p f p.ag[f]).ins.length (d5 p f p.ag[f]).ins.length=true:=ZL _;simp only [frz,cnB,bn,look,e,e2,e3,List.append,HAppend.hAppend,Append.append];rfl
 ·intro id x hx
  rw [kr] at hx ⊢;simp only [Yy,if_true,ZK] at hx ⊢;obtain ⟨h1,h2⟩:=XT.1 hx;refine ⟨by rw [XM h1];exact hx,?_,h1⟩
  rcases id with _|_|_|id
  ·subst h2;rfl
  ·subst h2;rfl
  ·subst h2;rfl
  ·have:id+1+1+1<3:=h1
   omega
 ·intro id hid _
  rw [kr]
  rcases id with _|_|_|id
  ·rfl
  ·rfl
  ·rfl
  ·have:id+1+1+1<3:=hid
   omega
end Uw.Tryz
namespace Uw.Tryz
open Go Uw
def QK (res:List gB):Tree->Option Dat
 | .done .ret st=>match st.defers,resV st res with
  | [],some vs=>match dD st.heap vs,wB st.heap vs with
   | some ds,true=>some (jM ds)
   | _,_=>none
  | _,_=>none
 | _=>none
theorem QL {P:Program} {res:List gB} {t:Tree} {r:Dat} (h:QK res t=some r):WT P (Dx res r) t:=by
 unfold QK at h
 split at h
 ·split at h
  ·rename_i hd hv
   split at h
   ·rename_i h1 h2
    injection h with h
    exact aC hd hv h1 h2 h
   ·cases h
  ·cases h
 ·cases h
theorem QM {P:Program} {f:FuncId} {m:bD} (hf:aQ P f m) {args:List Dat} {r:Dat} (hn:Nat.ble args.length m.n=true) (h:QK m.res (exec m.code (kV args) Tree.done)=some r):Ret P f args r:=bf hf hn (QL h)
theorem IB (f k:Int):QK jZ.res (exec jZ.code (kV [I f,I k]) Tree.done)=some (.agg [I 2,I 5,.slice 4 ((ix f k).ins.map in4) true]):=by kernel_rfl
theorem IC (f k:Int):Ret P0 ii [I f,I k] (.agg [I 2,I 5,.slice 4 ((ix f k).ins.map in4) true]):=QM vv rfl (IB f k)
theorem xm (f k:Int):Ret P0 ii [I f,I k] (.agg (bdC (ix f k))):=(IC f k).res (.agg (.cons (.refl _) (.cons (.refl _) (.cons (.slice (.refl _)) (.refl _)))))
theorem jg (p:Pg):∀(l:List Fu) (i j:Nat) (h:j<l.length),(fO p i l)[j]? = some (d5 p (i+j) l[j])
 | [],i,j,h=>by simp at h
 | g::r,i,0,h=>by rw [fO];rfl
 | g::r,i,j+1,h=>by
  have:=jg p r (i+1) j (by simpa using h);rw [fO,Yz,this,show i+1+j=i+(j+1) by omega];rfl
theorem eT (p:Pg):∀(l:List Fu) (i:Nat),(fO p i l).length=l.length
 | [],_=>rfl
 | g::r,i=>by rw [fO,Xt,eT p r,Xt]
theorem qw (p:Pg):∀(l:List Str) (i:Nat),(li p i l).length=l.length
 | [],_=>rfl
 | g::r,i=>by rw [li,Xt,qw p r,Xt]
theorem uK (p:Pg):∀(l:List Str) (i j:Nat) (h:j<l.length),(li p i l)[j]? = some (ix (((db p l[j]).getD 0:Nat):Int) ((i+j:Nat):Int))
 | [],i,j,h=>by simp at h
 | g::r,i,0,h=>by rw [li];rfl
 | g::r,i,j+1,h=>by
  have:=uK p r (i+1) j (by simpa using h);rw [li,Yz,this,show i+1+j=i+(j+1) by omega];rfl
abbrev Ww (p:Pg):Heap:=[(5,.var [.hnd 2,.hnd 3,.hnd 4,.d (cG (lI p (bL p)))]),(4,.map none (hpE p.ag.length (bL p))),(3,.map none (fuE p.ag)),(2,.map none (tgE p.decls)),(1,.var [.d .nil,.d .nil,.d (I 0),.d (I 0),.d (I 0),.d (I 0)]),(0,.var [.d (.slice 3 (p.decls.map cD) false),.d (.slice 3 (p.ag.map fuL) false),.d (bY p.nodes)])]
abbrev ocR:fk:=[(6,.ptr 6 0),(5,.ptr 5 0),(2,.ptr 1 0),(1,.ptr 0 0)]
abbrev ocH (p:Pg) (cl fs:List (List Dat)) (a b c m:Int):Heap:=(8,.arr 1 cl)::(7,.arr 3 fs)::(6,.var [.ref 7 0 0 fs.length,.ref 8 0 0 cl.length,.d (I a),.d (I b),.d (I c),.d (I m)])::Ww p
abbrev Ht (p:Pg) (CL:Nat->List (List Dat)) (A B C:Nat->Nat) (m:Int) (j:Nat):St:=⟨(28,.d (I j))::(27,.d (I ((p.decls.map cD).length:Nat)))::(26,.d (.slice 3 (p.decls.map cD) false))::ocR,ocH p (CL j) [] (A j:Nat) (B j:Nat) (C j:Nat) m,9,[],0⟩
abbrev QN (p:Pg) (CL:List (List Dat)) (FS:Nat->List (List Dat)) (a b c m:Int) (j:Nat):St:=⟨(65,.d (I j))::(64,.d (I ((p.ag.map fuL).length:Nat)))::(63,.d (.slice 3 (p.ag.map fuL) false))::ocR,ocH p CL (FS j) a b c m,9,[],0⟩
abbrev TL (p:Pg) (CL:List (List Dat)) (FS:Nat->List (List Dat)) (a b c m:Int) (j:Nat):St:=⟨(87,.d (I j))::(86,.d (I (((lI p (bL p)).map fun i=>[I i]).length:Nat)))::(85,.d (cG (lI p (bL p))))::ocR,ocH p CL (FS j) a b c m,9,[],0⟩
theorem pA (ds:List Dec) (k:Int) (j:Nat) (h:j<ds.length):dG (ds.take (j+1)) k=dG (ds.take j) k+if ds[j].kind=k then 1 else 0:=by
 rw [Xq h,dG,dG,ZW,aan];simp
theorem AV (ds:List Dec) (k:Int) (j:Nat):dG (ds.take j) k<=j:=by
 have:dG (ds.take j) k<=(ds.take j).length:=ZR;rw [XW] at this;omega
abbrev K4:Dat:=.agg [.nil,.nil,I 0,I 0,I 0,I 0]
abbrev ocG (p:Pg) (j:Nat):Prop:=∀h:j<p.ag.length,¬400<(d5 p j p.ag[j]).ins.length
theorem JH (p:Pg) (hp:Lim p) (hm:May p) (hy:Ret P0 nJ [pgD p] (I 0)) (c:Dat) (e:Int) (hone:∀(j:Nat) (h:j<p.ag.length),400<(d5 p j p.ag[j]).ins.length->c=K4/\e=2) (hall:(∀j,j<p.ag.length->ocG p j)->c=cdD (gw p)/\e=0):Ret P0 fK [pgD p] (.tuple [c,I e]):=by
 have hnu:=xj p hp hm;have hbo:=AU p hp hm;have hF:=hp.ag;have hD:=hp.decls;have hN:=hp.nodes;have hfl:(p.ag.map fuL).length=p.ag.length:=by simp
 have hdl:(p.decls.map cD).length=p.decls.length:=by simp
 have hpl:((lI p (bL p)).map fun i=>[I i]).length=(bL p).length:=by simp [lI]
 have hmain:(aW (fuE p.ag) (.s [109,97,105,110])).getD (I 0)=I (((db p fU).getD 0:Nat):Int):=by
  have:=Ip p hm.names.2.1 fU;rw [show fU=[109,97,105,110] from rfl] at this;rw [this];show _=I (((db p [109,97,105,110]).getD 0:Nat):Int)
  cases db p [109,97,105,110]<;>rfl
 obtain ⟨CL,hCL⟩:∃E:Nat->List (List Dat),∀j,E j=(((p.decls.take j).filter fun d=>decide (d.kind=0)).map (·.n)).map fun i=>[I i]:=⟨_,fun _=>rfl⟩
 obtain ⟨A,hA⟩:∃E:Nat->Nat,∀j,E j=dG (p.decls.take j) 1:=⟨_,fun _=>rfl⟩
 obtain ⟨B,hB⟩:∃E:Nat->Nat,∀j,E j=dG (p.decls.take j) 2:=⟨_,fun _=>rfl⟩
 obtain ⟨C,hC⟩:∃E:Nat->Nat,∀j,E j=dG (p.decls.take j) 3:=⟨_,fun _=>rfl⟩
 obtain ⟨FS,hFS⟩:∃E:Nat->List (List Dat),∀j,E j=((fO p 0 p.ag).take j).map bdC:=⟨_,fun _=>rfl⟩
 obtain ⟨GS,hGS⟩:∃E:Nat->List (List Dat),∀j,E j=(fO p 0 p.ag).map bdC++((li p p.ag.length (bL p)).take j).map bdC:=⟨_,fun _=>rfl⟩
 have hdel:∀(j:Nat) (h:j<p.decls.length),(p.decls.map cD)[(j:Int).toNat]? = some (cD p.decls[j]):=fun j h=>by simp [h]
 have hcs:∀(j:Nat) (h:j<p.decls.length),(CL j).length<=j/\A j<=j/\B j<=j/\C j<=j/\
   ((p.decls[j].kind=0->CL (j+1)=CL j++(List.replicate 1 [Dat.int .i64 0]).set 0 [I p.decls[j].n])/\(p.decls[j].kind≠0->CL (j+1)=CL j))/\
   ((p.decls[j].kind=1->A (j+1)=A j+1)/\(p.decls[j].kind≠1->A (j+1)=A j))/\((p.decls[j].kind=2->B (j+1)=B j+1)/\(p.decls[j].kind≠2->B (j+1)=B j))/\((p.decls[j].kind=3->C (j+1)=C j+1)/\(p.decls[j].kind≠3->C (j+1)=C j)):=fun j h=>by
  refine ⟨?_,by rw [hA];exact AV _ _ _,by rw [hB];exact AV _ _ _,by rw [hC];exact AV _ _ _,⟨fun e=>?_,fun e=>?_⟩,⟨fun e=>?_,fun e=>?_⟩,⟨fun e=>?_,fun e=>?_⟩,⟨fun e=>?_,fun e=>?_⟩⟩
  ·rw [hCL,XJ,XJ]
   have:=List.length_filter_le (fun d:Dec=>decide (d.kind=0)) (p.decls.take j);rw [XW] at this;omega
  ·rw [hCL,hCL,Xq h,List.filter_append];simp [e]
  ·rw [hCL,hCL,Xq h,List.filter_append];simp [e]
  ·rw [hA,hA,pA _ _ _ h,if_pos e]
  ·rw [hA,hA,pA _ _ _ h,if_neg e];rfl
  ·rw [hB,hB,pA _ _ _ h,if_pos e]
  ·rw [hB,hB,pA _ _ _ h,if_neg e];rfl
  ·rw [hC,hC,pA _ _ _ h,if_pos e]
  ·rw [hC,hC,pA _ _ _ h,if_neg e];rfl
 have hfs:∀(j:Nat) (h:j<p.ag.length),(FS j).length<=j/\FS (j+1)=FS j++(List.replicate 1 [Dat.int .i64 0,Dat.int .i64 0,Dat.nil]).set 0 (bdC (d5 p j p.ag[j])):=fun j h=>by
  have hb:=jg p p.ag 0 j h;rw [Xy] at hb;refine ⟨by rw [hFS,XJ,XW];omega,?_⟩;rw [hFS,hFS,ZZ,hb,Yc];rfl
 have hgs:∀(j:Nat) (h:j<(bL p).length),(GS j).length=p.ag.length+j/\GS (j+1)=GS j++(List.replicate 1 [Dat.int .i64 0,Dat.int .i64 0,Dat.nil]).set 0 (bdC (ix (((db p (bL p)[j]).getD 0:Nat):Int) ((GS j).length:Nat))):=fun j h=>by
  have hb:=uK p (bL p) p.ag.length j h;have hl:(GS j).length=p.ag.length+j:=by
   rw [hGS,Xr,XJ,XJ,XW,eT,qw];omega
  refine ⟨hl,?_⟩;rw [hl,hGS,hGS,ZZ,hb,Yc,<- XH];rfl
 have QO:∀(j:Nat) (h:j<(bL p).length),((lI p (bL p)).map fun i=>[I i])[(j:Int).toNat]? = some [I (((db p (bL p)[j]).getD 0:Nat):Int)]:=fun j h=>by simp [lI,h]
 have hFG:FS p.ag.length=GS 0:=by
  rw [hFS,hGS,XB (by rw [eT];exact Xn _)];simp
 have hpn:(bL p).length<=p.nodes.length:=by
  have:∀(r:List Nd) (l:List Str),(fD r l).length<=l.length+r.length:=by
   intro r
   induction r with
   | nil=>intro l;simp [fD]
   | cons x r ih=>
    intro l;rw [fD];refine X7 (ih _) ?_
    split
    ·simp<;>omega
    ·simp<;>omega
  have:=this p.nodes [];simpa [bL] using this
 have hR:cdD (gw p) = .agg [.slice 3 (((GS (bL p).length).drop 0).take (GS (bL p).length).length) false,.slice 1 (((CL p.decls.length).drop 0).take (CL p.decls.length).length) false,I (A p.decls.length:Nat),I (B p.decls.length:Nat),I (C p.decls.length:Nat),I (((db p fU).getD 0:Nat):Int)]:=by
  rw [XX,XE,XX,XE,hGS,hCL,hA,hB,hC,XE,XB (l:=li p p.ag.length (bL p)) (by rw [qw];exact Xn _),<- Yc];rfl
 have hS1:Ht p CL A B C (((db p fU).getD 0:Nat):Int) 0=⟨(28,.d (I (0:Nat)))::(27,.d (I ((p.decls.map cD).length:Nat)))::(26,.d (.slice 3 (p.decls.map cD) false))::ocR,ocH p [] [] (0:Nat) (0:Nat) (0:Nat) (((db p fU).getD 0:Nat):Int),9,[],0⟩:=by
  rw [Ht,hCL,hA,hB,hC];rfl
 have hS2:∀a b c m:Int,∀cl,QN p cl FS a b c m 0=⟨(65,.d (I (0:Nat)))::(64,.d (I ((p.ag.map fuL).length:Nat)))::(63,.d (.slice 3 (p.ag.map fuL) false))::ocR,ocH p cl [] a b c m,9,[],0⟩:=fun a b c m cl=>by
  rw [QN,hFS];rfl
 have hFl:∀(j:Nat),(FS j).length<=100000:=fun j=>by
  rw [hFS,XJ,XW,eT];omega
 rw [hR] at hall;clear hR hCL hA hB hC hFS hGS;generalize (((db p fU).getD 0:Nat):Int)=mn at *;refine bf tG rfl ?_
 repeat (first|refine aw ?_|refine f1 ?_|refine m1 ?_)
 refine ae 2 [] hnu ?_
 repeat (first|refine aw ?_|refine f1 ?_|refine m1 ?_)
 refine cK (I 0) _ hmain ?_
 repeat (first|refine aw ?_|refine f1 ?_|refine m1 ?_)
 refine cI p.decls.length (Ht p CL A B C mn) (fun _=>True) (ep hS1 ?_) (fun _=>?_) (fun j hj _=>?_)
 ·exact Uw.wM
 rotate_left 1
 ·have he:=hdel j hj
  obtain ⟨g1,g2,g3,g4,g5,g6,g7,g8⟩:=hcs j hj;clear hdel hcs hfs hgs QO hFl hbo hnu;generalize p.decls[j]=d at *;obtain ⟨dk,ds,dn⟩:=d;have he:(p.decls.map cD)[(j:Int).toNat]? = some [I dk,.str ds,I dn]:=he;simp only at g5 g6 g7 g8;obtain ⟨a5,b5⟩:=g5;obtain ⟨a6,b6⟩:=g6;obtain ⟨a7,b7⟩:=g7;obtain ⟨a8,b8⟩:=g8;by_cases k0:dk=0
  ·subst k0
   have e5:=a5 rfl;have e6:=b6 (by decide);have e7:=b7 (by decide);have e8:=b8 (by decide);clear a5 b5 a6 b6 a7 b7 a8 b8
   repeat (first|refine aw ?_|refine f1 ?_|refine m1 ?_)
   refine aK j trivial (ep (by rw [Ht,e5,e6,e7,e8]) ?_);exact Uw.wM
  by_cases k1:dk=1
  ·subst k1
   have e5:=b5 (by decide);have e6:=a6 rfl;have e7:=b7 (by decide);have e8:=b8 (by decide);clear a5 b5 a6 b6 a7 b7 a8 b8
   repeat (first|refine aw ?_|refine f1 ?_|refine m1 ?_)
   refine aK j trivial (ep (by rw [Ht,e5,e6,e7,e8]) ?_);exact Uw.wM
  by_cases k2:dk=2
  ·subst k2
   have e5:=b5 (by decide);have e6:=b6 (by decide);have e7:=a7 rfl;have e8:=b8 (by decide);clear a5 b5 a6 b6 a7 b7 a8 b8
   repeat (first|refine aw ?_|refine f1 ?_|refine m1 ?_)
   refine aK j trivial (ep (by rw [Ht,e5,e6,e7,e8]) ?_);exact Uw.wM
  by_cases k3:dk=3
  ·subst k3
   have e5:=b5 (by decide);have e6:=b6 (by decide);have e7:=b7 (by decide);have e8:=a8 rfl;clear a5 b5 a6 b6 a7 b7 a8 b8
   repeat (first|refine aw ?_|refine f1 ?_|refine m1 ?_)
   refine aK j trivial (ep (by rw [Ht,e5,e6,e7,e8]) ?_);exact Uw.wM
  have e5:=b5 k0;have e6:=b6 k1;have e7:=b7 k2;have e8:=b8 k3
  repeat (first|refine aw ?_|refine f1 ?_|refine m1 ?_)
  refine aK j trivial (ep (by rw [Ht,e5,e6,e7,e8]) ?_);exact Uw.wM
 clear hdel hcs
 repeat (first|refine aw ?_|refine f1 ?_)
 refine aH ?_
 repeat (first|refine aw ?_|refine f1 ?_)
 refine cI p.ag.length (QN p (CL p.decls.length) FS (A p.decls.length:Nat) (B p.decls.length:Nat) (C p.decls.length:Nat) mn) (ocG p) (ep (hS2 _ _ _ _ _) ?_) (fun hgood=>?_) (fun j hj hpre=>?_)
 ·exact Uw.wM
 rotate_left 1
 ·have hb:=hbo j hj
  obtain ⟨g1,g2⟩:=hfs j hj;have hone:=hone j hj;have hG:¬400<(d5 p j p.ag[j]).ins.length->ocG p j:=fun h _=>h;clear hfs hgs QO hFl hbo hnu hall;generalize d5 p j p.ag[j]=b at *;obtain ⟨ba,bl,bi⟩:=b;have hb:bh P0 gI [pgA p,cnV p,.d (I j)] (cnB p) (.agg [.d (I ba),.d (I bl),.d (.slice 4 (bi.map in4) false)]) (cnB p):=hb;simp only at hone hG;by_cases hw:400<bi.length
  ·obtain ⟨rfl,rfl⟩:=hone hw
   have hfw:(400:Int)<((bi.map in4).length:Nat):=by rw [XJ];omega
   repeat (first|refine aw ?_|refine f1 ?_|refine m1 ?_)
   refine ae 9 [2,3,4] hb ?_
   repeat (first|refine aw ?_|refine f1 ?_|refine m1 ?_)
   exact bK (aC rfl rfl rfl rfl rfl)
  have hG1:=hG hw;have hfw:¬(400:Int)<((bi.map in4).length:Nat):=by rw [XJ];omega
  have g2:FS (j+1)=FS j++(List.replicate 1 [Dat.int .i64 0,Dat.int .i64 0,Dat.nil]).set 0 [I ba,I bl,.slice 4 (bi.map in4) false]:=g2
  repeat (first|refine aw ?_|refine f1 ?_|refine m1 ?_)
  refine ae 9 [2,3,4] hb ?_
  repeat (first|refine aw ?_|refine f1 ?_|refine m1 ?_)
  refine aK j hG1 (ep (by rw [QN,g2]) ?_);exact Uw.wM
 clear hfs hbo hone;obtain ⟨rfl,rfl⟩:=hall hgood;clear hall hgood
 repeat (first|refine aw ?_|refine f1 ?_)
 refine aH ?_
 repeat (first|refine aw ?_|refine f1 ?_)
 refine cI (bL p).length (TL p (CL p.decls.length) GS (A p.decls.length:Nat) (B p.decls.length:Nat) (C p.decls.length:Nat) mn) (fun _=>True) (ep (by rw [TL,<- hFG]) ?_) (fun _=>?_) (fun j hj _=>?_)
 ·exact Uw.wM
 rotate_left 1
 ·have he:=QO j hj
  obtain ⟨g1,g2⟩:=hgs j hj;have hh:=xm (((db p (bL p)[j]).getD 0:Nat):Int) ((GS j).length:Nat);clear hgs QO hFl hnu;generalize ix (((db p (bL p)[j]).getD 0:Nat):Int) ((GS j).length:Nat)=b at *;generalize (((db p (bL p)[j]).getD 0:Nat):Int)=fi at *;obtain ⟨ba,bl,bi⟩:=b;have hh:Ret P0 ii [I fi,I ((GS j).length:Nat)] (.agg [I ba,I bl,.slice 4 (bi.map in4) false]):=hh;have g2:GS (j+1)=GS j++(List.replicate 1 [Dat.int .i64 0,Dat.int .i64 0,Dat.nil]).set 0 [I ba,I bl,.slice 4 (bi.map in4) false]:=g2
  repeat (first|refine aw ?_|refine f1 ?_|refine m1 ?_)
  refine aK j trivial (ep (by rw [TL,g2]) ?_);exact Uw.wM
 repeat (first|refine aw ?_|refine f1 ?_)
 refine aH ?_
 repeat (first|refine aw ?_|refine f1 ?_)
 exact aC rfl rfl rfl rfl rfl
theorem lX (p:Pg) (hp:Lim p):Ret P0 fK [pgD p] (.tuple [cdD (ofP p).1,I (ofP p).2]):=by
 have hy:=Hn p hp;have hno:DLe K4 (cdD Eo):=.agg (.cons (.nil 3) (.cons (.nil 1) (.refl _)));by_cases hw:mX p=0
 ·rw [hw] at hy
  have hm:=Ig hw
  cases ha:(fO p 0 p.ag).any fun b=>decide (400<b.ins.length) with
  | true=>
   have e:ofP p=(Eo,2):=by rw [ofP,if_neg (by simp [hw]),ha];rfl
   rw [e];refine Ret.res (JH p hp hm hy K4 2 (fun _ _ _=>⟨rfl,rfl⟩) fun hall=>?_) (.tuple (.cons hno (.refl _)));obtain ⟨b,hb,hl⟩:=YA.1 ha;obtain ⟨j,hj,rfl⟩:=XQ.1 hb;rw [eT] at hj;have:=jg p p.ag 0 j hj;rw [Xy] at this;have h2:=(XT.1 this).2;rw [h2] at hl;exact absurd (by simpa using hl) (hall j hj hj)
  | false=>
   have e:ofP p=(gw p,0):=by rw [ofP,if_neg (by simp [hw]),ha];rfl
   rw [e];refine JH p hp hm hy _ 0 (fun j hj hl=>?_) fun _=>⟨rfl,rfl⟩
   have:=jg p p.ag 0 j hj;rw [Xy] at this;have h2:=X2.1 ha _ (XK this);simp at h2;omega
 ·have e:ofP p=(Eo,mX p):=by rw [ofP,if_pos hw]
  rw [e];refine Ret.res (r:=.tuple [K4,I (mX p)]) ?_ (.tuple (.cons hno (.refl _)));generalize mX p=w at *;refine bf tG rfl ?_
  repeat (first|refine aw ?_|refine f1 ?_|refine m1 ?_)
  exact aC rfl rfl rfl rfl rfl
end Uw.Tryz
