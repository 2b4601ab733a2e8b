/- B8: Pf Pg Ph Pi Te Tf Tf2 Tg Th Bu Tj Pj Pk Pl Pm Pn Pn2 Pp Po Pq Tk Pr Qs Ca Cd Ce (merged by merge2.py from the working texts). -/
import Derived.Test.YtkmkjfkpnmhaiaaGreatDoorB7
import Derived.Test.YtkmkjfkpnmhaiaaGreatDoorB5
import Derived.Shelf.Strings.Builder1
import Derived.Test.YtkmkjfkpnmhaiaaGreatDoorProg
import Derived.WalkKit
import Derived.BigCall
import Derived.Test.YtkmkjfkpnmhaiaaGreatDoorB6
import Derived.Test.YtkmkjfkpnmhaiaaGreatDoorB4
set_option maxRecDepth 1000000
set_option maxHeartbeats 8000000
set_option linter.unusedSimpArgs false
set_option linter.unnecessarySimpa false
set_option linter.unusedVariables false
set_option linter.unusedSectionVars false
namespace Uw.Tryz
open Go Uw
theorem eF (l:List Tok) (k:Nat) (xs:List (List Dat)) (hk:k<=l.length) (hl:l.length<1000000) :
  (dD (l.drop k) = .bad/\lz P0 cy [.ptr 0 0] (rd l k xs) di)\/∃s,dD (l.drop k) = .ok s (l.drop (k+1))/\k<l.length/\aE P0 cy [.ptr 0 0] (rd l k xs) (.d (.str s)) (rd l (k+1) xs):=by
 by_cases h:k<l.length
 ·have hd:l.drop k=l[k]::l.drop (k+1):=aaW h
  by_cases h1:l[k].kind=1
  ·have hw:eH 1 (l.drop k) = .ok l[k] (l.drop (k+1)):=by rw [hd,eH,if_pos h1]
   cases h2:oI l[k].text with
   | true=>
    refine .inl ⟨?_,jl l k xs hk hl (fun _=>.inr h2)⟩;rw [dD,hw];show (if oI l[k].text=true then _ else _)=_;rw [if_pos h2]
   | false=>
    refine .inr ⟨l[k].text,?_,h,uD l k xs hk hl h h1 h2⟩;rw [dD,hw];show (if oI l[k].text=true then _ else _)=_;rw [if_neg (by rw [h2];decide)]
  ·refine .inl ⟨?_,jl l k xs hk hl (fun _=>.inl h1)⟩
   rw [dD,hd,eH,if_neg h1];rfl
 ·refine .inl ⟨?_,jl l k xs hk hl (fun h'=>absurd h' h)⟩
  rw [dD,abh (by omega),eH];rfl
theorem tV (es:Exs) (b:Nat):es.Bv b = .nil\/es.Bv b = .slice 1 (fp (es.places b)) false:=by
 unfold Exs.Bv ofD;rw [if_neg (by omega),if_pos (by omega)]
 split
 ·exact .inl rfl
 ·exact .inr rfl
theorem c_call (l:List Tok) (hl:l.length<1000000) (n:Nat) (ih:∀m,m<=n->CE l m) (s:Str) (k:Nat) (ns:List Nod) (hk:k<=l.length) (hn:ns.length<=k):dj dh [.ptr 0 0,.d (.str s)] (rdN l k ns) (Qu l ns s (gm (n+1) s (l.drop k))):=by
 rw [gm];by_cases h0:hd (l.drop k)=[46]
 ·have hlt:=eP h0 (by simp)
  have w0:=aQ l k (ns.map cj) hk hl [46] (by simp) h0;rw [want,if_pos h0,aaI];show dj _ _ _ (Qu l ns s ((dD (l.drop (k+1))).bind _))
  rcases eF l (k+1) (ns.map cj) hlt hl with ⟨h1,h2⟩|⟨v,h1,hlt1,h2⟩
  ·rw [h1]
   clear ih h0;refine aO fE rfl ?_
   repeat refine aw ?_
   refine ad 2 [0,1] w0 ?_
   repeat refine aw ?_
   refine bq 2 [0,1] h2 ?_;intro H q
   repeat refine aw ?_
   exact aP rfl
  ·rw [h1]
   show dj _ _ _ (Qu l ns s ((fY n (l.drop (k+1+1))).bind _))
   rcases W2 ((ih n (aax _)).args (k+1+1) ns (by omega) (by omega)) (by omega) (fun e r h=>(fj n).args _ _ _ h) with h3|⟨h3,h4⟩|⟨es,k1,h3,hk1,om,h4⟩
   ·rw [h3];exact trivial
   ·rw [h3]
    clear ih h0;refine aO fE rfl ?_
    repeat refine aw ?_
    refine ad 2 [0,1] w0 ?_
    repeat refine aw ?_
    refine ad 2 [0,1] h2 ?_
    repeat refine aw ?_
    refine bq 3 [0,1] h4 ?_;intro H q
    repeat refine aw ?_
    exact aP rfl
   ·rw [h3]
    show aE _ _ _ _ (.d (I ((ns.length+(Ex.call s v es).sz - 1:Nat)))) (rdN l (l.length - (l.drop k1).length) (ns++(Ex.call s v es).flat ns.length));rw [len_drop hk1];have hp:=rn l k1 (ns++es.flat ns.length) (ns++(Ex.call s v es).flat ns.length) ⟨8,0,s,v,es.places ns.length⟩ (by simp [Ex.flat]) (ns.length+(Ex.call s v es).sz - 1) (by simp [Ex.sz,Exs.au];try omega) (by simp [Exs.au];omega);have hp:aE P0 bM [.ptr 0 0,.agg [.d (I 8),.d (I 0),.d (.str s),.d (.str v),.d (es.Bv ns.length)]] (rdN l k1 (ns++es.flat ns.length)) (.d (I ((ns.length+(Ex.call s v es).sz - 1:Nat)))) (rdN l k1 (ns++(Ex.call s v es).flat ns.length)):=hp;clear ih h0
    rcases tV es ns.length with e|e
    all_goals
     rw [e] at hp h4;refine ax fE rfl ?_
     repeat refine aw ?_
     refine ad 2 [0,1] w0 ?_
     repeat refine aw ?_
     refine ad 2 [0,1] h2 ?_
     repeat refine aw ?_
     refine ad 3 [0,1] h4 ?_
     repeat refine aw ?_
     refine ad 3 [0,1] hp ?_
     repeat refine aw ?_
     exact aF 2 rfl rfl (by exact Uw.wW)
 ·rw [want,if_neg h0]
  have w0:=bj l k (ns.map cj) hk hl [46] (by simp) h0;clear ih h0;refine aO fE rfl ?_
  repeat refine aw ?_
  refine bq 2 [0,1] w0 ?_;intro H q
  repeat refine aw ?_
  exact aP rfl
theorem Yz {l:List Tok} {k:Nat} {ns:List Nod} {s:Str} {x:R (Str×Exs)} (h:dj dh [.ptr 0 0,.d (.str s)] (rdN l k ns) (Qu l ns s x)) (hk:k<=l.length) (hs:∀e r,x = .ok e r->Suf (l.drop k) r (e.2.sz+1)) :
  x = .out\/(x = .bad/\lz P0 dh [.ptr 0 0,.d (.str s)] (rdN l k ns) di)\/∃v e k',x = .ok (v,e) (l.drop k')/\k'<=l.length/\k+(e.sz+1)<=k'/\aE P0 dh [.ptr 0 0,.d (.str s)] (rdN l k ns) (.d (I ((ns.length+(Ex.call s v e).sz - 1:Nat)))) (rdN l k' (ns++(Ex.call s v e).flat ns.length)):=by
 cases x with
 | out=>exact .inl rfl
 | bad=>exact .inr (.inl ⟨rfl,h⟩)
 | ok e r=>
  obtain ⟨v,e⟩:=e;obtain ⟨k',h1,rfl,h2⟩:=s9 (hs _ r rfl) hk;refine .inr (.inr ⟨v,e,k',rfl,h1,h2,?_⟩);have h:aE P0 dh [.ptr 0 0,.d (.str s)] (rdN l k ns) (.d (I ((ns.length+(Ex.call s v e).sz - 1:Nat)))) (rdN l (l.length - (l.drop k').length) (ns++(Ex.call s v e).flat ns.length)):=h;rw [len_drop h1] at h;exact h
theorem Qw {l:List Tok} {k:Nat} (h:isNum (l.drop k)=true):∃h:k<l.length,l[k].kind=2/\numOf (l.drop k)=l[k].n:=by
 rcases aa2 k l.length with h1|h1
 ·rw [aaW h1] at h ⊢
  exact ⟨h1,by simpa [isNum] using h,rfl⟩
 ·rw [abh h1] at h;cases h
theorem W5 (l:List Tok) (hl:l.length<1000000) (n:Nat) (ih:∀m,m<=n->CE l m) (k:Nat) (ns:List Nod) (hk:k<=l.length) (hn:ns.length<=k):OkE gK l k ns (gl (n+1) (l.drop k)):=by
 have e1:(l.map sE).length=l.length:=by simp
 rw [gl];have hv:=bU l k (ns.map cj) hk hl [40] (by simp);by_cases h0:hd (l.drop k)=[40]
 ·have hlt:=eP h0 (by simp)
  rw [if_pos h0,decide_eq_true h0] at hv;rw [if_pos h0,aaI]
  rcases yp ((ih n (aax _)).expr (k+1) ns hlt (by omega)) hlt (fun e r h=>(fj n).expr _ _ _ h) with h2|⟨h2,h3⟩|⟨e,k1,h2,hk1,om,h3⟩
  ·rw [h2];exact trivial
  ·rw [h2]
   clear ih h0;refine aO bQ rfl ?_
   repeat' first|refine aw ?_|refine bw (fun _=>?_) fun _=>?_
   refine ad 2 [0,1] hv ?_
   repeat' first|refine aw ?_|refine bw (fun _=>?_) fun _=>?_
   refine bq 2 [0,1] h3 ?_;intro H q
   repeat' first|refine aw ?_|refine bw (fun _=>?_) fun _=>?_
   exact aP rfl
  ·rw [h2]
   show dj _ _ _ (IA l ns ((want [41] (l.drop k1)).bind _));by_cases h4:hd (l.drop k1)=[41]
   ·have hlt1:=eP h4 (by simp)
    have w1:=aQ l k1 ((ns++e.flat ns.length).map cj) hk1 hl [41] (by simp) h4;rw [want,if_pos h4,aaI];show aE _ _ _ _ (.d (I ((ns.length+e.sz - 1:Nat)))) (rdN l (l.length - (l.drop (k1+1)).length) _);rw [len_drop hlt1];clear ih h0 h4;refine ax bQ rfl ?_
    repeat' first|refine aw ?_|refine bw (fun _=>?_) fun _=>?_
    refine ad 2 [0,1] hv ?_
    repeat' first|refine aw ?_|refine bw (fun _=>?_) fun _=>?_
    refine ad 2 [0,1] h3 ?_
    repeat' first|refine aw ?_|refine bw (fun _=>?_) fun _=>?_
    refine ad 2 [0,1] w1 ?_
    repeat' first|refine aw ?_|refine bw (fun _=>?_) fun _=>?_
    exact aF 2 rfl rfl (by exact Uw.wW)
   ·have w1:=bj l k1 ((ns++e.flat ns.length).map cj) hk1 hl [41] (by simp) h4
    rw [want,if_neg h4];clear ih h0 h4;refine aO bQ rfl ?_
    repeat' first|refine aw ?_|refine bw (fun _=>?_) fun _=>?_
    refine ad 2 [0,1] hv ?_
    repeat' first|refine aw ?_|refine bw (fun _=>?_) fun _=>?_
    refine ad 2 [0,1] h3 ?_
    repeat' first|refine aw ?_|refine bw (fun _=>?_) fun _=>?_
    refine bq 2 [0,1] w1 ?_;intro H q
    repeat' first|refine aw ?_|refine bw (fun _=>?_) fun _=>?_
    exact aP rfl
 ·rw [if_neg h0,decide_eq_false h0] at hv
  rw [if_neg h0]
  cases hnum:isNum (l.drop k) with
  | true=>
   rw [if_pos rfl,aaI];obtain ⟨hlt,hkd,hno⟩:=Qw hnum;rw [hno];have wd:=fR l k (ns.map cj) hk hl 2 hlt hkd;have hp:=rn l (k+1) ns (ns++(Ex.num l[k].n).flat ns.length) ⟨1,l[k].n,[],[],[]⟩ rfl (ns.length+(Ex.num l[k].n).sz - 1) (by simp [Ex.sz]) (by omega);have hp:aE P0 bM [.ptr 0 0,.agg [.d (I 1),.d (I l[k].n),.d (.str []),.d (.str []),.d .nil]] (rdN l (k+1) ns) (.d (I ((ns.length+(Ex.num l[k].n).sz - 1:Nat)))) (rdN l (k+1) (ns++(Ex.num l[k].n).flat ns.length)):=hp;show aE _ _ _ _ (.d (I ((ns.length+(Ex.num l[k].n).sz - 1:Nat)))) (rdN l (l.length - (l.drop (k+1)).length) _);rw [len_drop hlt];clear ih h0 hnum hno;refine ax bQ rfl ?_
   repeat' first|refine aw ?_|refine bw (fun _=>?_) fun _=>?_
   refine ad 2 [0,1] hv ?_
   repeat' first|refine aw ?_|refine bw (fun _=>?_) fun _=>?_
   refine ad 2 [0,1] wd ?_
   repeat' first|refine aw ?_|refine bw (fun _=>?_) fun _=>?_
   refine ad 2 [0,1] hp ?_
   repeat' first|refine aw ?_|refine bw (fun _=>?_) fun _=>?_
   exact aF 2 rfl rfl (by exact Uw.wW)
  | false=>
   rw [if_neg (by decide)];have hkd:∀(h:k<l.length),¬l[k].kind=2:=by
    intro h h2;rw [aaW h] at hnum;simp [isNum,h2] at hnum
   rcases eF l k (ns.map cj) hk hl with ⟨h1,h2⟩|⟨s,h1,hlt,h2⟩
   ·rw [h1]
    clear ih h0 hnum h1;by_cases hlt:k<l.length
    ·have hkd:=hkd hlt
     refine aO bQ rfl ?_
     repeat' first|refine aw ?_|refine bw (fun _=>?_) fun _=>?_
     refine ad 2 [0,1] hv ?_
     repeat' first|refine aw ?_|refine bw (fun _=>?_) fun _=>?_
     refine bq 2 [0,1] h2 ?_;intro H q
     repeat' first|refine aw ?_|refine bw (fun _=>?_) fun _=>?_
     exact aP rfl
    ·clear hkd
     refine aO bQ rfl ?_
     repeat' first|refine aw ?_|refine bw (fun _=>?_) fun _=>?_
     refine ad 2 [0,1] hv ?_
     repeat' first|refine aw ?_|refine bw (fun _=>?_) fun _=>?_
     refine bq 2 [0,1] h2 ?_;intro H q
     repeat' first|refine aw ?_|refine bw (fun _=>?_) fun _=>?_
     exact aP rfl
   ·rw [h1]
    have hkd:=hkd hlt;have pk:=b9 l (k+1) (ns.map cj) hlt;show dj _ _ _ (IA l ns (if hd (l.drop (k+1))=[46] then _ else _));by_cases h3:hd (l.drop (k+1))=[46]
    ·rw [if_pos h3]
     rw [h3] at pk
     rcases Yz ((ih n (aax _)).call s (k+1) ns hlt (by omega)) hlt (fun e r h=>(fj n).call _ _ _ _ h) with h4|⟨h4,h5⟩|⟨v,es,k1,h4,hk1,om,h5⟩
     ·rw [h4];exact trivial
     ·rw [h4]
      clear ih h0 hnum h1;refine aO bQ rfl ?_
      repeat' first|refine aw ?_|refine bw (fun _=>?_) fun _=>?_
      refine ad 2 [0,1] hv ?_
      repeat' first|refine aw ?_|refine bw (fun _=>?_) fun _=>?_
      refine ad 2 [0,1] h2 ?_
      repeat' first|refine aw ?_|refine bw (fun _=>?_) fun _=>?_
      refine ad 2 [0,1] pk ?_
      repeat' first|refine aw ?_|refine bw (fun _=>?_) fun _=>?_
      refine bq 2 [0,1] h5 ?_;intro H q
      repeat' first|refine aw ?_|refine bw (fun _=>?_) fun _=>?_
      exact aP rfl
     ·rw [h4]
      show aE _ _ _ _ (.d (I ((ns.length+(Ex.call s v es).sz - 1:Nat)))) (rdN l (l.length - (l.drop k1).length) _);rw [len_drop hk1];clear ih h0 hnum h1;refine ax bQ rfl ?_
      repeat' first|refine aw ?_|refine bw (fun _=>?_) fun _=>?_
      refine ad 2 [0,1] hv ?_
      repeat' first|refine aw ?_|refine bw (fun _=>?_) fun _=>?_
      refine ad 2 [0,1] h2 ?_
      repeat' first|refine aw ?_|refine bw (fun _=>?_) fun _=>?_
      refine ad 2 [0,1] pk ?_
      repeat' first|refine aw ?_|refine bw (fun _=>?_) fun _=>?_
      refine ad 2 [0,1] h5 ?_
      repeat' first|refine aw ?_|refine bw (fun _=>?_) fun _=>?_
      exact aF 2 rfl rfl (by exact Uw.wW)
    ·rw [if_neg h3]
     have hp:=rn l (k+1) ns (ns++(Ex.name s).flat ns.length) ⟨2,0,s,[],[]⟩ rfl (ns.length+(Ex.name s).sz - 1) (by simp [Ex.sz]) (by omega);have hp:aE P0 bM [.ptr 0 0,.agg [.d (I 2),.d (I 0),.d (.str s),.d (.str []),.d .nil]] (rdN l (k+1) ns) (.d (I ((ns.length+(Ex.name s).sz - 1:Nat)))) (rdN l (k+1) (ns++(Ex.name s).flat ns.length)):=hp;show aE _ _ _ _ (.d (I ((ns.length+(Ex.name s).sz - 1:Nat)))) (rdN l (l.length - (l.drop (k+1)).length) _);rw [len_drop hlt];generalize hd (l.drop (k+1))=p at *;clear ih h0 hnum h1;refine ax bQ rfl ?_
     repeat' first|refine aw ?_|refine bw (fun _=>?_) fun _=>?_
     refine ad 2 [0,1] hv ?_
     repeat' first|refine aw ?_|refine bw (fun _=>?_) fun _=>?_
     refine ad 2 [0,1] h2 ?_
     repeat' first|refine aw ?_|refine bw (fun _=>?_) fun _=>?_
     refine ad 2 [0,1] pk ?_
     repeat' first|refine aw ?_|refine bw (fun _=>?_) fun _=>?_
     refine ad 2 [0,1] hp ?_
     repeat' first|refine aw ?_|refine bw (fun _=>?_) fun _=>?_
     exact aF 2 rfl rfl (by exact Uw.wW)
theorem ce (l:List Tok) (hl:l.length<1000000):∀n,∀m,m<=n->CE l m
 | 0,m,hm=>by
  obtain rfl:m=0:=by omega
  refine ⟨?_,?_,?_,?_,?_,?_⟩
  ·intro k ns _ _;rw [fY];exact trivial
  ·intro s k ns _ _;rw [gm];exact trivial
  ·intro k ns _ _;rw [gl];exact trivial
  ·intro k ns _ _;rw [fA];exact trivial
  ·intro k ns _ _;rw [j6];exact trivial
  ·intro k ns _ _;rw [da];exact trivial
 | n+1,m,hm=>by
  have ih:=ce l hl n;by_cases h:m<=n
  ·exact ih m h
  ·obtain rfl:m=n+1:=by omega
   exact ⟨fun k ns=>W4 l hl n ih k ns,fun s k ns=>c_call l hl n ih s k ns,fun k ns=>W5 l hl n ih k ns,fun k ns=>WZ l hl n ih k ns,fun k ns=>Yy l hl n ih k ns,fun k ns=>W0 l hl n ih k ns⟩
end Uw.Tryz
namespace Uw.Tryz
open Go Uw
def pR (l:List Tok) (ns:List Nod) (x:R Stm):Out:=
 match x with
 | .ok s r=>.ok (.d (I ((ns.length+s.sz - 1:Nat)))) (rdN l (l.length - r.length) (ns++s.flat ns.length))
 | .bad=>.bad
 | .out=>.out
theorem Nq {f:FuncId} {vs:List V} {l:List Tok} {k:Nat} {ns:List Nod} {x:R Stm} (h:dj f vs (rdN l k ns) (pR l ns x)) (hk:k<=l.length) (hs:∀e r,x = .ok e r->Suf (l.drop k) r e.sz) :
  x = .out\/(x = .bad/\lz P0 f vs (rdN l k ns) di)\/∃e k',x = .ok e (l.drop k')/\k'<=l.length/\k+e.sz<=k'/\aE P0 f vs (rdN l k ns) (.d (I ((ns.length+e.sz - 1:Nat)))) (rdN l k' (ns++e.flat ns.length)):=by
 cases x with
 | out=>exact .inl rfl
 | bad=>exact .inr (.inl ⟨rfl,h⟩)
 | ok e r=>
  obtain ⟨k',h1,rfl,h2⟩:=s9 (hs e r rfl) hk;refine .inr (.inr ⟨e,k',rfl,h1,h2,?_⟩);have h:aE P0 f vs (rdN l k ns) (.d (I ((ns.length+e.sz - 1:Nat)))) (rdN l (l.length - (l.drop k').length) (ns++e.flat ns.length)):=h;rw [len_drop h1] at h;exact h
theorem ot:∀(d:Exs) (b:Nat),(d.places b).length=d.length
 | .nil,b=>rfl
 | .cons e r,b=>by rw [Exs.places,aaA,ot r,Exs.length]
theorem Lu (l:List Tok) (hl:l.length<1000000) (n:Nat) (to:Str) (k:Nat) (ns:List Nod) (hk:k<=l.length) (hn:ns.length<=k):dj iH [.ptr 0 0,.d (.str to)] (rdN l k ns) (pR l ns (eu n to (l.drop k))):=by
 rw [eu];have hv:=bU l k (ns.map cj) hk hl bT (by decide)
 -- behind the word
 have tail:∀(par:Bool) (k1:Nat),k1<=l.length->k+1<=k1->
   (∀{x:Out},dj iH [.ptr 0 0,.d (.str to)] (rdN l k ns) x->True)->True:=fun _ _ _ _ _=>trivial
 clear tail;by_cases h0:hd (l.drop k)=bT
 ·have hlt:=eP h0 (by decide)
  rw [if_pos h0,decide_eq_true h0] at hv;rw [if_pos h0,aaI];show dj _ _ _ (pR l ns ((dD (l.drop (k+1))).bind _))
  rcases eF l (k+1) (ns.map cj) hlt hl with ⟨h1,h2⟩|⟨f,h1,hlt1,h2⟩
  ·rw [h1]
   clear h0;refine aO cw rfl ?_
   repeat refine aw ?_
   refine ad 2 [0,1] hv ?_
   repeat refine aw ?_
   refine bq 2 [0,1] h2 ?_;intro H q
   repeat refine aw ?_
   exact aP rfl
  ·rw [h1]
   show dj _ _ _ (pR l ns ((fY n (l.drop (k+1+1))).bind _))
   rcases W2 ((ce l hl n n (aax _)).args (k+1+1) ns (by omega) (by omega)) (by omega) (fun e r h=>(fj n).args _ _ _ h) with h3|⟨h3,h4⟩|⟨es,k1,h3,hk1,om,h4⟩
   ·rw [h3];exact trivial
   ·rw [h3]
    clear h0;refine aO cw rfl ?_
    repeat refine aw ?_
    refine ad 2 [0,1] hv ?_
    repeat refine aw ?_
    refine ad 2 [0,1] h2 ?_
    repeat refine aw ?_
    refine bq 3 [0,1] h4 ?_;intro H q
    repeat refine aw ?_
    exact aP rfl
   ·rw [h3]
    show dj _ _ _ (pR l ns (if false=true/\es.length≠2 then .bad else .ok (.task false to f es) (l.drop k1)));rw [if_neg (by rintro ⟨q,_⟩;cases q)];show aE _ _ _ _ (.d (I ((ns.length+(Stm.task false to f es).sz - 1:Nat)))) (rdN l (l.length - (l.drop k1).length) (ns++(Stm.task false to f es).flat ns.length));rw [len_drop hk1];have hp:=rn l k1 (ns++es.flat ns.length) (ns++(Stm.task false to f es).flat ns.length) ⟨10,0,to,f,es.places ns.length⟩ (by simp [Stm.flat]) (ns.length+(Stm.task false to f es).sz - 1) (by simp [Stm.sz,Exs.au]) (by simp [Exs.au];omega);have hp:aE P0 bM [.ptr 0 0,.agg [.d (I 10),.d (I 0),.d (.str to),.d (.str f),.d (es.Bv ns.length)]] (rdN l k1 (ns++es.flat ns.length)) (.d (I ((ns.length+(Stm.task false to f es).sz - 1:Nat)))) (rdN l k1 (ns++(Stm.task false to f es).flat ns.length)):=hp;clear h0
    rcases tV es ns.length with e|e
    all_goals
     rw [e] at hp h4;refine ax cw rfl ?_
     repeat refine aw ?_
     refine ad 2 [0,1] hv ?_
     repeat refine aw ?_
     refine ad 2 [0,1] h2 ?_
     repeat refine aw ?_
     refine ad 3 [0,1] h4 ?_
     repeat refine aw ?_
     refine ad 3 [0,1] hp ?_
     repeat refine aw ?_
     exact aF 2 rfl rfl (by exact Uw.wW)
 ·rw [if_neg h0,decide_eq_false h0] at hv
  rw [if_neg h0];by_cases hp0:hd (l.drop k)=dZ
  ·have hlt:=eP hp0 (by decide)
   have w0:=aQ l k (ns.map cj) hk hl dZ (by decide) hp0;rw [want,if_pos hp0,aaI];show dj _ _ _ (pR l ns ((dD (l.drop (k+1))).bind _))
   rcases eF l (k+1) (ns.map cj) hlt hl with ⟨h1,h2⟩|⟨f,h1,hlt1,h2⟩
   ·rw [h1]
    clear h0 hp0;refine aO cw rfl ?_
    repeat refine aw ?_
    refine ad 2 [0,1] hv ?_
    repeat refine aw ?_
    refine ad 2 [0,1] w0 ?_
    repeat refine aw ?_
    refine bq 2 [0,1] h2 ?_;intro H q
    repeat refine aw ?_
    exact aP rfl
   ·rw [h1]
    show dj _ _ _ (pR l ns ((fY n (l.drop (k+1+1))).bind _))
    rcases W2 ((ce l hl n n (aax _)).args (k+1+1) ns (by omega) (by omega)) (by omega) (fun e r h=>(fj n).args _ _ _ h) with h3|⟨h3,h4⟩|⟨es,k1,h3,hk1,om,h4⟩
    ·rw [h3];exact trivial
    ·rw [h3]
     clear h0 hp0;refine aO cw rfl ?_
     repeat refine aw ?_
     refine ad 2 [0,1] hv ?_
     repeat refine aw ?_
     refine ad 2 [0,1] w0 ?_
     repeat refine aw ?_
     refine ad 2 [0,1] h2 ?_
     repeat refine aw ?_
     refine bq 3 [0,1] h4 ?_;intro H q
     repeat refine aw ?_
     exact aP rfl
    ·rw [h3]
     show dj _ _ _ (pR l ns (if true=true/\es.length≠2 then .bad else .ok (.task true to f es) (l.drop k1)));have hlen:(fp (es.places ns.length)).length=es.length:=by rw [fp,aaT,ot]
     by_cases h2' : es.length=2
     ·rw [if_neg (by rintro ⟨_,q⟩;exact q h2')]
      show aE _ _ _ _ (.d (I ((ns.length+(Stm.task true to f es).sz - 1:Nat)))) (rdN l (l.length - (l.drop k1).length) (ns++(Stm.task true to f es).flat ns.length));rw [len_drop hk1];have hp:=rn l k1 (ns++es.flat ns.length) (ns++(Stm.task true to f es).flat ns.length) ⟨11,0,to,f,es.places ns.length⟩ (by simp [Stm.flat]) (ns.length+(Stm.task true to f es).sz - 1) (by simp [Stm.sz,Exs.au]) (by simp [Exs.au];omega);have hp:aE P0 bM [.ptr 0 0,.agg [.d (I 11),.d (I 0),.d (.str to),.d (.str f),.d (es.Bv ns.length)]] (rdN l k1 (ns++es.flat ns.length)) (.d (I ((ns.length+(Stm.task true to f es).sz - 1:Nat)))) (rdN l k1 (ns++(Stm.task true to f es).flat ns.length)):=hp;have e:es.Bv ns.length = .slice 1 (fp (es.places ns.length)) false:=by
       rcases tV es ns.length with e|e
       ·exfalso
        have hne:es.places ns.length≠[]:=by intro h;have:=ot es ns.length;rw [h] at this;simp at this;omega
        unfold Exs.Bv ofD at e;rw [if_neg (by omega),if_pos (by omega),if_neg hne] at e
        cases e
       ·exact e
      rw [e] at hp h4;clear h0 hp0;refine ax cw rfl ?_
      repeat refine aw ?_
      refine ad 2 [0,1] hv ?_
      repeat refine aw ?_
      refine ad 2 [0,1] w0 ?_
      repeat refine aw ?_
      refine ad 2 [0,1] h2 ?_
      repeat refine aw ?_
      refine ad 3 [0,1] h4 ?_
      repeat refine aw ?_
      refine ad 3 [0,1] hp ?_
      repeat refine aw ?_
      exact aF 2 rfl rfl (by exact Uw.wW)
     ·rw [if_pos ⟨rfl,h2'⟩]
      clear h0 hp0
      rcases tV es ns.length with e|e
      all_goals
       rw [e] at h4;refine aO cw rfl ?_
       repeat refine aw ?_
       refine ad 2 [0,1] hv ?_
       repeat refine aw ?_
       refine ad 2 [0,1] w0 ?_
       repeat refine aw ?_
       refine ad 2 [0,1] h2 ?_
       repeat refine aw ?_
       refine ad 3 [0,1] h4 ?_
       repeat refine aw ?_
       exact aP rfl
  ·have w0:=bj l k (ns.map cj) hk hl dZ (by decide) hp0
   rw [want,if_neg hp0];clear h0 hp0;refine aO cw rfl ?_
   repeat refine aw ?_
   refine ad 2 [0,1] hv ?_
   repeat refine aw ?_
   refine bq 2 [0,1] w0 ?_;intro H q
   repeat refine aw ?_
   exact aP rfl
end Uw.Tryz
namespace Uw.Tryz
open Go Uw
theorem Gn (l:List Tok) (k:Nat) (ns:List Nod) (K:Int) (s:Str) (e:Ex) (ms:List Nod) (hms:ms=ns++e.flat ns.length++[⟨K,0,s,[],[ns.length+e.sz - 1]⟩]) (p:Nat) (hp:p=ns.length+e.sz) (hx:(ns++e.flat ns.length).length<1000000) (hK:K=9\/K=15\/K=16\/K=17) :
  aE P0 bM [.ptr 0 0,.agg [.d (I K),.d (I 0),.d (.str s),.d (.str []),.d (.slice 1 [[I ((ns.length+e.sz - 1:Nat))]] true)]] (rdN l k (ns++e.flat ns.length)) (.d (I p)) (rdN l k ms):=by
 have:=rn l k _ _ _ hms p (by rw [hp];simp [Ex.au]) hx;have e:ofD K [ns.length+e.sz - 1] = .slice 1 [[I ((ns.length+e.sz - 1:Nat))]] true:=by
  unfold ofD;rw [if_neg (by omega),if_neg (by omega),if_neg (by omega)];rfl
 simp only [e] at this;exact this
theorem YA (l:List Tok) (hl:l.length<1000000) (n:Nat) (K:Int) (hK:K=15\/K=16) (k:Nat) (ns:List Nod) (hk:k<l.length) (hn:ns.length<=k):dj nX [.ptr 0 0,.d (I K)] (rdN l k ns) (pR l ns ((da n (l.drop (k+1))).bind fun e r=>.ok (.one K e) r)):=by
 rcases yp ((ce l hl n n (aax _)).expr (k+1) ns hk (by omega)) hk (fun e r h=>(fj n).expr _ _ _ h) with h2|⟨h2,h3⟩|⟨e,k1,h2,hk1,om,h3⟩
 ·rw [h2];exact trivial
 ·rw [h2]
  refine aO mH rfl ?_
  repeat refine aw ?_
  refine bq 2 [0,1] h3 ?_;intro H q
  repeat refine aw ?_
  exact aP rfl
 ·rw [h2]
  have hz:(Stm.one K e).sz=e.sz+1:=rfl;have hp:=Gn l k1 ns K [] e (ns++(Stm.one K e).flat ns.length) (by simp [Stm.flat]) (ns.length+(Stm.one K e).sz - 1) (by omega) (by simp [Ex.au];omega) (by omega);show aE _ _ _ _ (.d (I ((ns.length+(Stm.one K e).sz - 1:Nat)))) (rdN l (l.length - (l.drop k1).length) _);rw [len_drop hk1];refine ax mH rfl ?_
  repeat refine aw ?_
  refine ad 2 [0,1] h3 ?_
  repeat refine aw ?_
  refine ad 2 [0,1] hp ?_
  repeat refine aw ?_
  exact aF 2 rfl rfl (by exact Uw.wW)
theorem Qy (l:List Tok) (hl:l.length<1000000) (n:Nat) (k:Nat) (ns:List Nod) (hk:k<=l.length) (hn:ns.length<=k):dj g9 [.ptr 0 0] (rdN l k ns) (pR l ns (fP n (l.drop k))):=by
 rw [fP];have pk:=b9 l k (ns.map cj) hk;by_cases h0:hd (l.drop k)=bT\/hd (l.drop k)=dZ
 ·rw [if_pos h0]
  rcases Nq (Lu l hl n [] k ns hk hn) hk (fun e r h=>qk h) with h2|⟨h2,h3⟩|⟨s,k1,h2,hk1,om,h3⟩
  ·rw [h2];exact trivial
  ·rw [h2]
   rcases h0 with h0|h0
   all_goals
    rw [h0] at pk;clear h0;refine aO aT rfl ?_
    repeat' first|refine aw ?_|refine bw (fun _=>?_) fun _=>?_
    refine ad 2 [0,1] pk ?_
    repeat' first|refine aw ?_|refine bw (fun _=>?_) fun _=>?_
    refine bq 2 [0,1] h3 ?_;intro H q
    repeat' first|refine aw ?_|refine bw (fun _=>?_) fun _=>?_
    exact aP rfl
  ·rw [h2]
   show aE _ _ _ _ (.d (I ((ns.length+s.sz - 1:Nat)))) (rdN l (l.length - (l.drop k1).length) _);rw [len_drop hk1]
   rcases h0 with h0|h0
   all_goals
    rw [h0] at pk;clear h0;refine ax aT rfl ?_
    repeat' first|refine aw ?_|refine bw (fun _=>?_) fun _=>?_
    refine ad 2 [0,1] pk ?_
    repeat' first|refine aw ?_|refine bw (fun _=>?_) fun _=>?_
    refine ad 2 [0,1] h3 ?_
    repeat' first|refine aw ?_|refine bw (fun _=>?_) fun _=>?_
    exact aF 2 rfl rfl (by exact Uw.wW)
 ·rw [if_neg h0]
  by_cases h1:hd (l.drop k)=jM
  ·have hlt:=eP h1 (by decide)
   rw [if_pos h1,aaI];have w0:=aQ l k (ns.map cj) hk hl jM (by decide) h1;rw [h1] at pk;have hp:=rn l (k+1) ns (ns++(Stm.sync).flat ns.length) ⟨12,0,[],[],[]⟩ rfl (ns.length+(Stm.sync).sz - 1) (by simp [Stm.sz]) (by omega);have hp:aE P0 bM [.ptr 0 0,.agg [.d (I 12),.d (I 0),.d (.str []),.d (.str []),.d .nil]] (rdN l (k+1) ns) (.d (I ((ns.length+(Stm.sync).sz - 1:Nat)))) (rdN l (k+1) (ns++(Stm.sync).flat ns.length)):=hp;show aE _ _ _ _ (.d (I ((ns.length+(Stm.sync).sz - 1:Nat)))) (rdN l (l.length - (l.drop (k+1)).length) _);rw [len_drop hlt];clear h0 h1;refine ax aT rfl ?_
   repeat' first|refine aw ?_|refine bw (fun _=>?_) fun _=>?_
   refine ad 2 [0,1] pk ?_
   repeat' first|refine aw ?_|refine bw (fun _=>?_) fun _=>?_
   refine ad 2 [0,1] w0 ?_
   repeat' first|refine aw ?_|refine bw (fun _=>?_) fun _=>?_
   refine ad 2 [0,1] hp ?_
   repeat' first|refine aw ?_|refine bw (fun _=>?_) fun _=>?_
   exact aF 2 rfl rfl (by exact Uw.wW)
  ·rw [if_neg h1]
   have one:∀(K:Int) (w:Str),(K=15/\w=dW)\/(K=16/\w=dM)->hd (l.drop k)=w->dj g9 [.ptr 0 0] (rdN l k ns) (pR l ns ((da n (l.drop (k+1))).bind fun e r=>.ok (.one K e) r)):=by
    intro K w hw hh;have hlt:=eP hh (by rcases hw with ⟨_,rfl⟩|⟨_,rfl⟩<;>decide);rw [hh] at pk;clear h0 h1 hh
    rcases Nq (YA l hl n K (by omega) k ns hlt hn) hk (fun e r h=>by
     obtain ⟨e1,r1,h1,h2⟩:=bind_ok.1 h;injection h2 with e2 e3
     subst e2 e3;have:=(fj n).expr _ _ _ h1;obtain ⟨j,j1,j2,j3⟩:=this;simp at j1;exact ⟨j+1,by simp;omega,by rw [j2,ach,ach];congr 1;omega,by rw [Stm.sz];omega⟩) with h2|⟨h2,h3⟩|⟨s,k1,h2,hk1,om,h3⟩
    ·rw [h2];exact trivial
    ·rw [h2]
     rcases hw with ⟨rfl,rfl⟩|⟨rfl,rfl⟩
     all_goals
      refine aO aT rfl ?_
      repeat' first|refine aw ?_|refine bw (fun _=>?_) fun _=>?_
      refine ad 2 [0,1] pk ?_
      repeat' first|refine aw ?_|refine bw (fun _=>?_) fun _=>?_
      refine bq 2 [0,1] h3 ?_;intro H q
      repeat' first|refine aw ?_|refine bw (fun _=>?_) fun _=>?_
      exact aP rfl
    ·rw [h2]
     show aE _ _ _ _ (.d (I ((ns.length+s.sz - 1:Nat)))) (rdN l (l.length - (l.drop k1).length) _);rw [len_drop hk1]
     rcases hw with ⟨rfl,rfl⟩|⟨rfl,rfl⟩
     all_goals
      refine ax aT rfl ?_
      repeat' first|refine aw ?_|refine bw (fun _=>?_) fun _=>?_
      refine ad 2 [0,1] pk ?_
      repeat' first|refine aw ?_|refine bw (fun _=>?_) fun _=>?_
      refine ad 2 [0,1] h3 ?_
      repeat' first|refine aw ?_|refine bw (fun _=>?_) fun _=>?_
      exact aF 2 rfl rfl (by exact Uw.wW)
   by_cases h2:hd (l.drop k)=dW
   ·rw [if_pos h2,aaI]
    exact one 15 _ (.inl ⟨rfl,rfl⟩) h2
   ·rw [if_neg h2]
    by_cases h3:hd (l.drop k)=dM
    ·rw [if_pos h3,aaI]
     exact one 16 _ (.inr ⟨rfl,rfl⟩) h3
    ·rw [if_neg h3]
     clear one;generalize hd (l.drop k)=p at *;have q1:¬p=bT:=fun h=>h0 (.inl h);have q2:¬p=dZ:=fun h=>h0 (.inr h);clear h0;unfold bT at q1;unfold dZ at q2;unfold jM at h1;unfold dW at h2;unfold dM at h3
     rcases eF l k (ns.map cj) hk hl with ⟨h4,h5⟩|⟨s,h4,hlt,h5⟩
     ·rw [h4]
      refine aO aT rfl ?_
      repeat' first|refine aw ?_|refine bw (fun _=>?_) fun _=>?_
      refine ad 2 [0,1] pk ?_
      repeat' first|refine aw ?_|refine bw (fun _=>?_) fun _=>?_
      refine bq 2 [0,1] h5 ?_;intro H q
      repeat' first|refine aw ?_|refine bw (fun _=>?_) fun _=>?_
      exact aP rfl
     ·rw [h4]
      clear h4;have pk2:=b9 l (k+1) (ns.map cj) hlt;show dj _ _ _ (pR l ns (if hd (l.drop (k+1))=[46] then _ else _));by_cases h6:hd (l.drop (k+1))=[46]
      ·rw [if_pos h6]
       rw [h6] at pk2;clear h6
       rcases Yz ((ce l hl n n (aax _)).call s (k+1) ns hlt (by omega)) hlt (fun e r h=>(fj n).call _ _ _ _ h) with h7|⟨h7,h8⟩|⟨v,es,k1,h7,hk1,om,h8⟩
       ·rw [h7];exact trivial
       ·rw [h7]
        refine aO aT rfl ?_
        repeat' first|refine aw ?_|refine bw (fun _=>?_) fun _=>?_
        refine ad 2 [0,1] pk ?_
        repeat' first|refine aw ?_|refine bw (fun _=>?_) fun _=>?_
        refine ad 2 [0,1] h5 ?_
        repeat' first|refine aw ?_|refine bw (fun _=>?_) fun _=>?_
        refine ad 2 [0,1] pk2 ?_
        repeat' first|refine aw ?_|refine bw (fun _=>?_) fun _=>?_
        refine bq 2 [0,1] h8 ?_;intro H q
        repeat' first|refine aw ?_|refine bw (fun _=>?_) fun _=>?_
        exact aP rfl
       ·rw [h7]
        show aE _ _ _ _ (.d (I ((ns.length+(Stm.act s v es).sz - 1:Nat)))) (rdN l (l.length - (l.drop k1).length) (ns++(Stm.act s v es).flat ns.length));rw [len_drop hk1];have hz:(Ex.call s v es).sz=es.sz+1:=rfl;have hp:=Gn l k1 ns 17 [] (.call s v es) (ns++(Stm.act s v es).flat ns.length) (by simp [Stm.flat,Ex.flat,Ex.sz];try omega) (ns.length+(Stm.act s v es).sz - 1) (by simp [Stm.sz,Ex.sz];try omega) (by simp [Ex.au];omega) (by omega);refine ax aT rfl ?_
        repeat' first|refine aw ?_|refine bw (fun _=>?_) fun _=>?_
        refine ad 2 [0,1] pk ?_
        repeat' first|refine aw ?_|refine bw (fun _=>?_) fun _=>?_
        refine ad 2 [0,1] h5 ?_
        repeat' first|refine aw ?_|refine bw (fun _=>?_) fun _=>?_
        refine ad 2 [0,1] pk2 ?_
        repeat' first|refine aw ?_|refine bw (fun _=>?_) fun _=>?_
        refine ad 2 [0,1] h8 ?_
        repeat' first|refine aw ?_|refine bw (fun _=>?_) fun _=>?_
        refine ad 2 [0,1] hp ?_
        repeat' first|refine aw ?_|refine bw (fun _=>?_) fun _=>?_
        exact aF 2 rfl rfl (by exact Uw.wW)
      ·rw [if_neg h6]
       by_cases h7:hd (l.drop (k+1))=[61]
       ·have hlt2:=eP h7 (by simp)
        have w1:=aQ l (k+1) (ns.map cj) hlt hl [61] (by simp) h7;rw [want,if_pos h7,aaI];rw [h7] at pk2;clear h6 h7;have pk3:=b9 l (k+1+1) (ns.map cj) hlt2;show dj _ _ _ (pR l ns (if hd (l.drop (k+1+1))=bT\/hd (l.drop (k+1+1))=dZ then _ else _));by_cases h8:hd (l.drop (k+1+1))=bT\/hd (l.drop (k+1+1))=dZ
        ·rw [if_pos h8]
         rcases Nq (Lu l hl n s (k+1+1) ns hlt2 (by omega)) hlt2 (fun e r h=>qk h) with h9|⟨h9,h10⟩|⟨s2,k1,h9,hk1,om,h10⟩
         ·rw [h9];exact trivial
         ·rw [h9]
          rcases h8 with h8|h8
          ·rw [h8] at pk3
           clear h8;refine aO aT rfl ?_
           repeat' first|refine aw ?_|refine bw (fun _=>?_) fun _=>?_
           refine ad 2 [0,1] pk ?_
           repeat' first|refine aw ?_|refine bw (fun _=>?_) fun _=>?_
           refine ad 2 [0,1] h5 ?_
           repeat' first|refine aw ?_|refine bw (fun _=>?_) fun _=>?_
           refine ad 2 [0,1] pk2 ?_
           repeat' first|refine aw ?_|refine bw (fun _=>?_) fun _=>?_
           refine ad 2 [0,1] w1 ?_
           repeat' first|refine aw ?_|refine bw (fun _=>?_) fun _=>?_
           refine ad 2 [0,1] pk3 ?_
           repeat' first|refine aw ?_|refine bw (fun _=>?_) fun _=>?_
           refine bq 2 [0,1] h10 ?_;intro H q
           repeat' first|refine aw ?_|refine bw (fun _=>?_) fun _=>?_
           exact aP rfl
          ·rw [h8] at pk3
           clear h8;refine aO aT rfl ?_
           repeat' first|refine aw ?_|refine bw (fun _=>?_) fun _=>?_
           refine ad 2 [0,1] pk ?_
           repeat' first|refine aw ?_|refine bw (fun _=>?_) fun _=>?_
           refine ad 2 [0,1] h5 ?_
           repeat' first|refine aw ?_|refine bw (fun _=>?_) fun _=>?_
           refine ad 2 [0,1] pk2 ?_
           repeat' first|refine aw ?_|refine bw (fun _=>?_) fun _=>?_
           refine ad 2 [0,1] w1 ?_
           repeat' first|refine aw ?_|refine bw (fun _=>?_) fun _=>?_
           refine ad 2 [0,1] pk3 ?_
           repeat' first|refine aw ?_|refine bw (fun _=>?_) fun _=>?_
           refine ad 2 [0,1] pk3 ?_
           repeat' first|refine aw ?_|refine bw (fun _=>?_) fun _=>?_
           refine bq 2 [0,1] h10 ?_;intro H q
           repeat' first|refine aw ?_|refine bw (fun _=>?_) fun _=>?_
           exact aP rfl
         ·rw [h9]
          show aE _ _ _ _ (.d (I ((ns.length+s2.sz - 1:Nat)))) (rdN l (l.length - (l.drop k1).length) _);rw [len_drop hk1]
          rcases h8 with h8|h8
          ·rw [h8] at pk3
           clear h8;refine ax aT rfl ?_
           repeat' first|refine aw ?_|refine bw (fun _=>?_) fun _=>?_
           refine ad 2 [0,1] pk ?_
           repeat' first|refine aw ?_|refine bw (fun _=>?_) fun _=>?_
           refine ad 2 [0,1] h5 ?_
           repeat' first|refine aw ?_|refine bw (fun _=>?_) fun _=>?_
           refine ad 2 [0,1] pk2 ?_
           repeat' first|refine aw ?_|refine bw (fun _=>?_) fun _=>?_
           refine ad 2 [0,1] w1 ?_
           repeat' first|refine aw ?_|refine bw (fun _=>?_) fun _=>?_
           refine ad 2 [0,1] pk3 ?_
           repeat' first|refine aw ?_|refine bw (fun _=>?_) fun _=>?_
           refine ad 2 [0,1] h10 ?_
           repeat' first|refine aw ?_|refine bw (fun _=>?_) fun _=>?_
           exact aF 2 rfl rfl (by exact Uw.wW)
          ·rw [h8] at pk3
           clear h8;refine ax aT rfl ?_
           repeat' first|refine aw ?_|refine bw (fun _=>?_) fun _=>?_
           refine ad 2 [0,1] pk ?_
           repeat' first|refine aw ?_|refine bw (fun _=>?_) fun _=>?_
           refine ad 2 [0,1] h5 ?_
           repeat' first|refine aw ?_|refine bw (fun _=>?_) fun _=>?_
           refine ad 2 [0,1] pk2 ?_
           repeat' first|refine aw ?_|refine bw (fun _=>?_) fun _=>?_
           refine ad 2 [0,1] w1 ?_
           repeat' first|refine aw ?_|refine bw (fun _=>?_) fun _=>?_
           refine ad 2 [0,1] pk3 ?_
           repeat' first|refine aw ?_|refine bw (fun _=>?_) fun _=>?_
           refine ad 2 [0,1] pk3 ?_
           repeat' first|refine aw ?_|refine bw (fun _=>?_) fun _=>?_
           refine ad 2 [0,1] h10 ?_
           repeat' first|refine aw ?_|refine bw (fun _=>?_) fun _=>?_
           exact aF 2 rfl rfl (by exact Uw.wW)
        ·rw [if_neg h8]
         generalize hd (l.drop (k+1+1))=p3 at *;have q3:¬p3=bT:=fun h=>h8 (.inl h);have q4:¬p3=dZ:=fun h=>h8 (.inr h);clear h8;unfold bT at q3;unfold dZ at q4
         rcases yp ((ce l hl n n (aax _)).expr (k+1+1) ns hlt2 (by omega)) hlt2 (fun e r h=>(fj n).expr _ _ _ h) with h9|⟨h9,h10⟩|⟨e,k1,h9,hk1,om,h10⟩
         ·rw [h9];exact trivial
         ·rw [h9]
          refine aO aT rfl ?_
          repeat' first|refine aw ?_|refine bw (fun _=>?_) fun _=>?_
          refine ad 2 [0,1] pk ?_
          repeat' first|refine aw ?_|refine bw (fun _=>?_) fun _=>?_
          refine ad 2 [0,1] h5 ?_
          repeat' first|refine aw ?_|refine bw (fun _=>?_) fun _=>?_
          refine ad 2 [0,1] pk2 ?_
          repeat' first|refine aw ?_|refine bw (fun _=>?_) fun _=>?_
          refine ad 2 [0,1] w1 ?_
          repeat' first|refine aw ?_|refine bw (fun _=>?_) fun _=>?_
          refine ad 2 [0,1] pk3 ?_
          repeat' first|refine aw ?_|refine bw (fun _=>?_) fun _=>?_
          refine ad 2 [0,1] pk3 ?_
          repeat' first|refine aw ?_|refine bw (fun _=>?_) fun _=>?_
          refine bq 2 [0,1] h10 ?_;intro H q
          repeat' first|refine aw ?_|refine bw (fun _=>?_) fun _=>?_
          exact aP rfl
         ·rw [h9]
          have hz:(Stm.set s e).sz=e.sz+1:=rfl;have hp:=Gn l k1 ns 9 s e (ns++(Stm.set s e).flat ns.length) (by simp [Stm.flat]) (ns.length+(Stm.set s e).sz - 1) (by omega) (by simp [Ex.au];omega) (by omega);show aE _ _ _ _ (.d (I ((ns.length+(Stm.set s e).sz - 1:Nat)))) (rdN l (l.length - (l.drop k1).length) _);rw [len_drop hk1];refine ax aT rfl ?_
          repeat' first|refine aw ?_|refine bw (fun _=>?_) fun _=>?_
          refine ad 2 [0,1] pk ?_
          repeat' first|refine aw ?_|refine bw (fun _=>?_) fun _=>?_
          refine ad 2 [0,1] h5 ?_
          repeat' first|refine aw ?_|refine bw (fun _=>?_) fun _=>?_
          refine ad 2 [0,1] pk2 ?_
          repeat' first|refine aw ?_|refine bw (fun _=>?_) fun _=>?_
          refine ad 2 [0,1] w1 ?_
          repeat' first|refine aw ?_|refine bw (fun _=>?_) fun _=>?_
          refine ad 2 [0,1] pk3 ?_
          repeat' first|refine aw ?_|refine bw (fun _=>?_) fun _=>?_
          refine ad 2 [0,1] pk3 ?_
          repeat' first|refine aw ?_|refine bw (fun _=>?_) fun _=>?_
          refine ad 2 [0,1] h10 ?_
          repeat' first|refine aw ?_|refine bw (fun _=>?_) fun _=>?_
          refine ad 2 [0,1] hp ?_
          repeat' first|refine aw ?_|refine bw (fun _=>?_) fun _=>?_
          exact aF 2 rfl rfl (by exact Uw.wW)
       ·have w1:=bj l (k+1) (ns.map cj) hlt hl [61] (by simp) h7
        rw [want,if_neg h7];generalize hd (l.drop (k+1))=p2 at *;clear h7;refine aO aT rfl ?_
        repeat' first|refine aw ?_|refine bw (fun _=>?_) fun _=>?_
        refine ad 2 [0,1] pk ?_
        repeat' first|refine aw ?_|refine bw (fun _=>?_) fun _=>?_
        refine ad 2 [0,1] h5 ?_
        repeat' first|refine aw ?_|refine bw (fun _=>?_) fun _=>?_
        refine ad 2 [0,1] pk2 ?_
        repeat' first|refine aw ?_|refine bw (fun _=>?_) fun _=>?_
        refine bq 2 [0,1] w1 ?_;intro H q
        repeat' first|refine aw ?_|refine bw (fun _=>?_) fun _=>?_
        exact aP rfl
end Uw.Tryz
namespace Uw.Tryz
open Go Uw
theorem Gp (l:List Tok) (k:Nat) (ns ms:List Nod) (nd:Nod) (hms:ms=ns++[nd]) (p:Nat) (hp:p=ns.length) (hx:ns.length<1000000) (hof:ofD nd.kind nd.of = .slice 1 (fp nd.of) false) :
  aE P0 bM [.ptr 0 0,.agg [.d (I nd.kind),.d (I nd.n),.d (.str nd.name),.d (.str nd.name2),.ref 2 0 0 (fp nd.of).length]] (rdN l k ns++[.arr 1 (fp nd.of)]) (.d (I p)) (rdN l k ms++[.arr 1 (fp nd.of)]):=by
 subst hms hp;obtain ⟨a,b,c,d,of⟩:=nd;simp only at hof ⊢;have e:(ns++[(⟨a,b,c,d,of⟩:Nod)]).map cj=ns.map cj++[[I a,I b,.str c,.str d,.slice 1 (fp of) false]]:=by simp [cj,hof]
 have hxs:(ns.map cj).length<1000000:=by simpa using hx
 have hxe:(ns.map cj).length=ns.length:=by simp
 have hfz:((fp of).drop 0).take (fp of).length=fp of:=by simp
 rw [rdN,rdN,e];generalize ns.map cj=xs at *;generalize fp of=ys at *;have e2:xs++[[I a,I b,.str c,.str d,.slice 1 ((ys.drop 0).take ys.length) false]]=xs++[[I a,I b,.str c,.str d,.slice 1 ys false]]:=by rw [hfz]
 refine ax ji rfl ?_
 repeat refine aw ?_
 refine cm ⟨[(0,.ptr 0 0)],[(0,.var [.d (wk l),.d (I k),.ref 1 0 0 (xs.length+1)]),(1,.arr 5 (xs++[[I a,I b,.str c,.str d,.slice 1 ys false]])),(2,.arr 1 ys)],4,[],3⟩ ?_ ?_
 ·repeat refine aw ?_
  exact aS (.inl ⟨rfl,by exact Uw.wW⟩)
 ·repeat refine aw ?_
  exact aF 3 rfl rfl (by exact Uw.wW)
def J2 (l:List Tok) (ns:List Nod) (x:R Bl):Out:=
 match x with
 | .ok s r=>.ok (.d (I ((ns.length+s.sz:Nat)))) (rdN l (l.length - r.length) (ns++s.all ns.length))
 | .bad=>.bad
 | .out=>.out
theorem TL {l:List Tok} {ns:List Nod} {x:R Bl} (h:x≠R.out):J2 l ns x≠Out.out:=by
 cases x with
 | out=>exact absurd rfl h
 | bad=>intro h;cases h
 | ok e r=>intro h;cases h
theorem TM {f:FuncId} {vs:List V} {l:List Tok} {k:Nat} {ns:List Nod} {x:R Bl} (h:dj f vs (rdN l k ns) (J2 l ns x)) (hk:k<=l.length) (hs:∀e r,x = .ok e r->Suf (l.drop k) r (e.sz+1)) :
  x = .out\/(x = .bad/\lz P0 f vs (rdN l k ns) di)\/∃e k',x = .ok e (l.drop k')/\k'<=l.length/\k+(e.sz+1)<=k'/\aE P0 f vs (rdN l k ns) (.d (I ((ns.length+e.sz:Nat)))) (rdN l k' (ns++e.all ns.length)):=by
 cases x with
 | out=>exact .inl rfl
 | bad=>exact .inr (.inl ⟨rfl,h⟩)
 | ok e r=>
  obtain ⟨k',h1,rfl,h2⟩:=s9 (hs e r rfl) hk;refine .inr (.inr ⟨e,k',rfl,h1,h2,?_⟩);have h:aE P0 f vs (rdN l k ns) (.d (I ((ns.length+e.sz:Nat)))) (rdN l (l.length - (l.drop k').length) (ns++e.all ns.length)):=h;rw [len_drop h1] at h;exact h
structure CS (l:List Tok) (n:Nat):Prop where
 stmt:∀k ns,k<=l.length->ns.length<=k->dj fM [.ptr 0 0] (rdN l k ns) (pR l ns (gU n (l.drop k)))
 block:∀k ns,k<=l.length->ns.length<=k->dj iF [.ptr 0 0] (rdN l k ns) (J2 l ns (cN n (l.drop k)))
def Bl.app:Bl->Bl->Bl
 | .nil,b=>b
 | .cons e r,b=>.cons e (r.app b)
theorem Bl.rp:∀(a b:Bl),(a.app b).sz=a.sz+b.sz
 | .nil,b=>by simp [Bl.app,Bl.sz]
 | .cons e r,b=>by rw [Bl.app,Bl.sz,Bl.sz,Bl.rp r b];omega
theorem Bl.oq:∀(a b:Bl) (n:Nat),(a.app b).flat n=a.flat n++b.flat (n+a.sz)
 | .nil,b,n=>by simp [Bl.app,Bl.flat,Bl.sz]
 | .cons e r,b,n=>by rw [Bl.app,Bl.flat,Bl.flat,Bl.oq r b,Bl.sz,aaD,abw]
theorem Bl.jH:∀(a b:Bl) (n:Nat),(a.app b).places n=a.places n++b.places (n+a.sz)
 | .nil,b,n=>by simp [Bl.app,Bl.places,Bl.sz]
 | .cons e r,b,n=>by rw [Bl.app,Bl.places,Bl.places,Bl.jH r b,Bl.sz,aaE,abw]
theorem Bl.rq:∀(a:Bl),a.app .nil=a
 | .nil=>rfl
 | .cons e r=>by rw [Bl.app,Bl.rq r]
theorem Bl.kY:∀(a b c:Bl),(a.app b).app c=a.app (b.app c)
 | .nil,b,c=>rfl
 | .cons e r,b,c=>by rw [Bl.app,Bl.app,Bl.app,Bl.kY r b c]
theorem Bl.EE:∀(d:Bl) (b:Nat),(d.places b).length<=d.sz
 | .nil,b=>by simp [Bl.places]
 | .cons s r,b=>by have:=Bl.EE r (b+s.sz);have:=s.dS;simp [Bl.places,Bl.sz];omega
theorem TN (l:List Tok) (hl:l.length<1000000) (n:Nat) (ih:∀m,m<=n->CS l m) (k:Nat) (ns:List Nod) (hk:k<=l.length) (hn:ns.length<=k):dj iF [.ptr 0 0] (rdN l k ns) (J2 l ns (cN (n+1) (l.drop k))):=by
 rw [cN];by_cases h0:hd (l.drop k)=[123]
 ·have hlt:=eP h0 (by simp)
  have w0:=aQ l k (ns.map cj) hk hl [123] (by simp) h0;rw [want,if_pos h0,aaI];show dj _ _ _ (J2 l ns (cT n (l.drop (k+1))));by_cases hout:cT n (l.drop (k+1)) = .out
  ·rw [hout];exact trivial
  generalize hR:cT n (l.drop (k+1))=Rr at hout;refine tU kE rfl (TL hout) ?_
  repeat refine aw ?_
  refine ad 2 [0,1] w0 ?_
  repeat refine aw ?_
  refine du (fun ((d,k1,m):Bl×Nat×Nat)=>⟨[(3,.ref 2 0 0 (fp (d.places ns.length)).length),(0,.ptr 0 0)],bz 0 (rdN l k1 (ns++d.flat ns.length)++[.arr 1 (fp (d.places ns.length))]),3,[],2⟩)
   (fun (d,k1,m)=>(cT m (l.drop k1)).bind (fun es r=>R.ok (d.app es) r)=Rr/\m<=n/\k1<=l.length/\k+d.sz+1<=k1) (fun (_,_,m)=>m) (.nil,k+1,n) (by
    have e:ns=ns++Bl.nil.flat ns.length:=by simp [Bl.flat]
    have e1:(ns.map cj).length=((ns++Bl.nil.flat ns.length).map cj).length:=by rw [<- e]
    have e2:ns.map cj=(ns++Bl.nil.flat ns.length).map cj:=by rw [<- e]
    exact Uw.wW) ⟨by rw [<- hR];cases cT n (l.drop (k+1))<;>rfl,aax _,hlt,by simp [Bl.sz]⟩ ?_
  clear hR w0 h0;rintro ⟨d,k1,m⟩ ⟨hR,hm,hk1,hk2⟩
  cases m with
  | zero=>rw [cT] at hR;exact absurd hR.symm hout
  | succ m=>
   rw [cT] at hR;have hfl:(ns++d.flat ns.length).length=ns.length+d.sz:=by simp [Bl.au]
   have hv:=bU l k1 ((ns++d.flat ns.length).map cj) hk1 hl [125] (by simp);have hpy:(fp (d.places ns.length)).length<1000000:=by have:=d.EE ns.length;simp [fp];omega
   by_cases hs:hd (l.drop k1)=[125]
   ·have hlt:=eP hs (by simp)
    rw [if_pos hs,aaI] at hR;rw [if_pos hs,decide_eq_true hs] at hv;have hR:R.ok (d.app .nil) (l.drop (k1+1))=Rr:=hR;have hb:J2 l ns Rr = .ok (.d (I ((ns.length+d.sz:Nat)))) (rdN l (k1+1) (ns++d.all ns.length)):=by
     rw [<- hR,Bl.rq];show Out.ok _ (rdN l (l.length - (l.drop (k1+1)).length) _)=_;rw [len_drop (by omega)]
    have hp:=Gp l (k1+1) (ns++d.flat ns.length) (ns++d.all ns.length) ⟨18,0,[],[],d.places ns.length⟩ (by simp [Bl.all]) (ns.length+d.sz) (by simp [Bl.au]) (by simp [Bl.au];omega) rfl;clear ih hR hout hs
    repeat refine aw ?_
    refine ad 3 [0,1] hv ?_
    repeat refine aw ?_
    refine aJ ?_
    repeat refine aw ?_
    refine ad 3 [0,1,2] hp ?_
    repeat refine aw ?_
    exact xe 2 hb rfl rfl (by exact Uw.wW)
   ·rw [if_neg hs] at hR
    rw [if_neg hs,decide_eq_false hs] at hv
    rcases Nq ((ih m (by omega)).stmt k1 (ns++d.flat ns.length) hk1 (by omega)) hk1 (fun e r h=>(oV m).stmt _ _ _ h) with h0|⟨h0,h1⟩|⟨y,k2,h0,hk3,IB,h1⟩
    ·rw [h0] at hR;exact absurd hR.symm hout
    ·rw [h0] at hR
     have hb:J2 l ns Rr = .bad:=by rw [<- hR];rfl
     clear ih hR hout hs h0
     repeat refine aw ?_
     refine ad 3 [0,1] hv ?_
     repeat refine aw ?_
     refine bq 3 [0,1] h1 ?_;intro h q
     repeat refine aw ?_
     exact nI (m6 2 hb rfl)
    ·rw [h0] at hR
     have hR:(cT m (l.drop k2)).bind (fun es r=>R.ok ((d.app (.cons y .nil)).app es) r)=Rr:=by
      rw [<- hR];show _=((cT m (l.drop k2)).bind fun es r=>R.ok (Bl.cons y es) r).bind fun es r=>R.ok (d.app es) r
      cases cT m (l.drop k2) with
      | ok es r=>show R.ok _ _=R.ok _ _;rw [Bl.kY];rfl
      | bad=>rfl
      | out=>rfl
     have hpl:d.places ns.length++[(ns++d.flat ns.length).length+y.sz - 1]=(d.app (.cons y .nil)).places ns.length:=by rw [Bl.jH,hfl];rfl
     have hpr:fp (d.places ns.length)++[[I (((ns++d.flat ns.length).length+y.sz - 1:Nat))]]=fp ((d.app (.cons y .nil)).places ns.length):=by rw [<- hpl];simp [fp]
     have hpn:(fp (d.places ns.length)).length+1=(fp ((d.app (.cons y .nil)).places ns.length)).length:=by rw [<- hpr];simp
     have hff:ns++d.flat ns.length++y.flat (ns++d.flat ns.length).length=ns++(d.app (.cons y .nil)).flat ns.length:=by rw [Bl.oq,hfl];simp [Bl.flat]
     have hsz:(d.app (.cons y .nil)).sz=d.sz+y.sz:=by rw [Bl.rp];rfl
     rw [hff] at h1;clear ih hout hs h0 hff hpl
     repeat refine aw ?_
     refine ad 3 [0,1] hv ?_
     repeat refine aw ?_
     refine ad 3 [0,1] h1 ?_
     repeat refine aw ?_
     exact cn (d.app (.cons y .nil),k2,m) ⟨hR,by omega,hk3,by omega⟩ (by simp only;omega) (by exact Uw.wW)
 ·rw [want,if_neg h0]
  have w0:=bj l k (ns.map cj) hk hl [123] (by simp) h0;clear ih h0;refine aO kE rfl ?_
  repeat refine aw ?_
  refine bq 2 [0,1] w0 ?_;intro H q
  repeat refine aw ?_
  exact aP rfl
end Uw.Tryz
namespace Uw.Tryz
open Go Uw
def Nr (D F:List (List Dat)) (NS:List Nod):Exs->Prop
 | .nil=>True
 | .cons e r=>CEx D F NS e/\Nr D F NS r
def mI (l:List Nat):List Int:=l.map fun (i:Nat)=>(i:Int)
theorem xh:∀(ar:Exs),ar.length<=ar.sz
 | .nil=>aax _
 | .cons e r=>by have:=e.dS;have:=xh r;simp [Exs.length,Exs.sz];omega
theorem EF:∀(a r:Exs),eK (a.app r)=eK a++eK r
 | .nil,r=>by simp [Exs.app,eK]
 | .cons e a,r=>by rw [Exs.app,eK,eK,EF a r];simp
theorem vG:∀(a r:Exs),(a.app r).length=a.length+r.length
 | .nil,r=>by simp [Exs.app,Exs.length]
 | .cons e a,r=>by simp [Exs.app,Exs.length,vG a r];omega
theorem Bw (a:Exs) (e:Ex) (r:Exs):gG (a.app (.cons e r))=gG a++(if a.length=0 then [] else [[44]])++wEx e 0++eK r:=by
 cases a with
 | nil=>simp [Exs.app,gG,Exs.length]
 | cons e' a=>rw [Exs.app,gG,gG,EF,eK];simp [Exs.length]
theorem yV (D F:List (List Dat)) (NS:List Nod) (hN:NS.length<100000) (ar:Exs) (hc:Nr D F NS ar) (b:Nat) (p:Nat->Bool) (ws:List Str) (ha:At NS b (ar.flat b)) (hp:Free p b ar.sz) (hs:ar.sz<100000) (hw:ws.length+(dT ar).length<1000000) :
  aE P0 cu [.ptr 0 0,.d (bN (mI (ar.places b)))] (wrN D F NS p ws) (.tuple []) (wrN D F NS (orR p b ar.sz) (ws++dT ar)):=by
 have hl:=ot ar b;have hl2:=xh ar;have hm:((mI (ar.places b)).map fun i=>[I i]).length=ar.length:=by simp [mI,hl]
 have hw' : ws.length+(2+(gG ar).length)<1000000:=by
  unfold dT at hw;simp only [aaw,aaA,aa3] at hw;omega
 have h1:=aH D F (nsL NS) p ws [[40]] (by simp;omega);have h9:=aH D F (nsL NS) (orR p b ar.sz) (ws++[[40]]++gG ar) [[41]] (by simp;omega);have hfin:ws++dT ar=ws++[[40]]++gG ar++[[41]]:=by unfold dT;simp
 generalize hL:(mI (ar.places b)).map (fun i=>[I i])=L at hm;have hLd:bN (mI (ar.places b)) = .slice 1 L false:=by rw [<- hL];rfl
 rw [hLd,hfin];have hel:∀(d r:Exs) (e:Ex),ar=d.app (.cons e r)->L[((d.length:Nat):Int).toNat]? = some [I ((b+d.sz+e.sz - 1:Nat):Int)]:=by
  intro d r e he;rw [<- hL,he,Exs.jH,show ((d.length:Nat):Int).toNat=d.length by omega,<- ot d b];simp [mI,Exs.places]
 have z0:orR p b Exs.nil.sz=p:=Bt p b;have z1:ws++[[40]]++gG .nil=ws++[[40]]:=by simp [gG]
 clear hL hLd;generalize hT:wrN D F NS (orR p b ar.sz) (ws++[[40]]++gG ar++[[41]])=T;refine ax oM rfl ?_
 repeat' first|refine aw ?_|refine bw (fun _=>?_) fun _=>?_
 refine ad 3 [0,1,2] h1 ?_
 repeat' first|refine aw ?_|refine bw (fun _=>?_) fun _=>?_
 refine du (fun ((d,r):Exs×Exs)=>⟨[(11,.d (I d.length)),(10,.d (I L.length)),(9,.d (.slice 1 L false)),(0,.ptr 0 0)],bz 0 (wrN D F NS (orR p b d.sz) (ws++[[40]]++gG d)),3,[],3⟩)
  (fun (d,r)=>ar=d.app r/\Nr D F NS r) (fun (_,r)=>r.length) (.nil,ar) (by
   show Weak _ ⟨_,bz 0 (wrN D F NS (orR p b Exs.nil.sz) (ws++[[40]]++gG .nil)),_,_,_⟩;rw [z0,z1];exact Uw.wW) ⟨rfl,hc⟩ ?_
 clear hc h1 z0 z1;rintro ⟨d,r⟩ ⟨hd,hc⟩;have hdl:ar.length=d.length+r.length:=by rw [hd,vG]
 cases r with
 | nil=>
  have hd:ar=d:=by rw [hd,Exs.rq]
  subst hd;have hdl:¬ar.length<L.length:=by omega
  clear hel
  repeat' first|refine aw ?_|refine bw (fun _=>?_) fun _=>?_
  refine aJ ?_
  repeat' first|refine aw ?_|refine bw (fun _=>?_) fun _=>?_
  refine ad 3 [0,1,2] h9 ?_
  repeat' first|refine aw ?_|refine bw (fun _=>?_) fun _=>?_
  subst hT;exact bG 3 rfl rfl (by exact Uw.wW)
 | cons e r=>
  have hlt:d.length<L.length:=by rw [hm,hdl];simp [Exs.length]
  have he:=hel d r e hd;have hsz:ar.sz=d.sz+(e.sz+r.sz):=by rw [hd,Exs.rp,Exs.sz]
  have hae:At NS (b+d.sz) (e.flat (b+d.sz)):=by
   rw [hd,Exs.oq,Exs.flat] at ha;have:=ha.right.left;rw [Exs.au] at this;exact this
  have hfe:Free (orR p b d.sz) (b+d.sz) e.sz:=fun i h1 h2=>by rw [m5 (by omega)];exact hp i (by omega) (by omega)
  have hwl:(gG ar).length=(gG d).length+(if d.length=0 then [] else [[44]]:List Str).length+(wEx e 0).length+(eK r).length:=by rw [hd,Bw];simp only [aaw]
  have hd' : ar=(d.app (.cons e .nil)).app r:=by rw [Exs.kY];exact hd
  have hsz' : (d.app (.cons e .nil)).sz=d.sz+e.sz:=by rw [Exs.rp];rfl
  have hlen' : (d.app (.cons e .nil)).length=d.length+1:=by rw [vG];rfl
  have hor:orR (orR p b d.sz) (b+d.sz) e.sz=orR p b (d.app (.cons e .nil)).sz:=by rw [m4,hsz']
  by_cases h0:d.length=0
  ·rw [if_pos h0] at hwl
   have hwn:gG (d.app (.cons e .nil))=gG d++wEx e 0:=by rw [Bw,if_pos h0];simp [eK]
   have hce:=hc.1 (b+d.sz) 0 (orR p b d.sz) (ws++[[40]]++gG d) hae hfe (by omega) (by simp at *;omega);rw [hor,aaD _ (gG d),<- hwn] at hce;clear hel
   repeat' first|refine aw ?_|refine bw (fun _=>?_) fun _=>?_
   refine ad 3 [0,1,2] hce ?_
   repeat' first|refine aw ?_|refine bw (fun _=>?_) fun _=>?_
   exact cn (d.app (.cons e .nil),r) ⟨hd',hc.2⟩ (by show _<_;simp [Exs.length]) (by exact Uw.wW)
  ·rw [if_neg h0] at hwl
   have hwn:gG (d.app (.cons e .nil))=gG d++[[44]]++wEx e 0:=by rw [Bw,if_neg h0];simp [eK]
   have h2:=aH D F (nsL NS) (orR p b d.sz) (ws++[[40]]++gG d) [[44]] (by simp at *;omega);have hce:=hc.1 (b+d.sz) 0 (orR p b d.sz) (ws++[[40]]++gG d++[[44]]) hae hfe (by omega) (by simp at *;omega);rw [hor,aaD (ws++[[40]]) (gG d),aaD (ws++[[40]]) (gG d++[[44]]),<- hwn] at hce;rw [aaD (ws++[[40]]) (gG d)] at h2;clear hel
   repeat' first|refine aw ?_|refine bw (fun _=>?_) fun _=>?_
   refine ad 3 [0,1,2] h2 ?_
   repeat' first|refine aw ?_|refine bw (fun _=>?_) fun _=>?_
   refine ad 3 [0,1,2] hce ?_
   repeat' first|refine aw ?_|refine bw (fun _=>?_) fun _=>?_
   exact cn (d.app (.cons e .nil),r) ⟨hd',hc.2⟩ (by show _<_;simp [Exs.length]) (by exact Uw.wW)
theorem IC (D F:List (List Dat)) (NS:List Nod) (hN:NS.length<100000) (o v:Str) (ar:Exs) (hc:Nr D F NS ar):CEx D F NS (.call o v ar):=by
 intro b l p ws ha hp hl hw;have hsz:(Ex.call o v ar).sz=ar.sz+1:=rfl;have ha1:At NS b (ar.flat b++[⟨8,0,o,v,ar.places b⟩]):=ha;have hroot:=ha1.right.one;rw [Exs.au] at hroot;have hlt:b+ar.sz<NS.length:=(aa0.1 hroot).1;have h1:=ig D F NS hN p ws (b+ar.sz) _ hroot (hp _ (by omega) (by rw [hsz];omega));have e1:b+(Ex.call o v ar).sz - 1=b+ar.sz:=by rw [hsz];omega
 have e2:orR p b (Ex.call o v ar).sz=orR (eE p (b+ar.sz)) b ar.sz:=by rw [hsz,iI]
 have hf1:Free (eE p (b+ar.sz)) b ar.sz:=fun i h1 h2=>by rw [eO (by omega)];exact hp i h1 (by rw [hsz];omega)
 have hwe:wEx (.call o v ar) l=[o,[46],v]++dT ar:=rfl;rw [e1,e2];rw [hwe] at hw ⊢;have hw2:ws.length+(3+(dT ar).length)<1000000:=by simp only [aaw,aaA,aa3] at hw;omega
 have h3:=aH D F (nsL NS) (eE p (b+ar.sz)) ws [o,[46],v] (by simp;omega);have h4:=yV D F NS hN ar hc b (eE p (b+ar.sz)) (ws++[o,[46],v]) ha1.left hf1 (by omega) (by simp;omega);have h2:Ret P0 eD [I 8] (.tuple [I 3,.str []]):=jz 8;rw [aaD] at h4;have hof:(Nod.nd ⟨8,0,o,v,ar.places b⟩).of=mI (ar.places b):=rfl;rw [hof] at h1;generalize mI (ar.places b)=pl at *;generalize eE p (b+ar.sz)=p1 at *;generalize orR p1 b ar.sz=p2 at *;generalize b+ar.sz=q at *;clear ha hp hw hw2 ha1 hroot hf1 e1 e2 hwe hc hof;refine ax cX rfl ?_
 repeat' first|refine aw ?_|refine bw (fun _=>?_) fun _=>?_
 refine ad 3 [0,1,2] h1 ?_
 repeat' first|refine aw ?_|refine bw (fun _=>?_) fun _=>?_
 refine ad 4 [0,1,2] h3 ?_
 repeat' first|refine aw ?_|refine bw (fun _=>?_) fun _=>?_
 refine ad 4 [0,1,2] h4 ?_
 repeat' first|refine aw ?_|refine bw (fun _=>?_) fun _=>?_
 exact bG 3 rfl rfl (by exact Uw.wW)
end Uw.Tryz
namespace Uw.Tryz
open Go Uw
mutual
theorem Qz:∀(s:Stm),(db s).length<=20 * s.sz
 | .set s e=>by have:=fQ e 0;rw [db,Stm.sz];simp;omega
 | .task par to f ar=>by
  have:=wu ar;rw [db,Stm.sz,dT]
  split<;>simp<;>omega
 | .sync=>by simp [db,Stm.sz]
 | .if1 e a=>by have:=fQ e 0;have:=pu a;rw [db,Stm.sz];simp;omega
 | .if2 e a b=>by have:=fQ e 0;have:=pu a;have:=pu b;rw [db,Stm.sz];simp;omega
 | .loop e a=>by have:=fQ e 0;have:=pu a;rw [db,Stm.sz];simp;omega
 | .one k e=>by have:=fQ e 0;rw [db,Stm.sz];simp;omega
 | .act o v ar=>by have:=wu ar;rw [db,Stm.sz,wEx];simp;omega
theorem pu:∀(s:Bl),(wBl s).length<=20 * s.sz
 | .nil=>by simp [wBl]
 | .cons s r=>by have:=Qz s;have:=pu r;rw [wBl,Bl.sz];simp;omega
end
theorem Ns (D F:List (List Dat)) (NS:List Nod) (p p2:Nat->Bool) (ws ws2:List Str) (par:Bool) (to f:Str) (ps:List Int)
  (h0:aE P0 aD [.ptr 0 0,.d (.slice 1 (cP [to,[61]]) true)] (wrN D F NS p ws) (.tuple []) (wrN D F NS p (ws++[to,[61]])))
  (h1:aE P0 aD [.ptr 0 0,.d (.slice 1 (cP [if par then dZ else bT,f]) true)] (wrN D F NS p (ws++if to=[] then [] else [to,[61]])) (.tuple []) (wrN D F NS p ((ws++if to=[] then [] else [to,[61]])++[if par then dZ else bT,f])))
  (h2:aE P0 cu [.ptr 0 0,.d (bN ps)] (wrN D F NS p ((ws++if to=[] then [] else [to,[61]])++[if par then dZ else bT,f])) (.tuple []) (wrN D F NS p2 ws2)) :
  aE P0 fD [.ptr 0 0,.agg [.d (I (if par then 11 else 10)),.d (I 0),.d (.str to),.d (.str f),.d (bN ps)]] (wrN D F NS p ws) (.tuple []) (wrN D F NS p2 ws2):=by
 by_cases ht:to=[]
 ·subst ht
  rw [if_pos rfl,aa6] at h1 h2
  cases par
  ·replace h1:aE P0 aD [.ptr 0 0,.d (.slice 1 (cP [bT,f]) true)] (wrN D F NS p ws) (.tuple []) (wrN D F NS p (ws++[bT,f])):=h1
   replace h2:aE P0 cu [.ptr 0 0,.d (bN ps)] (wrN D F NS p (ws++[bT,f])) (.tuple []) (wrN D F NS p2 ws2):=h2
   show aE P0 _ [_,.agg [.d (I 10),_,_,_,_]] _ _ _;unfold bT at h1 h2;generalize ws++[_,f]=ws1 at *;refine ax fk rfl ?_
   repeat' first|refine aw ?_|refine bw (fun _=>?_) fun _=>?_
   refine ad 4 [0,1,2] h1 ?_
   repeat' first|refine aw ?_|refine bw (fun _=>?_) fun _=>?_
   refine ad 4 [0,1,2] h2 ?_
   repeat' first|refine aw ?_|refine bw (fun _=>?_) fun _=>?_
   exact bG 3 rfl rfl (by exact Uw.wW)
  ·replace h1:aE P0 aD [.ptr 0 0,.d (.slice 1 (cP [dZ,f]) true)] (wrN D F NS p ws) (.tuple []) (wrN D F NS p (ws++[dZ,f])):=h1
   replace h2:aE P0 cu [.ptr 0 0,.d (bN ps)] (wrN D F NS p (ws++[dZ,f])) (.tuple []) (wrN D F NS p2 ws2):=h2
   show aE P0 _ [_,.agg [.d (I 11),_,_,_,_]] _ _ _;unfold dZ at h1 h2;generalize ws++[_,f]=ws1 at *;refine ax fk rfl ?_
   repeat' first|refine aw ?_|refine bw (fun _=>?_) fun _=>?_
   refine ad 4 [0,1,2] h1 ?_
   repeat' first|refine aw ?_|refine bw (fun _=>?_) fun _=>?_
   refine ad 4 [0,1,2] h2 ?_
   repeat' first|refine aw ?_|refine bw (fun _=>?_) fun _=>?_
   exact bG 3 rfl rfl (by exact Uw.wW)
 ·rw [if_neg ht] at h1 h2
  cases par
  ·replace h1:aE P0 aD [.ptr 0 0,.d (.slice 1 (cP [bT,f]) true)] (wrN D F NS p (ws++[to,[61]])) (.tuple []) (wrN D F NS p (ws++[to,[61]]++[bT,f])):=h1
   replace h2:aE P0 cu [.ptr 0 0,.d (bN ps)] (wrN D F NS p (ws++[to,[61]]++[bT,f])) (.tuple []) (wrN D F NS p2 ws2):=h2
   show aE P0 _ [_,.agg [.d (I 10),_,_,_,_]] _ _ _;unfold bT at h1 h2;generalize ws++[to,[61]]++[_,f]=ws1 at *;generalize ws++[to,[61]]=ws0 at *;refine ax fk rfl ?_
   repeat' first|refine aw ?_|refine bw (fun _=>?_) fun _=>?_
   refine ad 4 [0,1,2] h0 ?_
   repeat' first|refine aw ?_|refine bw (fun _=>?_) fun _=>?_
   refine ad 4 [0,1,2] h1 ?_
   repeat' first|refine aw ?_|refine bw (fun _=>?_) fun _=>?_
   refine ad 4 [0,1,2] h2 ?_
   repeat' first|refine aw ?_|refine bw (fun _=>?_) fun _=>?_
   exact bG 3 rfl rfl (by exact Uw.wW)
  ·replace h1:aE P0 aD [.ptr 0 0,.d (.slice 1 (cP [dZ,f]) true)] (wrN D F NS p (ws++[to,[61]])) (.tuple []) (wrN D F NS p (ws++[to,[61]]++[dZ,f])):=h1
   replace h2:aE P0 cu [.ptr 0 0,.d (bN ps)] (wrN D F NS p (ws++[to,[61]]++[dZ,f])) (.tuple []) (wrN D F NS p2 ws2):=h2
   show aE P0 _ [_,.agg [.d (I 11),_,_,_,_]] _ _ _;unfold dZ at h1 h2;generalize ws++[to,[61]]++[_,f]=ws1 at *;generalize ws++[to,[61]]=ws0 at *;refine ax fk rfl ?_
   repeat' first|refine aw ?_|refine bw (fun _=>?_) fun _=>?_
   refine ad 4 [0,1,2] h0 ?_
   repeat' first|refine aw ?_|refine bw (fun _=>?_) fun _=>?_
   refine ad 4 [0,1,2] h1 ?_
   repeat' first|refine aw ?_|refine bw (fun _=>?_) fun _=>?_
   refine ad 4 [0,1,2] h2 ?_
   repeat' first|refine aw ?_|refine bw (fun _=>?_) fun _=>?_
   exact bG 3 rfl rfl (by exact Uw.wW)
end Uw.Tryz
namespace Uw.Tryz
open Go Uw
def Bz (D F:List (List Dat)) (NS:List Nod) (s:Stm):Prop:=∀b p ws,At NS b (s.flat b)->Free p b s.sz->ws.length+20 * s.sz<1000000->
 aE P0 bm [.ptr 0 0,.d (I ((b+s.sz - 1:Nat)))] (wrN D F NS p ws) (.tuple []) (wrN D F NS (orR p b s.sz) (ws++db s))
def BA (D F:List (List Dat)) (NS:List Nod) (x:Bl):Prop:=∀b p ws,At NS b (x.all b)->Free p b (x.sz+1)->ws.length+20 * (x.sz+1)<1000000->
 aE P0 dy [.ptr 0 0,.d (I ((b+x.sz:Nat)))] (wrN D F NS p ws) (.tuple []) (wrN D F NS (orR p b (x.sz+1)) (ws++df x))
def CBl (D F:List (List Dat)) (NS:List Nod):Bl->Prop
 | .nil=>True
 | .cons s r=>Bz D F NS s/\CBl D F NS r
def Bl.length:Bl->Nat
 | .nil=>0
 | .cons _ r=>r.length+1
theorem tf:∀(ar:Bl) (b:Nat),(ar.places b).length=ar.length
 | .nil,_=>rfl
 | .cons e r,b=>by simp [Bl.places,Bl.length,tf r]
theorem BB:∀(ar:Bl),ar.length<=ar.sz
 | .nil=>aax _
 | .cons e r=>by have:=e.dS;have:=BB r;simp [Bl.length,Bl.sz];omega
theorem Lx:∀(a r:Bl),wBl (a.app r)=wBl a++wBl r
 | .nil,r=>by simp [Bl.app,wBl]
 | .cons e a,r=>by rw [Bl.app,wBl,wBl,Lx a r];simp
theorem ti:∀(a r:Bl),(a.app r).length=a.length+r.length
 | .nil,r=>by simp [Bl.app,Bl.length]
 | .cons e a,r=>by simp [Bl.app,Bl.length,ti a r];omega
theorem qF (D F:List (List Dat)) (NS:List Nod) (hN:NS.length<100000) (x:Bl) (hc:CBl D F NS x):BA D F NS x:=by
 intro b p ws ha hp hw;have hroot:=At.one (At.right ha);rw [Bl.au] at hroot;have ha0:At NS b (x.flat b):=At.left ha;have h0:=ig D F NS hN p ws (b+x.sz) _ hroot (hp _ (by omega) (by omega));have hof:(Nod.nd ⟨18,0,[],[],x.places b⟩).of=mI (x.places b):=rfl;rw [hof] at h0;have hor:orR p b (x.sz+1)=orR (eE p (b+x.sz)) b x.sz:=(iI p b x.sz).symm;rw [hor];have hp1:Free (eE p (b+x.sz)) b x.sz:=fun i h1 h2=>by rw [eO (by omega)];exact hp i h1 (by omega)
 generalize eE p (b+x.sz)=p1 at *;have hl:=tf x b;have hl2:=BB x;have hwl:=pu x;have hlt:b+x.sz<NS.length:=(aa0.1 hroot).1;have hm:((mI (x.places b)).map fun i=>[I i]).length=x.length:=by simp [mI,hl]
 have h1:=aH D F (nsL NS) p1 ws [[123]] (by simp;omega);have h9:=aH D F (nsL NS) (orR p1 b x.sz) (ws++[[123]]++wBl x) [[125]] (by simp;omega);have hfin:ws++df x=ws++[[123]]++wBl x++[[125]]:=by unfold df;simp
 generalize hL:(mI (x.places b)).map (fun i=>[I i])=L at hm;have hLd:bN (mI (x.places b)) = .slice 1 L false:=by rw [<- hL];rfl
 rw [hLd] at h0;rw [hfin];have hel:∀(d r:Bl) (e:Stm),x=d.app (.cons e r)->L[((d.length:Nat):Int).toNat]? = some [I ((b+d.sz+e.sz - 1:Nat):Int)]:=by
  intro d r e he;rw [<- hL,he,Bl.jH,show ((d.length:Nat):Int).toNat=d.length by omega,<- tf d b];simp [mI,Bl.places]
 have z0:orR p1 b Bl.nil.sz=p1:=Bt p1 b;have z1:ws++[[123]]++wBl .nil=ws++[[123]]:=by simp [wBl]
 clear hL hLd hof hor ha;generalize hT:wrN D F NS (orR p1 b x.sz) (ws++[[123]]++wBl x++[[125]])=T;generalize b+x.sz=q at h0 ⊢;have key:∀st,Weak st ⟨[(16,.d (I 0)),(15,.d (I L.length)),(14,.d (.slice 1 L false)),(0,.ptr 0 0)],bz 0 (wrN D F NS p1 (ws++[[123]])),4,[],3⟩->Weak st ⟨[(16,.d (I (Bl.nil.length:Nat))),(15,.d (I L.length)),(14,.d (.slice 1 L false)),(0,.ptr 0 0)],bz 0 (wrN D F NS (orR p1 b Bl.nil.sz) (ws++[[123]]++wBl .nil)),4,[],3⟩:=by
  intro st h;rw [z0,z1];exact h
 refine ax rU rfl ?_
 repeat' first|refine aw ?_|refine bw (fun _=>?_) fun _=>?_
 refine ad 3 [0,1,2] h0 ?_
 repeat' first|refine aw ?_|refine bw (fun _=>?_) fun _=>?_
 refine ad 4 [0,1,2] h1 ?_
 repeat' first|refine aw ?_|refine bw (fun _=>?_) fun _=>?_
 refine du (fun ((d,r):Bl×Bl)=>⟨[(16,.d (I d.length)),(15,.d (I L.length)),(14,.d (.slice 1 L false)),(0,.ptr 0 0)],bz 0 (wrN D F NS (orR p1 b d.sz) (ws++[[123]]++wBl d)),4,[],3⟩)
  (fun (d,r)=>x=d.app r/\CBl D F NS r) (fun (_,r)=>r.length) (.nil,x) (key _ (by exact Uw.wW)) ⟨rfl,hc⟩ ?_
 clear hc h1 z0 z1 h0 key;rintro ⟨d,r⟩ ⟨hd,hc⟩;have hdl:x.length=d.length+r.length:=by rw [hd,ti]
 cases r with
 | nil=>
  have hd:x=d:=by rw [hd,Bl.rq]
  subst hd;have hdl:¬x.length<L.length:=by omega
  clear hel
  repeat' first|refine aw ?_|refine bw (fun _=>?_) fun _=>?_
  refine aJ ?_
  repeat' first|refine aw ?_|refine bw (fun _=>?_) fun _=>?_
  refine ad 4 [0,1,2] h9 ?_
  repeat' first|refine aw ?_|refine bw (fun _=>?_) fun _=>?_
  subst hT;exact bG 3 rfl rfl (by exact Uw.wW)
 | cons e r=>
  have hlt:d.length<L.length:=by rw [hm,hdl];simp [Bl.length]
  have he:=hel d r e hd;have hsz:x.sz=d.sz+(e.sz+r.sz):=by rw [hd,Bl.rp,Bl.sz]
  have hae:At NS (b+d.sz) (e.flat (b+d.sz)):=by
   rw [hd,Bl.oq,Bl.flat] at ha0;have:=ha0.right.left;rw [Bl.au] at this;exact this
  have hfe:Free (orR p1 b d.sz) (b+d.sz) e.sz:=fun i h1 h2=>by rw [m5 (by omega)];exact hp1 i (by omega) (by omega)
  have hd' : x=(d.app (.cons e .nil)).app r:=by rw [Bl.kY];exact hd
  have hsz' : (d.app (.cons e .nil)).sz=d.sz+e.sz:=by rw [Bl.rp];rfl
  have hlen' : (d.app (.cons e .nil)).length=d.length+1:=by rw [ti];rfl
  have hor:orR (orR p1 b d.sz) (b+d.sz) e.sz=orR p1 b (d.app (.cons e .nil)).sz:=by rw [m4,hsz']
  have hwn:wBl (d.app (.cons e .nil))=wBl d++db e:=by rw [Lx];simp [wBl]
  have hwd:=pu d;have hce:=hc.1 (b+d.sz) (orR p1 b d.sz) (ws++[[123]]++wBl d) hae hfe (by simp at *;omega);rw [hor,aaD _ (wBl d),<- hwn] at hce;clear hel
  repeat' first|refine aw ?_|refine bw (fun _=>?_) fun _=>?_
  refine ad 4 [0,1,2] hce ?_
  repeat' first|refine aw ?_|refine bw (fun _=>?_) fun _=>?_
  exact cn (d.app (.cons e .nil),r) ⟨hd',hc.2⟩ (by show _<_;simp [Bl.length]) (by exact Uw.wW)
end Uw.Tryz
namespace Uw.Tryz
open Go Uw
theorem YB (D F:List (List Dat)) (NS:List Nod) (s:Str) (q0 q1:Nat) (p p1 p2:Nat->Bool) (ws ws1 ws2 ws3:List Str)
  (h1:aE P0 bA [.ptr 0 0,.d (I q0)] (wrN D F NS p ws) (.agg [.d (I 9),.d (I 0),.d (.str s),.d (.str []),.d (bN [(q1:Int)])]) (wrN D F NS p1 ws))
  (h2:aE P0 aD [.ptr 0 0,.d (.slice 1 (cP [s,[61]]) true)] (wrN D F NS p1 ws) (.tuple []) (wrN D F NS p1 ws1))
  (h3:aE P0 aL [.ptr 0 0,.d (I q1),.d (I 0)] (wrN D F NS p1 ws1) (.tuple []) (wrN D F NS p2 ws2))
  (h4:aE P0 aD [.ptr 0 0,.d (.slice 1 (cP [[59]]) true)] (wrN D F NS p2 ws2) (.tuple []) (wrN D F NS p2 ws3)) :
  aE P0 bm [.ptr 0 0,.d (I q0)] (wrN D F NS p ws) (.tuple []) (wrN D F NS p2 ws3):=by
 have he0:([(q1:Int)].map fun i=>[I i])[Int.toNat 0]? = some [I q1]:=rfl;refine ax bC rfl ?_
 repeat' first|refine aw ?_|refine bw (fun _=>?_) fun _=>?_
 refine ad 3 [0,1,2] h1 ?_
 repeat' first|refine aw ?_|refine bw (fun _=>?_) fun _=>?_
 refine ad 4 [0,1,2] h2 ?_
 repeat' first|refine aw ?_|refine bw (fun _=>?_) fun _=>?_
 refine ad 4 [0,1,2] h3 ?_
 repeat' first|refine aw ?_|refine bw (fun _=>?_) fun _=>?_
 refine ad 4 [0,1,2] h4 ?_
 repeat' first|refine aw ?_|refine bw (fun _=>?_) fun _=>?_
 exact bG 3 rfl rfl (by exact Uw.wW)
theorem TO (D F:List (List Dat)) (NS:List Nod) (q0 q1:Nat) (p p1 p2:Nat->Bool) (ws ws1 ws2 ws3:List Str)
  (h1:aE P0 bA [.ptr 0 0,.d (I q0)] (wrN D F NS p ws) (.agg [.d (I 15),.d (I 0),.d (.str []),.d (.str []),.d (bN [(q1:Int)])]) (wrN D F NS p1 ws))
  (h2:aE P0 aD [.ptr 0 0,.d (.slice 1 (cP [dW]) true)] (wrN D F NS p1 ws) (.tuple []) (wrN D F NS p1 ws1))
  (h3:aE P0 aL [.ptr 0 0,.d (I q1),.d (I 0)] (wrN D F NS p1 ws1) (.tuple []) (wrN D F NS p2 ws2))
  (h4:aE P0 aD [.ptr 0 0,.d (.slice 1 (cP [[59]]) true)] (wrN D F NS p2 ws2) (.tuple []) (wrN D F NS p2 ws3)) :
  aE P0 bm [.ptr 0 0,.d (I q0)] (wrN D F NS p ws) (.tuple []) (wrN D F NS p2 ws3):=by
 have he0:([(q1:Int)].map fun i=>[I i])[Int.toNat 0]? = some [I q1]:=rfl;unfold dW at *;refine ax bC rfl ?_
 repeat' first|refine aw ?_|refine bw (fun _=>?_) fun _=>?_
 refine ad 3 [0,1,2] h1 ?_
 repeat' first|refine aw ?_|refine bw (fun _=>?_) fun _=>?_
 refine ad 4 [0,1,2] h2 ?_
 repeat' first|refine aw ?_|refine bw (fun _=>?_) fun _=>?_
 refine ad 4 [0,1,2] h3 ?_
 repeat' first|refine aw ?_|refine bw (fun _=>?_) fun _=>?_
 refine ad 4 [0,1,2] h4 ?_
 repeat' first|refine aw ?_|refine bw (fun _=>?_) fun _=>?_
 exact bG 3 rfl rfl (by exact Uw.wW)
theorem TP (D F:List (List Dat)) (NS:List Nod) (q0 q1:Nat) (p p1 p2:Nat->Bool) (ws ws1 ws2 ws3:List Str)
  (h1:aE P0 bA [.ptr 0 0,.d (I q0)] (wrN D F NS p ws) (.agg [.d (I 16),.d (I 0),.d (.str []),.d (.str []),.d (bN [(q1:Int)])]) (wrN D F NS p1 ws))
  (h2:aE P0 aD [.ptr 0 0,.d (.slice 1 (cP [dM]) true)] (wrN D F NS p1 ws) (.tuple []) (wrN D F NS p1 ws1))
  (h3:aE P0 aL [.ptr 0 0,.d (I q1),.d (I 0)] (wrN D F NS p1 ws1) (.tuple []) (wrN D F NS p2 ws2))
  (h4:aE P0 aD [.ptr 0 0,.d (.slice 1 (cP [[59]]) true)] (wrN D F NS p2 ws2) (.tuple []) (wrN D F NS p2 ws3)) :
  aE P0 bm [.ptr 0 0,.d (I q0)] (wrN D F NS p ws) (.tuple []) (wrN D F NS p2 ws3):=by
 have he0:([(q1:Int)].map fun i=>[I i])[Int.toNat 0]? = some [I q1]:=rfl;unfold dM at *;refine ax bC rfl ?_
 repeat' first|refine aw ?_|refine bw (fun _=>?_) fun _=>?_
 refine ad 3 [0,1,2] h1 ?_
 repeat' first|refine aw ?_|refine bw (fun _=>?_) fun _=>?_
 refine ad 4 [0,1,2] h2 ?_
 repeat' first|refine aw ?_|refine bw (fun _=>?_) fun _=>?_
 refine ad 4 [0,1,2] h3 ?_
 repeat' first|refine aw ?_|refine bw (fun _=>?_) fun _=>?_
 refine ad 4 [0,1,2] h4 ?_
 repeat' first|refine aw ?_|refine bw (fun _=>?_) fun _=>?_
 exact bG 3 rfl rfl (by exact Uw.wW)
theorem YC (D F:List (List Dat)) (NS:List Nod) (q0 q1:Nat) (p p1 p2:Nat->Bool) (ws ws1 ws2 ws3:List Str)
  (h1:aE P0 bA [.ptr 0 0,.d (I q0)] (wrN D F NS p ws) (.agg [.d (I 17),.d (I 0),.d (.str []),.d (.str []),.d (bN [(q1:Int)])]) (wrN D F NS p1 ws))
  (h3:aE P0 aL [.ptr 0 0,.d (I q1),.d (I 0)] (wrN D F NS p1 ws) (.tuple []) (wrN D F NS p2 ws2))
  (h4:aE P0 aD [.ptr 0 0,.d (.slice 1 (cP [[59]]) true)] (wrN D F NS p2 ws2) (.tuple []) (wrN D F NS p2 ws3)) :
  aE P0 bm [.ptr 0 0,.d (I q0)] (wrN D F NS p ws) (.tuple []) (wrN D F NS p2 ws3):=by
 have he0:([(q1:Int)].map fun i=>[I i])[Int.toNat 0]? = some [I q1]:=rfl;refine ax bC rfl ?_
 repeat' first|refine aw ?_|refine bw (fun _=>?_) fun _=>?_
 refine ad 3 [0,1,2] h1 ?_
 repeat' first|refine aw ?_|refine bw (fun _=>?_) fun _=>?_
 refine ad 4 [0,1,2] h3 ?_
 repeat' first|refine aw ?_|refine bw (fun _=>?_) fun _=>?_
 refine ad 4 [0,1,2] h4 ?_
 repeat' first|refine aw ?_|refine bw (fun _=>?_) fun _=>?_
 exact bG 3 rfl rfl (by exact Uw.wW)
theorem W6 (D F:List (List Dat)) (NS:List Nod) (q0:Nat) (p p1:Nat->Bool) (ws ws1 ws2:List Str)
  (h1:aE P0 bA [.ptr 0 0,.d (I q0)] (wrN D F NS p ws) (.agg [.d (I 12),.d (I 0),.d (.str []),.d (.str []),.d (bN [])]) (wrN D F NS p1 ws))
  (h2:aE P0 aD [.ptr 0 0,.d (.slice 1 (cP [jM]) true)] (wrN D F NS p1 ws) (.tuple []) (wrN D F NS p1 ws1))
  (h3:aE P0 aD [.ptr 0 0,.d (.slice 1 (cP [[59]]) true)] (wrN D F NS p1 ws1) (.tuple []) (wrN D F NS p1 ws2)) :
  aE P0 bm [.ptr 0 0,.d (I q0)] (wrN D F NS p ws) (.tuple []) (wrN D F NS p1 ws2):=by
 unfold jM at *;refine ax bC rfl ?_
 repeat' first|refine aw ?_|refine bw (fun _=>?_) fun _=>?_
 refine ad 3 [0,1,2] h1 ?_
 repeat' first|refine aw ?_|refine bw (fun _=>?_) fun _=>?_
 refine ad 4 [0,1,2] h2 ?_
 repeat' first|refine aw ?_|refine bw (fun _=>?_) fun _=>?_
 refine ad 4 [0,1,2] h3 ?_
 repeat' first|refine aw ?_|refine bw (fun _=>?_) fun _=>?_
 exact bG 3 rfl rfl (by exact Uw.wW)
theorem QA (D F:List (List Dat)) (NS:List Nod) (to f:Str) (ps:List Int) (q0:Nat) (p p1 p2:Nat->Bool) (ws ws1 ws2 ws3:List Str)
  (h1:aE P0 bA [.ptr 0 0,.d (I q0)] (wrN D F NS p ws) (.agg [.d (I 10),.d (I 0),.d (.str to),.d (.str f),.d (bN ps)]) (wrN D F NS p1 ws))
  (h2:aE P0 fD [.ptr 0 0,.agg [.d (I 10),.d (I 0),.d (.str to),.d (.str f),.d (bN ps)]] (wrN D F NS p1 ws) (.tuple []) (wrN D F NS p2 ws2))
  (h3:aE P0 aD [.ptr 0 0,.d (.slice 1 (cP [[59]]) true)] (wrN D F NS p2 ws2) (.tuple []) (wrN D F NS p2 ws3)) :
  aE P0 bm [.ptr 0 0,.d (I q0)] (wrN D F NS p ws) (.tuple []) (wrN D F NS p2 ws3):=by
 refine ax bC rfl ?_
 repeat' first|refine aw ?_|refine bw (fun _=>?_) fun _=>?_
 refine ad 3 [0,1,2] h1 ?_
 repeat' first|refine aw ?_|refine bw (fun _=>?_) fun _=>?_
 refine ad 4 [0,1,2] h2 ?_
 repeat' first|refine aw ?_|refine bw (fun _=>?_) fun _=>?_
 refine ad 4 [0,1,2] h3 ?_
 repeat' first|refine aw ?_|refine bw (fun _=>?_) fun _=>?_
 exact bG 3 rfl rfl (by exact Uw.wW)
theorem QB (D F:List (List Dat)) (NS:List Nod) (to f:Str) (ps:List Int) (q0:Nat) (p p1 p2:Nat->Bool) (ws ws1 ws2 ws3:List Str)
  (h1:aE P0 bA [.ptr 0 0,.d (I q0)] (wrN D F NS p ws) (.agg [.d (I 11),.d (I 0),.d (.str to),.d (.str f),.d (bN ps)]) (wrN D F NS p1 ws))
  (h2:aE P0 fD [.ptr 0 0,.agg [.d (I 11),.d (I 0),.d (.str to),.d (.str f),.d (bN ps)]] (wrN D F NS p1 ws) (.tuple []) (wrN D F NS p2 ws2))
  (h3:aE P0 aD [.ptr 0 0,.d (.slice 1 (cP [[59]]) true)] (wrN D F NS p2 ws2) (.tuple []) (wrN D F NS p2 ws3)) :
  aE P0 bm [.ptr 0 0,.d (I q0)] (wrN D F NS p ws) (.tuple []) (wrN D F NS p2 ws3):=by
 refine ax bC rfl ?_
 repeat' first|refine aw ?_|refine bw (fun _=>?_) fun _=>?_
 refine ad 3 [0,1,2] h1 ?_
 repeat' first|refine aw ?_|refine bw (fun _=>?_) fun _=>?_
 refine ad 4 [0,1,2] h2 ?_
 repeat' first|refine aw ?_|refine bw (fun _=>?_) fun _=>?_
 refine ad 4 [0,1,2] h3 ?_
 repeat' first|refine aw ?_|refine bw (fun _=>?_) fun _=>?_
 exact bG 3 rfl rfl (by exact Uw.wW)
theorem W7 (D F:List (List Dat)) (NS:List Nod) (q0 q1 q2:Nat) (p p1 p2 p3:Nat->Bool) (ws ws1 ws2 ws3:List Str)
  (h1:aE P0 bA [.ptr 0 0,.d (I q0)] (wrN D F NS p ws) (.agg [.d (I 14),.d (I 0),.d (.str []),.d (.str []),.d (bN [(q1:Int),(q2:Int)])]) (wrN D F NS p1 ws))
  (h2:aE P0 aD [.ptr 0 0,.d (.slice 1 (cP [fX]) true)] (wrN D F NS p1 ws) (.tuple []) (wrN D F NS p1 ws1))
  (h3:aE P0 aL [.ptr 0 0,.d (I q1),.d (I 0)] (wrN D F NS p1 ws1) (.tuple []) (wrN D F NS p2 ws2))
  (h4:aE P0 dy [.ptr 0 0,.d (I q2)] (wrN D F NS p2 ws2) (.tuple []) (wrN D F NS p3 ws3)) :
  aE P0 bm [.ptr 0 0,.d (I q0)] (wrN D F NS p ws) (.tuple []) (wrN D F NS p3 ws3):=by
 have hlen:([(q1:Int),(q2:Int)].map fun i=>[I i]).length=2:=rfl;have he0:([(q1:Int),(q2:Int)].map fun i=>[I i])[Int.toNat 0]? = some [I q1]:=rfl;have he1:([(q1:Int),(q2:Int)].map fun i=>[I i])[Int.toNat 1]? = some [I q2]:=rfl;unfold fX at *;refine ax bC rfl ?_
 repeat' first|refine aw ?_|refine bw (fun _=>?_) fun _=>?_
 refine ad 3 [0,1,2] h1 ?_
 repeat' first|refine aw ?_|refine bw (fun _=>?_) fun _=>?_
 refine ad 4 [0,1,2] h2 ?_
 repeat' first|refine aw ?_|refine bw (fun _=>?_) fun _=>?_
 refine ad 4 [0,1,2] h3 ?_
 repeat' first|refine aw ?_|refine bw (fun _=>?_) fun _=>?_
 refine ad 4 [0,1,2] h4 ?_
 repeat' first|refine aw ?_|refine bw (fun _=>?_) fun _=>?_
 exact aF 3 rfl rfl (by exact Uw.wW)
theorem YD (D F:List (List Dat)) (NS:List Nod) (q0 q1 q2:Nat) (p p1 p2 p3:Nat->Bool) (ws ws1 ws2 ws3:List Str)
  (h1:aE P0 bA [.ptr 0 0,.d (I q0)] (wrN D F NS p ws) (.agg [.d (I 13),.d (I 0),.d (.str []),.d (.str []),.d (bN [(q1:Int),(q2:Int)])]) (wrN D F NS p1 ws))
  (h2:aE P0 aD [.ptr 0 0,.d (.slice 1 (cP [sIf]) true)] (wrN D F NS p1 ws) (.tuple []) (wrN D F NS p1 ws1))
  (h3:aE P0 aL [.ptr 0 0,.d (I q1),.d (I 0)] (wrN D F NS p1 ws1) (.tuple []) (wrN D F NS p2 ws2))
  (h4:aE P0 dy [.ptr 0 0,.d (I q2)] (wrN D F NS p2 ws2) (.tuple []) (wrN D F NS p3 ws3)) :
  aE P0 bm [.ptr 0 0,.d (I q0)] (wrN D F NS p ws) (.tuple []) (wrN D F NS p3 ws3):=by
 have hlen:([(q1:Int),(q2:Int)].map fun i=>[I i]).length=2:=rfl;have he0:([(q1:Int),(q2:Int)].map fun i=>[I i])[Int.toNat 0]? = some [I q1]:=rfl;have he1:([(q1:Int),(q2:Int)].map fun i=>[I i])[Int.toNat 1]? = some [I q2]:=rfl;unfold sIf at *;refine ax bC rfl ?_
 repeat' first|refine aw ?_|refine bw (fun _=>?_) fun _=>?_
 refine ad 3 [0,1,2] h1 ?_
 repeat' first|refine aw ?_|refine bw (fun _=>?_) fun _=>?_
 refine ad 4 [0,1,2] h2 ?_
 repeat' first|refine aw ?_|refine bw (fun _=>?_) fun _=>?_
 refine ad 4 [0,1,2] h3 ?_
 repeat' first|refine aw ?_|refine bw (fun _=>?_) fun _=>?_
 refine ad 4 [0,1,2] h4 ?_
 repeat' first|refine aw ?_|refine bw (fun _=>?_) fun _=>?_
 exact aF 3 rfl rfl (by exact Uw.wW)
theorem YE (D F:List (List Dat)) (NS:List Nod) (q0 q1 q2 q3:Nat) (p p1 p2 p3 p4:Nat->Bool) (ws ws1 ws2 ws3 ws4 ws5:List Str)
  (h1:aE P0 bA [.ptr 0 0,.d (I q0)] (wrN D F NS p ws) (.agg [.d (I 13),.d (I 0),.d (.str []),.d (.str []),.d (bN [(q1:Int),(q2:Int),(q3:Int)])]) (wrN D F NS p1 ws))
  (h2:aE P0 aD [.ptr 0 0,.d (.slice 1 (cP [sIf]) true)] (wrN D F NS p1 ws) (.tuple []) (wrN D F NS p1 ws1))
  (h3:aE P0 aL [.ptr 0 0,.d (I q1),.d (I 0)] (wrN D F NS p1 ws1) (.tuple []) (wrN D F NS p2 ws2))
  (h4:aE P0 dy [.ptr 0 0,.d (I q2)] (wrN D F NS p2 ws2) (.tuple []) (wrN D F NS p3 ws3))
  (h5:aE P0 aD [.ptr 0 0,.d (.slice 1 (cP [ja]) true)] (wrN D F NS p3 ws3) (.tuple []) (wrN D F NS p3 ws4))
  (h6:aE P0 dy [.ptr 0 0,.d (I q3)] (wrN D F NS p3 ws4) (.tuple []) (wrN D F NS p4 ws5)) :
  aE P0 bm [.ptr 0 0,.d (I q0)] (wrN D F NS p ws) (.tuple []) (wrN D F NS p4 ws5):=by
 have hlen:([(q1:Int),(q2:Int),(q3:Int)].map fun i=>[I i]).length=3:=rfl;have he0:([(q1:Int),(q2:Int),(q3:Int)].map fun i=>[I i])[Int.toNat 0]? = some [I q1]:=rfl;have he1:([(q1:Int),(q2:Int),(q3:Int)].map fun i=>[I i])[Int.toNat 1]? = some [I q2]:=rfl;have he2:([(q1:Int),(q2:Int),(q3:Int)].map fun i=>[I i])[Int.toNat 2]? = some [I q3]:=rfl;unfold sIf ja at *;refine ax bC rfl ?_
 repeat' first|refine aw ?_|refine bw (fun _=>?_) fun _=>?_
 refine ad 3 [0,1,2] h1 ?_
 repeat' first|refine aw ?_|refine bw (fun _=>?_) fun _=>?_
 refine ad 4 [0,1,2] h2 ?_
 repeat' first|refine aw ?_|refine bw (fun _=>?_) fun _=>?_
 refine ad 4 [0,1,2] h3 ?_
 repeat' first|refine aw ?_|refine bw (fun _=>?_) fun _=>?_
 refine ad 4 [0,1,2] h4 ?_
 repeat' first|refine aw ?_|refine bw (fun _=>?_) fun _=>?_
 refine ad 4 [0,1,2] h5 ?_
 repeat' first|refine aw ?_|refine bw (fun _=>?_) fun _=>?_
 refine ad 4 [0,1,2] h6 ?_
 repeat' first|refine aw ?_|refine bw (fun _=>?_) fun _=>?_
 exact aF 3 rfl rfl (by exact Uw.wW)
theorem QC (D F:List (List Dat)) (NS:List Nod) (hN:NS.length<100000) (s:Str) (e:Ex) (he:CEx D F NS e):Bz D F NS (Stm.set s e):=by
 intro b p ws ha hp hw;have hsz:(Stm.set s e).sz=e.sz+1:=rfl;have ha1:At NS b (e.flat b++[⟨9,0,s,[],[b+e.sz - 1]⟩]):=ha;have hx1:=e.dS;have hroot:=ha1.right.one;rw [Ex.au] at hroot;have h1:=ig D F NS hN p ws (b+e.sz) _ hroot (hp _ (by omega) (by rw [hsz];omega));have e1:b+(Stm.set s e).sz - 1=b+e.sz:=by rw [hsz];omega
 have e2:orR p b (Stm.set s e).sz=orR (eE p (b+e.sz)) b e.sz:=by rw [hsz,iI]
 have hf1:Free (eE p (b+e.sz)) b e.sz:=fun i h1 h2=>by rw [eO (by omega)];exact hp i h1 (by rw [hsz];omega)
 have hl:=fQ e 0;rw [hsz] at hw;rw [e1,e2,show ws++db (Stm.set s e)=ws++[s,[61]]++wEx e 0++[[59]] by simp [db]];exact YB D F NS s _ (b+e.sz - 1) p _ _ ws _ _ _ h1 (aH D F (nsL NS) _ ws [s,[61]] (by simp;omega)) (he b 0 _ _ ha1.left hf1 (by omega) (by simp;omega)) (aH D F (nsL NS) _ _ [[59]] (by simp;omega))
theorem QD (D F:List (List Dat)) (NS:List Nod) (hN:NS.length<100000) (e:Ex) (he:CEx D F NS e):Bz D F NS (Stm.one 15 e):=by
 intro b p ws ha hp hw;have hsz:(Stm.one 15 e).sz=e.sz+1:=rfl;have ha1:At NS b (e.flat b++[⟨15,0,[],[],[b+e.sz - 1]⟩]):=ha;have hx1:=e.dS;have hroot:=ha1.right.one;rw [Ex.au] at hroot;have h1:=ig D F NS hN p ws (b+e.sz) _ hroot (hp _ (by omega) (by rw [hsz];omega));have e1:b+(Stm.one 15 e).sz - 1=b+e.sz:=by rw [hsz];omega
 have e2:orR p b (Stm.one 15 e).sz=orR (eE p (b+e.sz)) b e.sz:=by rw [hsz,iI]
 have hf1:Free (eE p (b+e.sz)) b e.sz:=fun i h1 h2=>by rw [eO (by omega)];exact hp i h1 (by rw [hsz];omega)
 have hl:=fQ e 0;rw [hsz] at hw;rw [e1,e2,show ws++db (Stm.one 15 e)=ws++[dW]++wEx e 0++[[59]] by simp [db]];exact TO D F NS _ (b+e.sz - 1) p _ _ ws _ _ _ h1 (aH D F (nsL NS) _ ws [dW] (by simp;omega)) (he b 0 _ _ ha1.left hf1 (by omega) (by simp;omega)) (aH D F (nsL NS) _ _ [[59]] (by simp;omega))
theorem QE (D F:List (List Dat)) (NS:List Nod) (hN:NS.length<100000) (e:Ex) (he:CEx D F NS e):Bz D F NS (Stm.one 16 e):=by
 intro b p ws ha hp hw;have hsz:(Stm.one 16 e).sz=e.sz+1:=rfl;have ha1:At NS b (e.flat b++[⟨16,0,[],[],[b+e.sz - 1]⟩]):=ha;have hx1:=e.dS;have hroot:=ha1.right.one;rw [Ex.au] at hroot;have h1:=ig D F NS hN p ws (b+e.sz) _ hroot (hp _ (by omega) (by rw [hsz];omega));have e1:b+(Stm.one 16 e).sz - 1=b+e.sz:=by rw [hsz];omega
 have e2:orR p b (Stm.one 16 e).sz=orR (eE p (b+e.sz)) b e.sz:=by rw [hsz,iI]
 have hf1:Free (eE p (b+e.sz)) b e.sz:=fun i h1 h2=>by rw [eO (by omega)];exact hp i h1 (by rw [hsz];omega)
 have hl:=fQ e 0;rw [hsz] at hw;rw [e1,e2,show ws++db (Stm.one 16 e)=ws++[dM]++wEx e 0++[[59]] by simp [db]];exact TP D F NS _ (b+e.sz - 1) p _ _ ws _ _ _ h1 (aH D F (nsL NS) _ ws [dM] (by simp;omega)) (he b 0 _ _ ha1.left hf1 (by omega) (by simp;omega)) (aH D F (nsL NS) _ _ [[59]] (by simp;omega))
theorem QF (D F:List (List Dat)) (NS:List Nod) (hN:NS.length<100000) (o v:Str) (ar:Exs) (he:CEx D F NS (.call o v ar)):Bz D F NS (.act o v ar):=by
 intro b p ws ha hp hw;have hsz:(Stm.act o v ar).sz=ar.sz+1+1:=rfl;have ha1:At NS b ((Ex.call o v ar).flat b++[⟨17,0,[],[],[b+ar.sz+1 - 1]⟩]):=ha;have hez:(Ex.call o v ar).sz=ar.sz+1:=rfl;have hw1:db (.act o v ar)=wEx (.call o v ar) 0++[[59]]:=rfl;have hroot:=ha1.right.one;rw [Ex.au] at hroot;have hl:=fQ (.call o v ar) 0;rw [hw1];generalize Ex.call o v ar=e at *;have h1:=ig D F NS hN p ws (b+e.sz) _ hroot (hp _ (by omega) (by rw [hsz];omega));have e1:b+(Stm.act o v ar).sz - 1=b+e.sz:=by rw [hsz];omega
 have e2:orR p b (Stm.act o v ar).sz=orR (eE p (b+e.sz)) b e.sz:=by rw [hsz,<- hez,iI]
 have hf1:Free (eE p (b+e.sz)) b e.sz:=fun i h1 h2=>by rw [eO (by omega)];exact hp i h1 (by rw [hsz];omega)
 rw [hsz] at hw;rw [show b+ar.sz+1 - 1=b+e.sz - 1 by omega] at h1;rw [e1,e2,<- aaD];exact YC D F NS _ (b+e.sz - 1) p _ _ ws ws _ _ h1 (he b 0 _ _ ha1.left hf1 (by omega) (by omega)) (aH D F (nsL NS) _ _ [[59]] (by simp;omega))
theorem Nu (D F:List (List Dat)) (NS:List Nod) (hN:NS.length<100000):Bz D F NS .sync:=by
 intro b p ws ha hp hw;have ha1:At NS b [⟨12,0,[],[],[]⟩]:=ha;have h1:=ig D F NS hN p ws b _ ha1.one (hp _ (by omega) (by show b<b+1;omega));have hw:ws.length+20<1000000:=hw;rw [show b+Stm.sync.sz - 1=b from rfl,show orR p b Stm.sync.sz=eE p b from (zG p b).symm,show ws++db .sync=ws++[jM]++[[59]] by simp [db]];exact W6 D F NS b p _ ws _ _ h1 (aH D F (nsL NS) _ ws [jM] (by simp;omega)) (aH D F (nsL NS) _ _ [[59]] (by simp;omega))
theorem Nv (D F:List (List Dat)) (NS:List Nod) (hN:NS.length<100000) (par:Bool) (to f:Str) (ar:Exs) (hc:Nr D F NS ar):Bz D F NS (.task par to f ar):=by
 intro b p ws ha hp hw;have hsz:(Stm.task par to f ar).sz=ar.sz+1:=rfl;have ha1:At NS b (ar.flat b++[⟨if par then 11 else 10,0,to,f,ar.places b⟩]):=ha;have hroot:=ha1.right.one;rw [Exs.au] at hroot;have hlt:b+ar.sz<NS.length:=(aa0.1 hroot).1;have h1:=ig D F NS hN p ws (b+ar.sz) _ hroot (hp _ (by omega) (by rw [hsz];omega));have e1:b+(Stm.task par to f ar).sz - 1=b+ar.sz:=by rw [hsz];omega
 have e2:orR p b (Stm.task par to f ar).sz=orR (eE p (b+ar.sz)) b ar.sz:=by rw [hsz,iI]
 have hf1:Free (eE p (b+ar.sz)) b ar.sz:=fun i h1 h2=>by rw [eO (by omega)];exact hp i h1 (by rw [hsz];omega)
 have hl:=wu ar;have hl2:(dT ar).length=(gG ar).length+2:=by simp [dT]
 rw [hsz] at hw;have hof:(Nod.nd ⟨if par then 11 else 10,0,to,f,ar.places b⟩).of=mI (ar.places b):=rfl;rw [hof] at h1;have hpre:(if to=[] then [] else [to,[61]]:List Str).length<=2:=by split<;>simp
 rw [e1,e2,show ws++db (.task par to f ar)=(ws++(if to=[] then [] else [to,[61]]))++[if par then dZ else bT,f]++dT ar++[[59]] by simp [db]];have h2:=Ns D F NS (eE p (b+ar.sz)) (orR (eE p (b+ar.sz)) b ar.sz) ws _ par to f (mI (ar.places b))
  (aH D F (nsL NS) _ ws [to,[61]] (by simp;omega)) (aH D F (nsL NS) _ _ [if par then dZ else bT,f] (by simp only [aaw,aaA,aa3];omega))
  (yV D F NS hN ar hc b _ _ ha1.left hf1 (by omega) (by simp only [aaw,aaA,aa3];omega))
 have h3:=aH D F (nsL NS) (orR (eE p (b+ar.sz)) b ar.sz) ((ws++(if to=[] then [] else [to,[61]]))++[if par then dZ else bT,f]++dT ar) [[59]] (by simp only [aaw,aaA,aa3];omega)
 cases par
 ·exact QA D F NS to f _ _ p _ _ ws ws _ _ h1 h2 h3
 ·exact QB D F NS to f _ _ p _ _ ws ws _ _ h1 h2 h3
theorem Nw (D F:List (List Dat)) (NS:List Nod) (hN:NS.length<100000) (e:Ex) (x:Bl) (he:CEx D F NS e) (hx:BA D F NS x):Bz D F NS (Stm.loop e x):=by
 intro b p ws ha hp hw;have hsz:(Stm.loop e x).sz=e.sz+(x.sz+1)+1:=rfl;have ha1:At NS b (e.flat b++x.all (b+e.sz)++[⟨14,0,[],[],[b+e.sz - 1,b+e.sz+(x.sz+1) - 1]⟩]):=ha;have hx1:=e.dS;have hroot:=ha1.right.one;rw [aaw,Ex.au,Bl.hP] at hroot;have hax:=ha1.left.left;have hay:=ha1.left.right;rw [Ex.au] at hay;have h1:=ig D F NS hN p ws (b+(e.sz+(x.sz+1))) _ hroot (hp _ (by omega) (by rw [hsz];omega));have e1:b+(Stm.loop e x).sz - 1=b+(e.sz+(x.sz+1)):=by rw [hsz];omega
 have e2:orR p b (Stm.loop e x).sz=orR (orR (eE p (b+(e.sz+(x.sz+1)))) b e.sz) (b+e.sz) (x.sz+1):=by rw [m4,hsz,iI]
 have hf1:Free (eE p (b+(e.sz+(x.sz+1)))) b e.sz:=fun i h1 h2=>by rw [eO (by omega)];exact hp i h1 (by rw [hsz];omega)
 have hf2:Free (orR (eE p (b+(e.sz+(x.sz+1)))) b e.sz) (b+e.sz) (x.sz+1):=fun i h1 h2=>by rw [m5 (by omega),eO (by omega)];exact hp i (by omega) (by rw [hsz];omega)
 have hl:=fQ e 0;rw [hsz] at hw;rw [e1,e2,show ws++db (Stm.loop e x)=ws++[fX]++wEx e 0++df x by simp [db,df]];exact W7 D F NS _ (b+e.sz - 1) (b+e.sz+x.sz) p _ _ _ ws _ _ _ h1 (aH D F (nsL NS) _ ws [fX] (by simp;omega)) (he b 0 _ _ hax hf1 (by omega) (by simp;omega)) (hx (b+e.sz) _ _ hay hf2 (by simp;omega))
theorem QG (D F:List (List Dat)) (NS:List Nod) (hN:NS.length<100000) (e:Ex) (x:Bl) (he:CEx D F NS e) (hx:BA D F NS x):Bz D F NS (Stm.if1 e x):=by
 intro b p ws ha hp hw;have hsz:(Stm.if1 e x).sz=e.sz+(x.sz+1)+1:=rfl;have ha1:At NS b (e.flat b++x.all (b+e.sz)++[⟨13,0,[],[],[b+e.sz - 1,b+e.sz+(x.sz+1) - 1]⟩]):=ha;have hx1:=e.dS;have hroot:=ha1.right.one;rw [aaw,Ex.au,Bl.hP] at hroot;have hax:=ha1.left.left;have hay:=ha1.left.right;rw [Ex.au] at hay;have h1:=ig D F NS hN p ws (b+(e.sz+(x.sz+1))) _ hroot (hp _ (by omega) (by rw [hsz];omega));have e1:b+(Stm.if1 e x).sz - 1=b+(e.sz+(x.sz+1)):=by rw [hsz];omega
 have e2:orR p b (Stm.if1 e x).sz=orR (orR (eE p (b+(e.sz+(x.sz+1)))) b e.sz) (b+e.sz) (x.sz+1):=by rw [m4,hsz,iI]
 have hf1:Free (eE p (b+(e.sz+(x.sz+1)))) b e.sz:=fun i h1 h2=>by rw [eO (by omega)];exact hp i h1 (by rw [hsz];omega)
 have hf2:Free (orR (eE p (b+(e.sz+(x.sz+1)))) b e.sz) (b+e.sz) (x.sz+1):=fun i h1 h2=>by rw [m5 (by omega),eO (by omega)];exact hp i (by omega) (by rw [hsz];omega)
 have hl:=fQ e 0;rw [hsz] at hw;rw [e1,e2,show ws++db (Stm.if1 e x)=ws++[sIf]++wEx e 0++df x by simp [db,df]];exact YD D F NS _ (b+e.sz - 1) (b+e.sz+x.sz) p _ _ _ ws _ _ _ h1 (aH D F (nsL NS) _ ws [sIf] (by simp;omega)) (he b 0 _ _ hax hf1 (by omega) (by simp;omega)) (hx (b+e.sz) _ _ hay hf2 (by simp;omega))
theorem QH (D F:List (List Dat)) (NS:List Nod) (hN:NS.length<100000) (e:Ex) (x y:Bl) (he:CEx D F NS e) (hx:BA D F NS x) (hy:BA D F NS y):Bz D F NS (.if2 e x y):=by
 intro b p ws ha hp hw;have hsz:(Stm.if2 e x y).sz=e.sz+(x.sz+1)+(y.sz+1)+1:=rfl;have ha1:At NS b (e.flat b++x.all (b+e.sz)++y.all (b+e.sz+(x.sz+1))++[⟨13,0,[],[],[b+e.sz - 1,b+e.sz+(x.sz+1) - 1,b+e.sz+(x.sz+1)+(y.sz+1) - 1]⟩]):=ha;have hx1:=e.dS;have hroot:=ha1.right.one;rw [aaw,aaw,Ex.au,Bl.hP,Bl.hP] at hroot;have hax:=ha1.left.left.left;have hay:=ha1.left.left.right;rw [Ex.au] at hay;have haz:=ha1.left.right;rw [aaw,Ex.au,Bl.hP,<- abw] at haz;have h1:=ig D F NS hN p ws (b+(e.sz+(x.sz+1)+(y.sz+1))) _ hroot (hp _ (by omega) (by rw [hsz];omega));have e1:b+(Stm.if2 e x y).sz - 1=b+(e.sz+(x.sz+1)+(y.sz+1)):=by rw [hsz];omega
 have e2:orR p b (Stm.if2 e x y).sz=orR (orR (orR (eE p (b+(e.sz+(x.sz+1)+(y.sz+1)))) b e.sz) (b+e.sz) (x.sz+1)) (b+e.sz+(x.sz+1)) (y.sz+1):=by rw [m4,m4,hsz,show e.sz+(x.sz+1+(y.sz+1))=e.sz+(x.sz+1)+(y.sz+1) by omega,iI]
 have hf1:Free (eE p (b+(e.sz+(x.sz+1)+(y.sz+1)))) b e.sz:=fun i h1 h2=>by rw [eO (by omega)];exact hp i h1 (by rw [hsz];omega)
 have hf2:Free (orR (eE p (b+(e.sz+(x.sz+1)+(y.sz+1)))) b e.sz) (b+e.sz) (x.sz+1):=fun i h1 h2=>by rw [m5 (by omega),eO (by omega)];exact hp i (by omega) (by rw [hsz];omega)
 have hf3:Free (orR (orR (eE p (b+(e.sz+(x.sz+1)+(y.sz+1)))) b e.sz) (b+e.sz) (x.sz+1)) (b+e.sz+(x.sz+1)) (y.sz+1):=fun i h1 h2=>by rw [m5 (by omega),m5 (by omega),eO (by omega)];exact hp i (by omega) (by rw [hsz];omega)
 have hl:=fQ e 0;have hlx:=pu x;have ZZ : (df x).length=(wBl x).length+2:=by simp [df]
 rw [hsz] at hw;rw [e1,e2,show ws++db (.if2 e x y)=ws++[sIf]++wEx e 0++df x++[ja]++df y by simp [db,df]];exact YE D F NS _ (b+e.sz - 1) (b+e.sz+x.sz) (b+e.sz+(x.sz+1)+y.sz) p _ _ _ _ ws _ _ _ _ _ h1 (aH D F (nsL NS) _ ws [sIf] (by simp;omega)) (he b 0 _ _ hax hf1 (by omega) (by simp;omega))
  (hx (b+e.sz) _ _ hay hf2 (by simp;omega)) (aH D F (nsL NS) _ _ [ja] (by simp;omega)) (hy (b+e.sz+(x.sz+1)) _ _ haz hf3 (by simp;omega))
mutual
theorem m7 (D F:List (List Dat)) (NS:List Nod) (hN:NS.length<100000):∀(e:Ex),e.good->CEx D F NS e
 | .num n,h=>TI D F NS hN n h
 | .name s,h=>Qp D F NS hN s
 | .bin k x y,⟨hk,hx,hy⟩=>TJ D F NS hN k hk x y (m7 D F NS hN x hx) (m7 D F NS hN y hy)
 | .call o v ar,⟨_,_,h⟩=>IC D F NS hN o v ar (xi D F NS hN ar h)
theorem xi (D F:List (List Dat)) (NS:List Nod) (hN:NS.length<100000):∀(ar:Exs),ar.good->Nr D F NS ar
 | .nil,_=>trivial
 | .cons e r,⟨h1,h2⟩=>⟨m7 D F NS hN e h1,xi D F NS hN r h2⟩
end
mutual
theorem QI (D F:List (List Dat)) (NS:List Nod) (hN:NS.length<100000):∀(s:Stm),s.good->Bz D F NS s
 | .set s e,⟨_,h⟩=>QC D F NS hN s e (m7 D F NS hN e h)
 | .task par to f ar,⟨_,_,h,_⟩=>Nv D F NS hN par to f ar (xi D F NS hN ar h)
 | .sync,_=>Nu D F NS hN
 | .if1 e a,⟨h1,h2⟩=>QG D F NS hN e a (m7 D F NS hN e h1) (qF D F NS hN a (tW D F NS hN a h2))
 | .if2 e a b,⟨h1,h2,h3⟩=>QH D F NS hN e a b (m7 D F NS hN e h1) (qF D F NS hN a (tW D F NS hN a h2)) (qF D F NS hN b (tW D F NS hN b h3))
 | .loop e a,⟨h1,h2⟩=>Nw D F NS hN e a (m7 D F NS hN e h1) (qF D F NS hN a (tW D F NS hN a h2))
 | .one k e,⟨hk,h⟩=>hk.elim (fun hk=>hk ▸ QD D F NS hN e (m7 D F NS hN e h)) (fun hk=>hk ▸ QE D F NS hN e (m7 D F NS hN e h))
 | .act o v ar,⟨h1,h2,h3⟩=>QF D F NS hN o v ar (IC D F NS hN o v ar (xi D F NS hN ar h3))
theorem tW (D F:List (List Dat)) (NS:List Nod) (hN:NS.length<100000):∀(x:Bl),x.good->CBl D F NS x
 | .nil,_=>trivial
 | .cons s r,⟨h1,h2⟩=>⟨QI D F NS hN s h1,tW D F NS hN r h2⟩
end
end Uw.Tryz
namespace Uw.Tryz
open Go Uw
theorem TR (ds fs ns:List (List Dat)) (p:Nat->Bool) (ws:List Str) (s:Str) (h:ws.length+10<1000000):aE P0 eM [.ptr 0 0,.agg [.d (I 0),.d (.str s),.d (I 0)]] (wr ds fs ns p ws) (.tuple []) (wr ds fs ns p (ws++[kC,s]++[[59]])):=by
 have h1:=aH ds fs ns p ws [kC,s] (by simp;omega);have h2:=aH ds fs ns p (ws++[kC,s]) [[59]] (by simp;omega);unfold kC at *;generalize ws++[_,s]=ws1 at *;refine ax d5 rfl ?_
 repeat' first|refine aw ?_|refine bw (fun _=>?_) fun _=>?_
 refine ad 4 [0,1,2] h1 ?_
 repeat' first|refine aw ?_|refine bw (fun _=>?_) fun _=>?_
 refine ad 4 [0,1,2] h2 ?_
 repeat' first|refine aw ?_|refine bw (fun _=>?_) fun _=>?_
 exact bG 3 rfl rfl (by exact Uw.wW)
theorem QJ (ds fs ns:List (List Dat)) (p:Nat->Bool) (ws:List Str) (s:Str) (n:Int) (hn:nP n) (hn0:¬n=0) (h:ws.length+10<1000000):aE P0 eM [.ptr 0 0,.agg [.d (I 0),.d (.str s),.d (I n)]] (wr ds fs ns p ws) (.tuple []) (wr ds fs ns p (ws++[kC,s]++[[61],Lib.itoa n]++[[59]])):=by
 have h1:=aH ds fs ns p ws [kC,s] (by simp;omega);have h2:=aH ds fs ns p (ws++[kC,s]) [[61],Lib.itoa n] (by simp;omega);have h3:=aH ds fs ns p (ws++[kC,s]++[[61],Lib.itoa n]) [[59]] (by simp;omega);have hi:=s7 n (by have:=hn.1;omega) (by have:=hn.2;omega);have hn1:=hn.1;have hn2:=hn.2;clear hn;unfold kC at *;generalize Lib.itoa n=t at *;generalize ws++[_,s]++[_,t]=ws2 at *;generalize ws++[_,s]=ws1 at *;refine ax d5 rfl ?_
 repeat' first|refine aw ?_|refine bw (fun _=>?_) fun _=>?_
 refine ad 4 [0,1,2] h1 ?_
 repeat' first|refine aw ?_|refine bw (fun _=>?_) fun _=>?_
 refine ad 4 [0,1,2] h2 ?_
 repeat' first|refine aw ?_|refine bw (fun _=>?_) fun _=>?_
 refine ad 4 [0,1,2] h3 ?_
 repeat' first|refine aw ?_|refine bw (fun _=>?_) fun _=>?_
 exact bG 3 rfl rfl (by exact Uw.wW)
theorem TT (ds fs ns:List (List Dat)) (p:Nat->Bool) (ws:List Str) (s:Str) (k:Int) (hk:k=1\/k=2\/k=3) (h:ws.length+10<1000000):aE P0 eM [.ptr 0 0,.agg [.d (I k),.d (.str s),.d (I 0)]] (wr ds fs ns p ws) (.tuple []) (wr ds fs ns p (ws++[ix k,s]++[[59]])):=by
 have h1:=aH ds fs ns p ws [ix k,s] (by simp;omega);have h2:=aH ds fs ns p (ws++[ix k,s]) [[59]] (by simp;omega)
 rcases hk with rfl|rfl|rfl
 ·rw [show ix 1=[109,97,112] from rfl] at *
  generalize ws++[_,s]=ws1 at *;refine ax d5 rfl ?_
  repeat' first|refine aw ?_|refine bw (fun _=>?_) fun _=>?_
  refine ad 4 [0,1,2] h1 ?_
  repeat' first|refine aw ?_|refine bw (fun _=>?_) fun _=>?_
  refine ad 4 [0,1,2] h2 ?_
  repeat' first|refine aw ?_|refine bw (fun _=>?_) fun _=>?_
  exact bG 3 rfl rfl (by exact Uw.wW)
 ·rw [show ix 2=[115,116,97,99,107] from rfl] at *
  generalize ws++[_,s]=ws1 at *;refine ax d5 rfl ?_
  repeat' first|refine aw ?_|refine bw (fun _=>?_) fun _=>?_
  refine ad 4 [0,1,2] h1 ?_
  repeat' first|refine aw ?_|refine bw (fun _=>?_) fun _=>?_
  refine ad 4 [0,1,2] h2 ?_
  repeat' first|refine aw ?_|refine bw (fun _=>?_) fun _=>?_
  exact bG 3 rfl rfl (by exact Uw.wW)
 ·rw [show ix 3=[99,104,97,110] from rfl] at *
  generalize ws++[_,s]=ws1 at *;refine ax d5 rfl ?_
  repeat' first|refine aw ?_|refine bw (fun _=>?_) fun _=>?_
  refine ad 4 [0,1,2] h1 ?_
  repeat' first|refine aw ?_|refine bw (fun _=>?_) fun _=>?_
  refine ad 4 [0,1,2] h2 ?_
  repeat' first|refine aw ?_|refine bw (fun _=>?_) fun _=>?_
  exact bG 3 rfl rfl (by exact Uw.wW)
theorem W8 (ds fs ns:List (List Dat)) (p:Nat->Bool) (ws:List Str) (d:Dec) (hd:d.good) (h:ws.length+10<1000000):aE P0 eM [.ptr 0 0,.agg [.d (I d.kind),.d (.str d.name),.d (I d.n)]] (wr ds fs ns p ws) (.tuple []) (wr ds fs ns p (ws++eL d)):=by
 obtain ⟨k,s,n⟩:=d;obtain ⟨⟨h1,h2⟩,h3,h4,h5⟩:=hd;simp only at h1 h2 h4 h5;by_cases hk:k=0
 ·subst hk
  by_cases hn:n=0
  ·subst hn
   rw [show ws++eL ⟨0,s,0⟩=ws++[kC,s]++[[59]] by simp [eL,ix]];exact TR ds fs ns p ws s h
  ·rw [show ws++eL ⟨0,s,n⟩=ws++[kC,s]++[[61],Lib.itoa n]++[[59]] by simp [eL,ix,hn]]
   exact QJ ds fs ns p ws s n h4 hn h
 ·have hn:=h5 hk
  subst hn;rw [show ws++eL ⟨k,s,0⟩=ws++[ix k,s]++[[59]] by simp [eL]];exact TT ds fs ns p ws s k (by omega) h
end Uw.Tryz
namespace Go.Proofs
open Go.Shelf
def Tryz.lays167_ren:Go.Shelf.Ren:=⟨fun|166=>77|167=>76|240=>106|276=>127|n=>n,fun|0=>0|3=>3|4=>4|5=>5|9=>9|20=>20|37=>129|70=>128|72=>131|75=>133|79=>135|80=>97|127=>156|164=>168|n=>n,fun|n=>n⟩
theorem Tryz.lays167:Go.Proofs.Lays.n167 Tryz.prog Tryz.lays167_ren:={
 mixed:=by kernel_rfl
 f167:=Tryz.func76.trans (congrArg some (by kernel_rfl))
 f240:=Tryz.func106.trans (congrArg some (by kernel_rfl))
 f276:=Tryz.func127.trans (congrArg some (by kernel_rfl))
 t0:=Tryz.underlying0
 a0:=Tryz.isAgg0
 z0:=Tryz.sizeOf0
 v0:=Tryz.zeroValue0
 t4:=Tryz.underlying4
 a4:=Tryz.isAgg4
 z4:=Tryz.sizeOf4
 v4:=Tryz.zeroValue4
 t5:=Tryz.underlying5
 a5:=Tryz.isAgg5
 z5:=Tryz.sizeOf5
 v5:=Tryz.zeroValue5
 t9:=Tryz.underlying9
 a9:=Tryz.isAgg9
 z9:=Tryz.sizeOf9
 v9:=Tryz.zeroValue9
 t20:=Tryz.underlying20
 a20:=Tryz.isAgg20
 z20:=Tryz.sizeOf20
 v20:=Tryz.zeroValue20
 t37:=Tryz.underlying129
 a37:=Tryz.isAgg129
 z37:=Tryz.sizeOf129
 v37:=Tryz.zeroValue129
 t70:=Tryz.underlying128
 a70:=Tryz.isAgg128
 z70:=Tryz.sizeOf128
 v70:=Tryz.zeroValue128
 t72:=Tryz.underlying131
 a72:=Tryz.isAgg131
 z72:=Tryz.sizeOf131
 v72:=Tryz.zeroValue131
 t75:=Tryz.underlying133
 a75:=Tryz.isAgg133
 z75:=Tryz.sizeOf133
 v75:=Tryz.zeroValue133
 t164:=Tryz.underlying168
 a164:=Tryz.isAgg168
 z164:=Tryz.sizeOf168
 v164:=Tryz.zeroValue168 }
theorem Tryz.Builder_Extra_167:Builder.Extra Tryz.prog Tryz.lays167_ren:={
 sizeBuilder:=by kernel_rfl
 liesBuilder:=by kernel_rfl
 t5:=Tryz.underlying5
 a5:=Tryz.isAgg5
 z5:=Tryz.sizeOf5
 v5:=Tryz.zeroValue5
 infoByte:=by kernel_rfl
 cellsByte:=by kernel_rfl
 sizeByte:=by kernel_rfl
 neB5:=by decide }
def Tryz.lays166_ren:Go.Shelf.Ren:=⟨fun|166=>77|167=>76|240=>106|276=>127|n=>n,fun|0=>0|3=>3|4=>4|5=>5|9=>9|20=>20|37=>129|70=>128|72=>131|75=>133|79=>135|80=>97|127=>156|164=>168|n=>n,fun|n=>n⟩
theorem Tryz.lays166:Go.Proofs.Lays.n166 Tryz.prog Tryz.lays166_ren:={
 mixed:=by kernel_rfl
 f166:=Tryz.func77.trans (congrArg some (by kernel_rfl))
 f240:=Tryz.func106.trans (congrArg some (by kernel_rfl))
 f276:=Tryz.func127.trans (congrArg some (by kernel_rfl))
 t0:=Tryz.underlying0
 a0:=Tryz.isAgg0
 z0:=Tryz.sizeOf0
 v0:=Tryz.zeroValue0
 t3:=Tryz.underlying3
 a3:=Tryz.isAgg3
 z3:=Tryz.sizeOf3
 v3:=Tryz.zeroValue3
 t4:=Tryz.underlying4
 a4:=Tryz.isAgg4
 z4:=Tryz.sizeOf4
 v4:=Tryz.zeroValue4
 t9:=Tryz.underlying9
 a9:=Tryz.isAgg9
 z9:=Tryz.sizeOf9
 v9:=Tryz.zeroValue9
 t20:=Tryz.underlying20
 a20:=Tryz.isAgg20
 z20:=Tryz.sizeOf20
 v20:=Tryz.zeroValue20
 t37:=Tryz.underlying129
 a37:=Tryz.isAgg129
 z37:=Tryz.sizeOf129
 v37:=Tryz.zeroValue129
 t70:=Tryz.underlying128
 a70:=Tryz.isAgg128
 z70:=Tryz.sizeOf128
 v70:=Tryz.zeroValue128
 t72:=Tryz.underlying131
 a72:=Tryz.isAgg131
 z72:=Tryz.sizeOf131
 v72:=Tryz.zeroValue131
 t75:=Tryz.underlying133
 a75:=Tryz.isAgg133
 z75:=Tryz.sizeOf133
 v75:=Tryz.zeroValue133
 t164:=Tryz.underlying168
 a164:=Tryz.isAgg168
 z164:=Tryz.sizeOf168
 v164:=Tryz.zeroValue168 }
theorem Tryz.Builder_Extra_166:Builder.Extra Tryz.prog Tryz.lays166_ren:={
 sizeBuilder:=by kernel_rfl
 liesBuilder:=by kernel_rfl
 t5:=Tryz.underlying5
 a5:=Tryz.isAgg5
 z5:=Tryz.sizeOf5
 v5:=Tryz.zeroValue5
 infoByte:=by kernel_rfl
 cellsByte:=by kernel_rfl
 sizeByte:=by kernel_rfl
 neB5:=by decide }
open Go.RowKit in
theorem Tryz.Builder_WriteByte (B b:Nat) (bs:List Value) (c:Int) (w:World) (h:Lib.IsBuilder 131 5 B b bs w) (hlen:bs.length+1<=140737488355328) (hBw:B<=w.heap.size) :
  Calls Tryz.prog 76 #[.pointer (some ⟨b,0,none⟩),.int .u8 c] w fun e w'=>e = .returned .nilIface/\(Lib.BuilderAt 131 5 B b (.pointer (some ⟨b,0,none⟩)) (bs++[.int .u8 c]) w'/\Below B w w'):=Any.Builder_WriteByte Tryz.lays167 Tryz.Builder_Extra_167 B b bs c w h hlen hBw
open Go.RowKit in
theorem Tryz.Builder_WriteString (B b:Nat) (bs:List Value) (s:ByteArray) (w:World) (h:Lib.IsBuilder 131 5 B b bs w) (hlen:bs.length+s.size<=140737488355328) (hBw:B<=w.heap.size) :
  Calls Tryz.prog 77 #[.pointer (some ⟨b,0,none⟩),.string s] w fun e w'=>e = .returned (.tuple #[.int .i64 s.size,.nilIface])/\(Lib.BuilderAt 131 5 B b (.pointer (some ⟨b,0,none⟩)) (bs++Lib.strCells s) w'/\Below B w w'):=Any.Builder_WriteString Tryz.lays166 Tryz.Builder_Extra_166 B b bs s w h hlen hBw
end Go.Proofs
namespace Uw.Tryz
open Go Uw Go.Proofs Go.RowKit
theorem J3 (s:ByteArray) (h:0<s.size):∃t,s.data.toList=s[0]::t:=by
 rcases s with ⟨⟨l⟩⟩
 cases l with
 | nil=>exact absurd h (Nat.lt_irrefl 0)
 | cons c t=>exact ⟨t,rfl⟩
theorem EG (s:ByteArray) (w:World):Calls Go.Proofs.Tryz.prog FV #[.string s] w fun e w'=>e = .returned (.bool (jN s.data.toList))/\w' = w:=by
 show Calls _ 75 _ _ _;by_cases h0:s.size=0
 ·have hs:s = .empty:=by
   rcases s with ⟨⟨l⟩⟩
   cases l with
   | nil=>rfl
   | cons c t=>exact absurd h0 (Nat.succ_ne_zero _)
  subst hs
  go_enter Tryz.func75,Tryz.ntmps75
  go_wp2
  go_ret
  exact ⟨rfl,rfl⟩
 ·have h0' : 0<s.size:=by omega
  obtain ⟨t,hl⟩:=J3 s h0';have hem:s.toList.isEmpty=false:=by rw [ByteArray.toList_eq,hl];rfl
  have key:∀b:Bool,b=((decide (97<=(s[0]).toNat)&&decide ((s[0]).toNat<=122))||(decide (65<=(s[0]).toNat)&&decide ((s[0]).toNat<=90))||(decide (48<=(s[0]).toNat)&&decide ((s[0]).toNat<=57)))->(Ending.returned (.bool b):Ending) = .returned (.bool (jN s.data.toList)):=by
   intro b h;rw [h,hl];rfl
  generalize jN s.data.toList=L at *;clear hl t
  go_enter Tryz.func75,Tryz.ntmps75
  go_wp2
  all_goals
   go_ret
   refine ⟨key _ ?_,rfl⟩;generalize (s[0]).toNat=n at *;rw [abv];simp only [abg,aay,decide_eq_true_eq,aaX,true_iff,false_iff];omega
theorem hidJ {p:Prop} (h:p):Hid p:=h
theorem J4 (a s:Str) (r:List Str):dw a (s::r)=(if jN a&&jN s then [32] else [])++s++dw s r:=rfl
theorem Nx (bk o c:Nat) (xs:List ByteArray) (w:World)
  (hcells:∀(j:Nat) x,xs[j]? = some x->w.cell? ⟨bk,o+j,none⟩=some (.string x))
  (hbk:bk<w.heap.size) (hN:xs.length<=140737488355328) (hcap:xs.length<=c)
  (hlen:(dw [] (xs.map fun s=>s.data.toList)).length<=140737488355328) :
  Calls Go.Proofs.Tryz.prog mX #[.slice (some ⟨bk,o,none⟩) xs.length c] w fun e w'=>e = .returned (.string ⟨(dw [] (xs.map fun s=>s.data.toList)).toArray⟩)/\Below w.heap.size w w':=by
 show Calls _ 41 _ _ _;have HC:=hidJ hcells;clear hcells;have hJ:([]:List UInt8)++dw (ByteArray.empty.data.toList) ((xs.drop 0).map fun s=>s.data.toList)=dw [] (xs.map fun s=>s.data.toList):=by simp
 generalize dw [] (xs.map fun s=>s.data.toList)=J at *;have HJ:=hidJ hJ;have Hlen:=hidJ hlen;have H0:=hidJ (Lib.fresh_isBuilder 131 5 w);have Hb0:=hidJ ((Below.refl w.heap.size w).alloc (aax _) (.cells #[.pointer none,.slice none 0 0] 131));clear hJ hlen
 go_enter Tryz.func41,Tryz.ntmps41
 go_wp2_with fail
 go_loopw [4,9] (fun a i wr=>∃(k:Nat) (out:List UInt8) (ah:ByteArray),k<=xs.length/\a = .string ah/\i = .int .i64 k/\Hid (out++dw ah.data.toList ((xs.drop k).map fun s=>s.data.toList)=J)/\Hid (Lib.IsBuilder 131 5 w.heap.size w.heap.size (Lib.byteCells out) wr)/\Hid (Below w.heap.size w wr)) (fun _ i _=>xs.length - (intOf i).toNat)
 case atStart=>exact ⟨0,[],.empty,abr _,rfl,rfl,HJ,H0,Hb0⟩
 case round=>
  obtain ⟨k,out,ah,hk,rfl,rfl,HJ,HB,HW⟩:=hrel;by_cases hkn:k<xs.length
  ·obtain ⟨x,hx⟩:∃x,xs[k]? = some x:=⟨xs[k],aaU hkn⟩
   have hc:wr.cell? ⟨bk,o+k,none⟩=some (.string x):=by
    rw [HW.out.cell (p:=⟨bk,o+k,none⟩) hbk];exact HC.out k x hx
   have hd:xs.drop k=x::xs.drop (k+1):=by
    rw [aaW hkn];rw [aaU hkn] at hx;injection hx with hx
    rw [hx]
   have hj:=HJ.out;rw [hd,abG,J4] at hj;have hxs:x.data.toList.length=x.size:=rfl;have hl1:=Hlen.out;rw [<- hj] at hl1;simp only [aaw] at hl1;have hbl:(Lib.byteCells out).length=out.length:=Lib.byteCells_length _;have hBw:w.heap.size<=wr.heap.size:=HW.out.size;have LA:=EG ah wr;have LX:=EG x wr;generalize hL1:jN ah.data.toList=L1 at *;generalize hL2:jN x.data.toList=L2 at *;have Hj:=hidJ hj;have Hd:=hidJ hd;clear hx hd hj hL1 hL2
   cases L1 with
   | false=>
    go_wp2_with fail
    refine LA.mono ?_;rintro e w1 ⟨rfl,rfl⟩
    go_wp2_with fail
    refine (Tryz.Builder_WriteString w.heap.size w.heap.size _ x _ HB.out (by rw [hbl];omega) hBw).mono ?_;rintro e w2 ⟨rfl,h2,b2⟩;have H2:=hidJ (Or.inr h2:Lib.IsBuilder 131 5 w.heap.size w.heap.size _ w2);have B2:=hidJ (HW.out.trans b2);rw [Lib.strCells_eq] at H2;clear h2 b2
    go_wp2
    exact ⟨⟨k+1,out++x.data.toList,x,by omega,rfl,by go_num,hidJ (by have:=Hj.out;simpa using this),hidJ (by have:=H2.out;simpa [Lib.IsBuilder,<- Lib.byteCells_append,Lib.byteCells] using this),B2⟩,by simp [intOf];omega⟩
   | true=>
    cases L2 with
    | false=>
     go_wp2_with fail
     refine LA.mono ?_;rintro e w1 ⟨rfl,rfl⟩
     go_wp2_with fail
     refine LX.mono ?_;rintro e w2 ⟨rfl,rfl⟩
     go_wp2_with fail
     refine (Tryz.Builder_WriteString w.heap.size w.heap.size _ x _ HB.out (by rw [hbl];omega) hBw).mono ?_;rintro e w3 ⟨rfl,h2,b2⟩;have H2:=hidJ (Or.inr h2:Lib.IsBuilder 131 5 w.heap.size w.heap.size _ w3);have B2:=hidJ (HW.out.trans b2);rw [Lib.strCells_eq] at H2;clear h2 b2
     go_wp2
     exact ⟨⟨k+1,out++x.data.toList,x,by omega,rfl,by go_num,hidJ (by have:=Hj.out;simpa using this),hidJ (by have:=H2.out;simpa [Lib.IsBuilder,<- Lib.byteCells_append,Lib.byteCells] using this),B2⟩,by simp [intOf];omega⟩
    | true=>
     go_wp2_with fail
     refine LA.mono ?_;rintro e w1 ⟨rfl,rfl⟩
     go_wp2_with fail
     refine LX.mono ?_;rintro e w2 ⟨rfl,rfl⟩
     go_wp2_with fail
     refine (Tryz.Builder_WriteByte w.heap.size w.heap.size _ 32 _ HB.out (by rw [hbl];simp at hl1;omega) hBw).mono ?_;rintro e w3 ⟨rfl,h3,b3⟩;have H3:=hidJ h3;have B3:=hidJ (HW.out.trans b3);have hBw3:w.heap.size<=w3.heap.size:=aa7 hBw b3.size;clear h3 b3
     go_wp2_with fail
     refine (Tryz.Builder_WriteString w.heap.size w.heap.size _ x _ (Or.inr H3.out) (by rw [aaw,hbl];simp at hl1 ⊢;omega) hBw3).mono ?_;rintro e w4 ⟨rfl,h2,b2⟩;have H2:=hidJ (Or.inr h2:Lib.IsBuilder 131 5 w.heap.size w.heap.size _ w4);have B2:=hidJ (B3.out.trans b2);rw [Lib.strCells_eq] at H2;clear h2 b2
     go_wp2
     exact ⟨⟨k+1,out++[32]++x.data.toList,x,by omega,rfl,by go_num,hidJ (by have:=Hj.out;simpa using this),hidJ (by have:=H2.out;simpa [Lib.IsBuilder,<- Lib.byteCells_append,Lib.byteCells] using this),B2⟩,by simp [intOf];omega⟩
  ·have hke:k=xs.length:=by omega
   subst hke;have hj:=HJ.out;rw [List.drop_length,List.map_nil] at hj;have hj:out=J:=by rw [<- hj];simp [dw]
   subst hj;have hBw:w.heap.size<=wr.heap.size:=HW.out.size
   go_wp2_with fail
   refine (Tryz.Builder_String_any w.heap.size w.heap.size out _ HB.out hBw).mono ?_;rintro e w5 ⟨rfl,hb5⟩;have Hb5:=hidJ (HW.out.trans hb5);clear hb5
   go_wp2
   go_ret
   exact ⟨rfl,Hb5.out⟩
theorem join_none (a:Option Addr) (c:Nat) (w:World) :
  Calls Go.Proofs.Tryz.prog mX #[.slice a 0 c] w fun e w'=>e = .returned (.string ⟨([]:List UInt8).toArray⟩)/\Below w.heap.size w w':=by
 show Calls _ 41 _ _ _;have H0:=hidJ (Lib.fresh_isBuilder 131 5 w);have Hb0:=hidJ ((Below.refl w.heap.size w).alloc (aax _) (.cells #[.pointer none,.slice none 0 0] 131))
 go_enter Tryz.func41,Tryz.ntmps41
 go_wp2_with fail
 go_loopw [4,9] (fun a i wr=>a = .string .empty/\i = .int .i64 0/\Hid (Lib.IsBuilder 131 5 w.heap.size w.heap.size (Lib.byteCells []) wr)/\Hid (Below w.heap.size w wr)) (fun _ _ _=>0)
 case atStart=>exact ⟨rfl,rfl,H0,Hb0⟩
 case round=>
  obtain ⟨rfl,rfl,HB,HW⟩:=hrel;have hBw:w.heap.size<=wr.heap.size:=HW.out.size
  go_wp2_with fail
  refine (Tryz.Builder_String_any w.heap.size w.heap.size [] _ HB.out hBw).mono ?_;rintro e w5 ⟨rfl,hb5⟩;have Hb5:=hidJ (HW.out.trans hb5);clear hb5
  go_wp2
  go_ret
  exact ⟨rfl,Hb5.out⟩
theorem Gq (l:List Str) (z:Bool) (hN:l.length<1000000) (hlen:(dw [] l).length<=140737488355328) :
  Ret P0 mX [.slice 1 (cP l) z] (.str (dw [] l)):=by
 intro w J vs hG hr;obtain ⟨v,vs',rfl,hv,hr⟩:=hr;simp only [bp] at hr;subst hr;have hml:(cP l).length=l.length:=by simp [cP]
 have none:∀(a:Option Addr) (c:Nat),l=[]->Calls P0 mX #[.slice a 0 c] w fun e w'=>∃v,e = .returned v/\aI w' (fun b o=>J b o\/(w.heap.size<=b/\b<w'.heap.size)) (.str (dw [] l)) v/\Below w.heap.size w w':=by
  intro a c hl;subst hl;refine (join_none a c w).mono ?_;rintro e w' ⟨rfl,hb⟩;exact ⟨_,rfl,rfl,hb⟩
 rcases hv with ⟨⟨x,rfl,_⟩,hl⟩|⟨b,o,cap,rfl,h2,h3,h4⟩
 ·exact none x 0 (by simpa [cP] using hl)
 ·cases hl:l with
  | nil=>
   have:=none (some ⟨b,o,Option.none⟩) cap hl;simpa [hl,cP] using this
  | cons s0 r0=>
   rw [<- hl];have hc:∀(j:Nat) (s:List UInt8),l[j]? = some s->w.cell? ⟨b,o+j,Option.none⟩=some (.string ⟨s.toArray⟩):=by
    intro j s hj;obtain ⟨_,g⟩:=cS.get h4 j [.str s] (by simp [cP,hj]);obtain ⟨v,g1,_,g2⟩:=dR.get g 0 (.str s) rfl;simp only [aI] at g2;subst g2;simpa using g1
   have hbk:b<w.heap.size:=by
    have h0:=hc 0 s0 (by simp [hl]);by_cases hlt:b<w.heap.size
    ·exact hlt
    ·have hn:w.heap[b]? = Option.none:=abU (by omega)
     simp [World.cell?,hn] at h0
   have e1:(l.map fun s=>(⟨s.toArray⟩:ByteArray)).map (fun s=>s.data.toList)=l:=by
    rw [acU];exact List.map_id'' (fun s=>by simp) l
   have key:=Nx b o cap (l.map fun s=>(⟨s.toArray⟩:ByteArray)) w (by
    intro j x hj;rw [acg,aaC] at hj;obtain ⟨s,h1,rfl⟩:=hj;exact hc j s h1) hbk (by simp;omega) (by rw [aaT];omega) (by rw [e1];exact hlen)
   rw [e1] at key;simp only [aaT,hml] at key ⊢;refine key.mono ?_;rintro e w' ⟨rfl,hb⟩;exact ⟨_,rfl,rfl,hb⟩
end Uw.Tryz
namespace Uw.Tryz
open Go Uw
def pIf (n:Nat) (r:List Tok):R Stm:=(da n r.tail).bind fun e r=>(cN n r).bind fun a r=>
 if hd r=ja then (cN n r.tail).bind fun b r=>.ok (.if2 e a b) r else .ok (.if1 e a) r
theorem QK (l:List Tok) (hl:l.length<1000000) (n:Nat) (ih:∀m,m<=n->CS l m) (k:Nat) (ns:List Nod) (hk:k<=l.length) (hn:ns.length<=k) (h0:hd (l.drop k)=sIf):dj kH [.ptr 0 0] (rdN l k ns) (pR l ns (pIf n (l.drop k))):=by
 have hlt:=eP h0 (by decide);have w0:=aQ l k (ns.map cj) hk hl sIf (by decide) h0;clear h0;rw [pIf,aaI]
 rcases yp ((ce l hl n n (aax _)).expr (k+1) ns hlt (by omega)) hlt (fun e r h=>(fj n).expr _ _ _ h) with h2|⟨h2,h3⟩|⟨e,k1,h2,hk1,om,h3⟩
 ·rw [h2];exact trivial
 ·rw [h2]
  refine aO dI rfl ?_
  repeat refine aw ?_
  refine ad 2 [0,1] w0 ?_
  repeat refine aw ?_
  refine bq 2 [0,1] h3 ?_;intro H q
  repeat refine aw ?_
  exact aP rfl
 ·rw [h2]
  have hf1:(ns++e.flat ns.length).length=ns.length+e.sz:=by simp [Ex.au]
  show dj _ _ _ (pR l ns ((cN n (l.drop k1)).bind _))
  rcases TM ((ih n (aax _)).block k1 (ns++e.flat ns.length) hk1 (by omega)) hk1 (fun e r h=>(oV n).block _ _ _ h) with h4|⟨h4,h5⟩|⟨a,k2,h4,hk2,YF,h5⟩
  ·rw [h4];exact trivial
  ·rw [h4]
   refine aO dI rfl ?_
   repeat refine aw ?_
   refine ad 2 [0,1] w0 ?_
   repeat refine aw ?_
   refine ad 2 [0,1] h3 ?_
   repeat refine aw ?_
   refine bq 2 [0,1] h5 ?_;intro H q
   repeat refine aw ?_
   exact aP rfl
  ·rw [h4]
   have hf2:(ns++e.flat ns.length++a.all (ns++e.flat ns.length).length).length=ns.length+e.sz+(a.sz+1):=by simp [Ex.au,Bl.hP];omega
   have hv:=bU l k2 ((ns++e.flat ns.length++a.all (ns++e.flat ns.length).length).map cj) hk2 hl ja (by decide);show dj _ _ _ (pR l ns (if hd (l.drop k2)=ja then _ else _));by_cases h6:hd (l.drop k2)=ja
   ·have hlt2:=eP h6 (by decide)
    rw [if_pos h6,decide_eq_true h6] at hv;rw [if_pos h6,aaI];clear h6
    rcases TM ((ih n (aax _)).block (k2+1) (ns++e.flat ns.length++a.all (ns++e.flat ns.length).length) hlt2 (by omega)) hlt2 (fun e r h=>(oV n).block _ _ _ h) with h7|⟨h7,h8⟩|⟨b,k3,h7,hk3,IB,h8⟩
    ·rw [h7];exact trivial
    ·rw [h7]
     refine aO dI rfl ?_
     repeat refine aw ?_
     refine ad 2 [0,1] w0 ?_
     repeat refine aw ?_
     refine ad 2 [0,1] h3 ?_
     repeat refine aw ?_
     refine ad 2 [0,1] h5 ?_
     repeat refine aw ?_
     refine ad 3 [0,1] hv ?_
     repeat refine aw ?_
     refine bq 3 [0,1] h8 ?_;intro H q
     repeat refine aw ?_
     exact aP rfl
    ·rw [h7]
     show aE _ _ _ _ (.d (I ((ns.length+(Stm.if2 e a b).sz - 1:Nat)))) (rdN l (l.length - (l.drop k3).length) (ns++(Stm.if2 e a b).flat ns.length));rw [len_drop hk3];have hp:=Gp l k3 (ns++e.flat ns.length++a.all (ns++e.flat ns.length).length++b.all (ns++e.flat ns.length++a.all (ns++e.flat ns.length).length).length) (ns++(Stm.if2 e a b).flat ns.length) ⟨13,0,[],[],[ns.length+e.sz - 1,(ns++e.flat ns.length).length+a.sz,(ns++e.flat ns.length++a.all (ns++e.flat ns.length).length).length+b.sz]⟩ (by
      rw [hf2,hf1];simp [Stm.flat,Bl.all];try omega) (ns.length+(Stm.if2 e a b).sz - 1) (by simp [Stm.sz,Ex.au,Bl.hP];try omega) (by simp [Ex.au,Bl.hP];omega) rfl
     refine ax dI rfl ?_
     repeat refine aw ?_
     refine ad 2 [0,1] w0 ?_
     repeat refine aw ?_
     refine ad 2 [0,1] h3 ?_
     repeat refine aw ?_
     refine ad 2 [0,1] h5 ?_
     repeat refine aw ?_
     refine ad 3 [0,1] hv ?_
     repeat refine aw ?_
     refine ad 3 [0,1] h8 ?_
     repeat refine aw ?_
     refine ad 3 [0,1,2] hp ?_
     repeat refine aw ?_
     exact aF 2 rfl rfl (by exact Uw.wW)
   ·rw [if_neg h6,decide_eq_false h6] at hv
    rw [if_neg h6];clear h6;show aE _ _ _ _ (.d (I ((ns.length+(Stm.if1 e a).sz - 1:Nat)))) (rdN l (l.length - (l.drop k2).length) (ns++(Stm.if1 e a).flat ns.length));rw [len_drop hk2];have hp:=Gp l k2 (ns++e.flat ns.length++a.all (ns++e.flat ns.length).length) (ns++(Stm.if1 e a).flat ns.length) ⟨13,0,[],[],[ns.length+e.sz - 1,(ns++e.flat ns.length).length+a.sz]⟩ (by
     rw [hf1];simp [Stm.flat,Bl.all];try omega) (ns.length+(Stm.if1 e a).sz - 1) (by simp [Stm.sz,Ex.au,Bl.hP];try omega) (by simp [Ex.au,Bl.hP];omega) rfl
    refine ax dI rfl ?_
    repeat refine aw ?_
    refine ad 2 [0,1] w0 ?_
    repeat refine aw ?_
    refine ad 2 [0,1] h3 ?_
    repeat refine aw ?_
    refine ad 2 [0,1] h5 ?_
    repeat refine aw ?_
    refine ad 3 [0,1] hv ?_
    repeat refine aw ?_
    refine ad 3 [0,1,2] hp ?_
    repeat refine aw ?_
    exact aF 2 rfl rfl (by exact Uw.wW)
theorem W9 (l:List Tok) (hl:l.length<1000000) (n:Nat) (ih:∀m,m<=n->CS l m) (k:Nat) (ns:List Nod) (hk:k<=l.length) (hn:ns.length<=k):dj fM [.ptr 0 0] (rdN l k ns) (pR l ns (gU (n+1) (l.drop k))):=by
 have pk:=b9 l k (ns.map cj) hk;rw [gU];by_cases h0:hd (l.drop k)=sIf
 ·have hlt:=eP h0 (by decide)
  rw [if_pos h0];have hc:=QK l hl n ih k ns hk hn h0;have e:gU (n+1) (l.drop k)=pIf n (l.drop k):=by rw [gU,if_pos h0];rfl
  show dj _ _ _ (pR l ns (pIf n (l.drop k)));rw [h0] at pk;clear h0
  rcases Nq hc hk (fun s r h=>(oV (n+1)).stmt _ _ _ (e.trans h)) with h2|⟨h2,h3⟩|⟨s,k1,h2,hk1,om,h3⟩
  ·rw [h2];exact trivial
  ·rw [h2]
   refine aO bS rfl ?_
   repeat' first|refine aw ?_|refine bw (fun _=>?_) fun _=>?_
   refine ad 2 [0,1] pk ?_
   repeat' first|refine aw ?_|refine bw (fun _=>?_) fun _=>?_
   refine bq 2 [0,1] h3 ?_;intro H q
   repeat' first|refine aw ?_|refine bw (fun _=>?_) fun _=>?_
   exact aP rfl
  ·rw [h2]
   show aE _ _ _ _ (.d (I ((ns.length+s.sz - 1:Nat)))) (rdN l (l.length - (l.drop k1).length) _);rw [len_drop hk1];refine ax bS rfl ?_
   repeat' first|refine aw ?_|refine bw (fun _=>?_) fun _=>?_
   refine ad 2 [0,1] pk ?_
   repeat' first|refine aw ?_|refine bw (fun _=>?_) fun _=>?_
   refine ad 2 [0,1] h3 ?_
   repeat' first|refine aw ?_|refine bw (fun _=>?_) fun _=>?_
   exact aF 2 rfl rfl (by exact Uw.wW)
 ·rw [if_neg h0]
  by_cases h1:hd (l.drop k)=fX
  ·have hlt:=eP h1 (by decide)
   have w0:=aQ l k (ns.map cj) hk hl fX (by decide) h1;rw [if_pos h1,aaI];rw [h1] at pk;clear h0 h1
   rcases yp ((ce l hl n n (aax _)).expr (k+1) ns hlt (by omega)) hlt (fun e r h=>(fj n).expr _ _ _ h) with h2|⟨h2,h3⟩|⟨e,k1,h2,hk1,om,h3⟩
   ·rw [h2];exact trivial
   ·rw [h2]
    refine aO bS rfl ?_
    repeat' first|refine aw ?_|refine bw (fun _=>?_) fun _=>?_
    refine ad 2 [0,1] pk ?_
    repeat' first|refine aw ?_|refine bw (fun _=>?_) fun _=>?_
    refine ad 2 [0,1] w0 ?_
    repeat' first|refine aw ?_|refine bw (fun _=>?_) fun _=>?_
    refine bq 2 [0,1] h3 ?_;intro H q
    repeat' first|refine aw ?_|refine bw (fun _=>?_) fun _=>?_
    exact aP rfl
   ·rw [h2]
    have hf1:(ns++e.flat ns.length).length=ns.length+e.sz:=by simp [Ex.au]
    show dj _ _ _ (pR l ns ((cN n (l.drop k1)).bind _))
    rcases TM ((ih n (aax _)).block k1 (ns++e.flat ns.length) hk1 (by omega)) hk1 (fun e r h=>(oV n).block _ _ _ h) with h4|⟨h4,h5⟩|⟨a,k2,h4,hk2,YF,h5⟩
    ·rw [h4];exact trivial
    ·rw [h4]
     refine aO bS rfl ?_
     repeat' first|refine aw ?_|refine bw (fun _=>?_) fun _=>?_
     refine ad 2 [0,1] pk ?_
     repeat' first|refine aw ?_|refine bw (fun _=>?_) fun _=>?_
     refine ad 2 [0,1] w0 ?_
     repeat' first|refine aw ?_|refine bw (fun _=>?_) fun _=>?_
     refine ad 2 [0,1] h3 ?_
     repeat' first|refine aw ?_|refine bw (fun _=>?_) fun _=>?_
     refine bq 2 [0,1] h5 ?_;intro H q
     repeat' first|refine aw ?_|refine bw (fun _=>?_) fun _=>?_
     exact aP rfl
    ·rw [h4]
     show aE _ _ _ _ (.d (I ((ns.length+(Stm.loop e a).sz - 1:Nat)))) (rdN l (l.length - (l.drop k2).length) (ns++(Stm.loop e a).flat ns.length));rw [len_drop hk2];have hp:=rn l k2 (ns++e.flat ns.length++a.all (ns++e.flat ns.length).length) (ns++(Stm.loop e a).flat ns.length) ⟨14,0,[],[],[ns.length+e.sz - 1,(ns++e.flat ns.length).length+a.sz]⟩ (by
      rw [hf1];simp [Stm.flat,Bl.all];try omega) (ns.length+(Stm.loop e a).sz - 1) (by simp [Stm.sz,Ex.au,Bl.hP];try omega) (by simp [Ex.au,Bl.hP];omega)
     have hp:aE P0 bM [.ptr 0 0,.agg [.d (I 14),.d (I 0),.d (.str []),.d (.str []),.d (.slice 1 [[I ((ns.length+e.sz - 1:Nat))],[I (((ns++e.flat ns.length).length+a.sz:Nat))]] true)]] (rdN l k2 (ns++e.flat ns.length++a.all (ns++e.flat ns.length).length)) (.d (I ((ns.length+(Stm.loop e a).sz - 1:Nat)))) (rdN l k2 (ns++(Stm.loop e a).flat ns.length)):=hp;refine ax bS rfl ?_
     repeat' first|refine aw ?_|refine bw (fun _=>?_) fun _=>?_
     refine ad 2 [0,1] pk ?_
     repeat' first|refine aw ?_|refine bw (fun _=>?_) fun _=>?_
     refine ad 2 [0,1] w0 ?_
     repeat' first|refine aw ?_|refine bw (fun _=>?_) fun _=>?_
     refine ad 2 [0,1] h3 ?_
     repeat' first|refine aw ?_|refine bw (fun _=>?_) fun _=>?_
     refine ad 2 [0,1] h5 ?_
     repeat' first|refine aw ?_|refine bw (fun _=>?_) fun _=>?_
     refine ad 2 [0,1] hp ?_
     repeat' first|refine aw ?_|refine bw (fun _=>?_) fun _=>?_
     exact aF 2 rfl rfl (by exact Uw.wW)
  ·rw [if_neg h1]
   generalize hd (l.drop k)=p at *;unfold sIf at h0;unfold fX at h1
   rcases Nq (Qy l hl n k ns hk hn) hk (fun s r h=>Az h) with h2|⟨h2,h3⟩|⟨s,k1,h2,hk1,om,h3⟩
   ·rw [h2];exact trivial
   ·rw [h2]
    refine aO bS rfl ?_
    repeat' first|refine aw ?_|refine bw (fun _=>?_) fun _=>?_
    refine ad 2 [0,1] pk ?_
    repeat' first|refine aw ?_|refine bw (fun _=>?_) fun _=>?_
    refine bq 2 [0,1] h3 ?_;intro H q
    repeat' first|refine aw ?_|refine bw (fun _=>?_) fun _=>?_
    exact aP rfl
   ·rw [h2]
    show dj _ _ _ (pR l ns ((want [59] (l.drop k1)).bind _));by_cases h4:hd (l.drop k1)=[59]
    ·have hlt1:=eP h4 (by simp)
     have w1:=aQ l k1 ((ns++s.flat ns.length).map cj) hk1 hl [59] (by simp) h4;rw [want,if_pos h4,aaI];show aE _ _ _ _ (.d (I ((ns.length+s.sz - 1:Nat)))) (rdN l (l.length - (l.drop (k1+1)).length) _);rw [len_drop hlt1];clear h4;refine ax bS rfl ?_
     repeat' first|refine aw ?_|refine bw (fun _=>?_) fun _=>?_
     refine ad 2 [0,1] pk ?_
     repeat' first|refine aw ?_|refine bw (fun _=>?_) fun _=>?_
     refine ad 2 [0,1] h3 ?_
     repeat' first|refine aw ?_|refine bw (fun _=>?_) fun _=>?_
     refine ad 2 [0,1] w1 ?_
     repeat' first|refine aw ?_|refine bw (fun _=>?_) fun _=>?_
     exact aF 2 rfl rfl (by exact Uw.wW)
    ·have w1:=bj l k1 ((ns++s.flat ns.length).map cj) hk1 hl [59] (by simp) h4
     rw [want,if_neg h4];clear h4;refine aO bS rfl ?_
     repeat' first|refine aw ?_|refine bw (fun _=>?_) fun _=>?_
     refine ad 2 [0,1] pk ?_
     repeat' first|refine aw ?_|refine bw (fun _=>?_) fun _=>?_
     refine ad 2 [0,1] h3 ?_
     repeat' first|refine aw ?_|refine bw (fun _=>?_) fun _=>?_
     refine bq 2 [0,1] w1 ?_;intro H q
     repeat' first|refine aw ?_|refine bw (fun _=>?_) fun _=>?_
     exact aP rfl
theorem cs (l:List Tok) (hl:l.length<1000000):∀n,∀m,m<=n->CS l m
 | 0,m,hm=>by
  obtain rfl:m=0:=by omega
  refine ⟨?_,?_⟩
  ·intro k ns _ _;rw [gU];exact trivial
  ·intro k ns _ _;rw [cN];exact trivial
 | n+1,m,hm=>by
  have ih:=cs l hl n;by_cases h:m<=n
  ·exact ih m h
  ·obtain rfl:m=n+1:=by omega
   exact ⟨fun k ns=>W9 l hl n ih k ns,fun k ns=>TN l hl n ih k ns⟩
end Uw.Tryz
namespace Uw.Tryz
open Go Uw
def IE (d:Dec):V:=.agg [.d (I d.kind),.d (.str d.name),.d (I d.n)]
def uE (l:List Tok) (ns:List Nod) (x:R Dec):Out:=
 match x with
 | .ok d r=>.ok (IE d) (rdN l (l.length - r.length) ns)
 | .bad=>.bad
 | .out=>.out
theorem BD (l:List Tok) (k:Nat) (xs:List (List Dat)) (hk:k<=l.length) (hl:l.length<1000000) (K:Int) :
  (eH K (l.drop k) = .bad/\lz P0 eN [.ptr 0 0,.d (I K)] (rd l k xs) di)\/∃t,eH K (l.drop k) = .ok t (l.drop (k+1))/\k<l.length/\aE P0 eN [.ptr 0 0,.d (I K)] (rd l k xs) (.agg ((sE t).map V.d)) (rd l (k+1) xs):=by
 by_cases h:k<l.length
 ·have hd:l.drop k=l[k]::l.drop (k+1):=aaW h
  by_cases h1:l[k].kind=K
  ·exact .inr ⟨l[k],by rw [hd,eH,if_pos h1],h,fR l k xs hk hl K h h1⟩
  ·exact .inl ⟨by rw [hd,eH,if_neg h1],jk l k xs hk hl K (fun _=>h1)⟩
 ·exact .inl ⟨by rw [abh (by omega),eH],jk l k xs hk hl K (fun h'=>absurd h' h)⟩
def kZ (k:Int) (s:Str) (r:List Tok):R Dec:=(if k=0/\hd r=[61] then (eH 2 r.tail).bind fun t r=>R.ok t.n r else .ok 0 r).bind fun v r=>(want [59] r).bind fun _ r=>.ok ⟨k,s,v⟩ r
theorem Xk (l:List Tok) (hl:l.length<1000000) (k:Nat) (ns:List Nod) (hk:k<=l.length):dj mr [.ptr 0 0] (rdN l k ns) (uE l ns (mg (l.drop k))):=by
 rw [mg]
 rcases BD l k (ns.map cj) hk hl 1 with ⟨h1,h2⟩|⟨t,h1,hlt,h2⟩
 ·rw [h1]
  refine aO aR rfl ?_
  repeat refine aw ?_
  refine bq 4 [0,1] h2 ?_;intro H q
  repeat refine aw ?_
  exact aP rfl
 ·rw [h1]
  obtain ⟨kind,text,num,place⟩:=t;show dj _ _ _ (uE l ns (match kindOf text with|none=>R.bad|some K=>(dD (l.drop (k+1))).bind fun s r=>kZ K s r));rw [kindOf];by_cases c0:text=kC
  ·subst c0
   show dj _ _ _ (uE l ns ((dD (l.drop (k+1))).bind fun s r=>kZ 0 s r))
   rcases eF l (k+1) (ns.map cj) hlt hl with ⟨h3,h4⟩|⟨s,h3,hlt2,h4⟩
   ·rw [h3]
    refine aO aR rfl ?_
    repeat refine aw ?_
    refine ad 4 [0,1] h2 ?_
    repeat refine aw ?_
    refine bq 4 [0,1] h4 ?_;intro H q
    repeat refine aw ?_
    exact aP rfl
   ·rw [h3]
    show dj _ _ _ (uE l ns (kZ 0 s (l.drop (k+1+1))));rw [kZ];have hv:=bU l (k+1+1) (ns.map cj) hlt2 hl [61] (by simp);by_cases h5:hd (l.drop (k+1+1))=[61]
    ·have hlt3:=eP h5 (by simp)
     rw [if_pos h5,decide_eq_true h5] at hv;rw [if_pos ⟨rfl,h5⟩,aaI];clear h5
     rcases BD l (k+1+1+1) (ns.map cj) hlt3 hl 2 with ⟨h6,h7⟩|⟨t,h6,hlt4,h7⟩
     ·rw [h6]
      refine aO aR rfl ?_
      repeat refine aw ?_
      refine ad 4 [0,1] h2 ?_
      repeat refine aw ?_
      refine ad 4 [0,1] h4 ?_
      repeat refine aw ?_
      refine ad 4 [0,1] hv ?_
      repeat refine aw ?_
      refine bq 4 [0,1] h7 ?_;intro H q
      repeat refine aw ?_
      exact aP rfl
     ·rw [h6]
      obtain ⟨k2,x2,n2,p2⟩:=t;show dj _ _ _ (uE l ns ((want [59] (l.drop (k+1+1+1+1))).bind fun _ r=>R.ok ⟨0,s,n2⟩ r));by_cases hs:hd (l.drop (k+1+1+1+1))=[59]
      ·have TU:=eP hs (by simp)
       have w9:=aQ l (k+1+1+1+1) (ns.map cj) (by omega) hl [59] (by simp) hs;rw [want,if_pos hs,aaI];show aE _ _ _ _ (IE ⟨0,s,n2⟩) (rdN l (l.length - (l.drop (k+1+1+1+1+1)).length) ns);rw [len_drop (by omega)];clear hs;refine ax aR rfl ?_
       repeat refine aw ?_
       refine ad 4 [0,1] h2 ?_
       repeat refine aw ?_
       refine ad 4 [0,1] h4 ?_
       repeat refine aw ?_
       refine ad 4 [0,1] hv ?_
       repeat refine aw ?_
       refine ad 4 [0,1] h7 ?_
       repeat refine aw ?_
       refine ad 4 [0,1] w9 ?_
       repeat refine aw ?_
       exact aF 2 rfl rfl (by exact Uw.wW)
      ·have w9:=bj l (k+1+1+1+1) (ns.map cj) (by omega) hl [59] (by simp) hs
       rw [want,if_neg hs];clear hs;refine aO aR rfl ?_
       repeat refine aw ?_
       refine ad 4 [0,1] h2 ?_
       repeat refine aw ?_
       refine ad 4 [0,1] h4 ?_
       repeat refine aw ?_
       refine ad 4 [0,1] hv ?_
       repeat refine aw ?_
       refine ad 4 [0,1] h7 ?_
       repeat refine aw ?_
       refine bq 4 [0,1] w9 ?_;intro H q
       repeat refine aw ?_
       exact aP rfl
    ·rw [if_neg h5,decide_eq_false h5] at hv
     rw [if_neg (fun h=>h5 h.2)];clear h5;show dj _ _ _ (uE l ns ((want [59] (l.drop (k+1+1))).bind fun _ r=>R.ok ⟨0,s,0⟩ r));by_cases hs:hd (l.drop (k+1+1))=[59]
     ·have TU:=eP hs (by simp)
      have w9:=aQ l (k+1+1) (ns.map cj) (by omega) hl [59] (by simp) hs;rw [want,if_pos hs,aaI];show aE _ _ _ _ (IE ⟨0,s,0⟩) (rdN l (l.length - (l.drop (k+1+1+1)).length) ns);rw [len_drop (by omega)];clear hs;refine ax aR rfl ?_
      repeat refine aw ?_
      refine ad 4 [0,1] h2 ?_
      repeat refine aw ?_
      refine ad 4 [0,1] h4 ?_
      repeat refine aw ?_
      refine ad 4 [0,1] hv ?_
      repeat refine aw ?_
      refine ad 4 [0,1] w9 ?_
      repeat refine aw ?_
      exact aF 2 rfl rfl (by exact Uw.wW)
     ·have w9:=bj l (k+1+1) (ns.map cj) (by omega) hl [59] (by simp) hs
      rw [want,if_neg hs];clear hs;refine aO aR rfl ?_
      repeat refine aw ?_
      refine ad 4 [0,1] h2 ?_
      repeat refine aw ?_
      refine ad 4 [0,1] h4 ?_
      repeat refine aw ?_
      refine ad 4 [0,1] hv ?_
      repeat refine aw ?_
      refine bq 4 [0,1] w9 ?_;intro H q
      repeat refine aw ?_
      exact aP rfl
  ·by_cases c1:text=JE
   ·subst c1
    show dj _ _ _ (uE l ns ((dD (l.drop (k+1))).bind fun s r=>kZ 1 s r));clear c0
    rcases eF l (k+1) (ns.map cj) hlt hl with ⟨h3,h4⟩|⟨s,h3,hlt2,h4⟩
    ·rw [h3]
     refine aO aR rfl ?_
     repeat refine aw ?_
     refine ad 4 [0,1] h2 ?_
     repeat refine aw ?_
     refine bq 4 [0,1] h4 ?_;intro H q
     repeat refine aw ?_
     exact aP rfl
    ·rw [h3]
     show dj _ _ _ (uE l ns (kZ 1 s (l.drop (k+1+1))));rw [kZ];rw [if_neg (fun h=>by have:=h.1;omega)];show dj _ _ _ (uE l ns ((want [59] (l.drop (k+1+1))).bind fun _ r=>R.ok ⟨1,s,0⟩ r));by_cases hs:hd (l.drop (k+1+1))=[59]
     ·have TU:=eP hs (by simp)
      have w9:=aQ l (k+1+1) (ns.map cj) (by omega) hl [59] (by simp) hs;rw [want,if_pos hs,aaI];show aE _ _ _ _ (IE ⟨1,s,0⟩) (rdN l (l.length - (l.drop (k+1+1+1)).length) ns);rw [len_drop (by omega)];clear hs;refine ax aR rfl ?_
      repeat refine aw ?_
      refine ad 4 [0,1] h2 ?_
      repeat refine aw ?_
      refine ad 4 [0,1] h4 ?_
      repeat refine aw ?_
      refine ad 4 [0,1] w9 ?_
      repeat refine aw ?_
      exact aF 2 rfl rfl (by exact Uw.wW)
     ·have w9:=bj l (k+1+1) (ns.map cj) (by omega) hl [59] (by simp) hs
      rw [want,if_neg hs];clear hs;refine aO aR rfl ?_
      repeat refine aw ?_
      refine ad 4 [0,1] h2 ?_
      repeat refine aw ?_
      refine ad 4 [0,1] h4 ?_
      repeat refine aw ?_
      refine bq 4 [0,1] w9 ?_;intro H q
      repeat refine aw ?_
      exact aP rfl
   ·by_cases c2:text=vm
    ·subst c2
     show dj _ _ _ (uE l ns ((dD (l.drop (k+1))).bind fun s r=>kZ 2 s r));clear c0 c1
     rcases eF l (k+1) (ns.map cj) hlt hl with ⟨h3,h4⟩|⟨s,h3,hlt2,h4⟩
     ·rw [h3]
      refine aO aR rfl ?_
      repeat refine aw ?_
      refine ad 4 [0,1] h2 ?_
      repeat refine aw ?_
      refine bq 4 [0,1] h4 ?_;intro H q
      repeat refine aw ?_
      exact aP rfl
     ·rw [h3]
      show dj _ _ _ (uE l ns (kZ 2 s (l.drop (k+1+1))));rw [kZ];rw [if_neg (fun h=>by have:=h.1;omega)];show dj _ _ _ (uE l ns ((want [59] (l.drop (k+1+1))).bind fun _ r=>R.ok ⟨2,s,0⟩ r));by_cases hs:hd (l.drop (k+1+1))=[59]
      ·have TU:=eP hs (by simp)
       have w9:=aQ l (k+1+1) (ns.map cj) (by omega) hl [59] (by simp) hs;rw [want,if_pos hs,aaI];show aE _ _ _ _ (IE ⟨2,s,0⟩) (rdN l (l.length - (l.drop (k+1+1+1)).length) ns);rw [len_drop (by omega)];clear hs;refine ax aR rfl ?_
       repeat refine aw ?_
       refine ad 4 [0,1] h2 ?_
       repeat refine aw ?_
       refine ad 4 [0,1] h4 ?_
       repeat refine aw ?_
       refine ad 4 [0,1] w9 ?_
       repeat refine aw ?_
       exact aF 2 rfl rfl (by exact Uw.wW)
      ·have w9:=bj l (k+1+1) (ns.map cj) (by omega) hl [59] (by simp) hs
       rw [want,if_neg hs];clear hs;refine aO aR rfl ?_
       repeat refine aw ?_
       refine ad 4 [0,1] h2 ?_
       repeat refine aw ?_
       refine ad 4 [0,1] h4 ?_
       repeat refine aw ?_
       refine bq 4 [0,1] w9 ?_;intro H q
       repeat refine aw ?_
       exact aP rfl
    ·by_cases c3:text=Ax
     ·subst c3
      show dj _ _ _ (uE l ns ((dD (l.drop (k+1))).bind fun s r=>kZ 3 s r));clear c0 c1 c2
      rcases eF l (k+1) (ns.map cj) hlt hl with ⟨h3,h4⟩|⟨s,h3,hlt2,h4⟩
      ·rw [h3]
       refine aO aR rfl ?_
       repeat refine aw ?_
       refine ad 4 [0,1] h2 ?_
       repeat refine aw ?_
       refine bq 4 [0,1] h4 ?_;intro H q
       repeat refine aw ?_
       exact aP rfl
      ·rw [h3]
       show dj _ _ _ (uE l ns (kZ 3 s (l.drop (k+1+1))));rw [kZ];rw [if_neg (fun h=>by have:=h.1;omega)];show dj _ _ _ (uE l ns ((want [59] (l.drop (k+1+1))).bind fun _ r=>R.ok ⟨3,s,0⟩ r));by_cases hs:hd (l.drop (k+1+1))=[59]
       ·have TU:=eP hs (by simp)
        have w9:=aQ l (k+1+1) (ns.map cj) (by omega) hl [59] (by simp) hs;rw [want,if_pos hs,aaI];show aE _ _ _ _ (IE ⟨3,s,0⟩) (rdN l (l.length - (l.drop (k+1+1+1)).length) ns);rw [len_drop (by omega)];clear hs;refine ax aR rfl ?_
        repeat refine aw ?_
        refine ad 4 [0,1] h2 ?_
        repeat refine aw ?_
        refine ad 4 [0,1] h4 ?_
        repeat refine aw ?_
        refine ad 4 [0,1] w9 ?_
        repeat refine aw ?_
        exact aF 2 rfl rfl (by exact Uw.wW)
       ·have w9:=bj l (k+1+1) (ns.map cj) (by omega) hl [59] (by simp) hs
        rw [want,if_neg hs];clear hs;refine aO aR rfl ?_
        repeat refine aw ?_
        refine ad 4 [0,1] h2 ?_
        repeat refine aw ?_
        refine ad 4 [0,1] h4 ?_
        repeat refine aw ?_
        refine bq 4 [0,1] w9 ?_;intro H q
        repeat refine aw ?_
        exact aP rfl
     ·rw [if_neg c0,if_neg c1,if_neg c2,if_neg c3]
      unfold kC at c0;unfold JE at c1;unfold vm at c2;unfold Ax at c3;refine aO aR rfl ?_
      repeat refine aw ?_
      refine ad 4 [0,1] h2 ?_
      repeat refine aw ?_
      exact aP rfl
end Uw.Tryz
namespace Uw.Tryz
open Go Uw
def lQ (ys:List Str):List (List Dat):=ys.map fun s=>[.str s]
theorem Gs (l:List Tok) (k k' : Nat) (ns:List Nod) (f p:Str) (h:aE P0 cy [.ptr 0 0] (rdN l k ns) (.d (.str p)) (rdN l k' ns)) :
  aE P0 cb [.ptr 3 0,.ptr 2 0] (rdN l k ns++[.var [.ptr 0 0],.var [.d (.str f),.d .nil,.d (I 0)]]) (.tuple []) (rdN l k' ns++[.var [.ptr 0 0],.var [.d (.str f),.ref 4 0 0 (lQ [p]).length,.d (I 0)],.arr 1 (lQ [p])]):=by
 refine ax dH rfl ?_;refine cm ⟨[],bz 0 (rdN l k' ns++[.var [.ptr 0 0],.var [.d (.str f),.ref 4 0 0 (lQ [p]).length,.d (I 0)],.arr 1 (lQ [p])]),5,[],4⟩ ?_ ?_
 ·repeat refine aw ?_
  refine ad 4 [0,1] h ?_
  repeat refine aw ?_
  exact aS (.inl ⟨rfl,by exact Uw.wW⟩)
 ·repeat refine aw ?_
  exact bG 4 rfl rfl (by exact Uw.wW)
theorem IF (l:List Tok) (k k' : Nat) (ns:List Nod) (f p:Str) (ys:List Str) (hy:ys.length<1000000) (h:aE P0 cy [.ptr 0 0] (rdN l k ns) (.d (.str p)) (rdN l k' ns)) :
  aE P0 cb [.ptr 3 0,.ptr 2 0] (rdN l k ns++[.var [.ptr 0 0],.var [.d (.str f),.ref 4 0 0 (lQ ys).length,.d (I 0)],.arr 1 (lQ ys)]) (.tuple []) (rdN l k' ns++[.var [.ptr 0 0],.var [.d (.str f),.ref 4 0 0 (lQ (ys++[p])).length,.d (I 0)],.arr 1 (lQ (ys++[p]))]):=by
 have e:lQ (ys++[p])=lQ ys++[[.str p]]:=by simp [lQ]
 have hy' : (lQ ys).length<1000000:=by simpa [lQ] using hy
 rw [e];generalize lQ ys=zs at *;refine ax dH rfl ?_;refine cm ⟨[],bz 0 (rdN l k' ns++[.var [.ptr 0 0],.var [.d (.str f),.ref 4 0 0 (zs++[[Dat.str p]]).length,.d (I 0)],.arr 1 (zs++[[.str p]])]),5,[],5⟩ ?_ ?_
 ·repeat refine aw ?_
  refine ad 5 [0,1] h ?_
  repeat refine aw ?_
  exact aS (.inl ⟨rfl,by exact Uw.wW⟩)
 ·repeat refine aw ?_
  exact bG 5 rfl rfl (by exact Uw.wW)
theorem Gt (l:List Tok) (k:Nat) (ns:List Nod) (f:Str) (h:lz P0 cy [.ptr 0 0] (rdN l k ns) di) :
  lz P0 cb [.ptr 3 0,.ptr 2 0] (rdN l k ns++[.var [.ptr 0 0],.var [.d (.str f),.d .nil,.d (I 0)]]) di:=by
 refine aO dH rfl ?_;refine qg ?_
 repeat refine aw ?_
 refine bq 4 [0,1] h ?_;intro H n
 repeat refine aw ?_
 exact aS ⟨di,rfl,aP rfl⟩
theorem IG (l:List Tok) (k:Nat) (ns:List Nod) (f:Str) (ys:List Str) (h:lz P0 cy [.ptr 0 0] (rdN l k ns) di) :
  lz P0 cb [.ptr 3 0,.ptr 2 0] (rdN l k ns++[.var [.ptr 0 0],.var [.d (.str f),.ref 4 0 0 (lQ ys).length,.d (I 0)],.arr 1 (lQ ys)]) di:=by
 generalize lQ ys=zs at *;refine aO dH rfl ?_;refine qg ?_
 repeat refine aw ?_
 refine bq 5 [0,1] h ?_;intro H n
 repeat refine aw ?_
 exact aS ⟨di,rfl,aP rfl⟩
end Uw.Tryz
namespace Uw.Tryz
open Go Uw
def kl (ys:List Str):Dat:=if ys=[] then .nil else .slice 1 (lQ ys) false
def QL (l:List Tok) (ns:List Nod) (x:R Fn):Out:=
 match x with
 | .ok f r=>.ok (.agg [.d (.str f.name),.d (kl f.args),.d (I ((ns.length+f.body.sz:Nat)))]) (rdN l (l.length - r.length) (ns++f.body.all ns.length))
 | .bad=>.bad
 | .out=>.out
theorem BE:∀(n:Nat) (r:List Tok) (x:List Str) (r' : List Tok),cq n r = .ok x r'->Suf r r' (x.length+1)
 | 0,_,_,_,h=>by rw [cq] at h;cases h
 | n+1,r,x,r',h=>by
  rw [cq] at h
  split at h
  ·rename_i hh
   obtain ⟨s,r2,h2,h⟩:=bind_ok.1 h;obtain ⟨ss,r3,h3,h⟩:=bind_ok.1 h;injection h with h4 h5
   subst h4 h5;exact ((Suf.hd hh (by simp)).trans ((Suf.name h2).trans (BE n _ _ _ h3))).le (by simp;omega)
  ·obtain ⟨_,r1,h1,h⟩:=bind_ok.1 h
   injection h with h4 h5
   subst h4 h5;exact (Suf.want (by simp) h1).le (by simp)
end Uw.Tryz
namespace Uw.Tryz
open Go Uw
theorem TV (b:Nat) {res:List gY} {x:Out} {v:V} {bs' : List Blk} {vs' : List V} {st:St} (hx:x = .ok v bs') (hd:st.defers=[]) (hr:resV st res=some vs') (hw:Weak ⟨[(0,i7 vs')],st.heap,st.next,[],b⟩ ⟨[(0,v)],bz 0 bs',bs'.length,[],b⟩):WT P0 (OQ b res x) (.done .normal st):=by
 subst hx;exact bG b hd hr hw
def fnB (f:Str) (v:V):List Blk:=[.var [.ptr 0 0],.var [.d (.str f),v,.d (I 0)]]
def IH (l:List Tok) (ns:List Nod) (f:Str) (x:R (List Str)):Out:=
 match x with
 | .ok ar r=>.ok (.tuple []) (rdN l (l.length - r.length) ns++fnB f (.d (kl ar)))
 | .bad=>.bad
 | .out=>.out
theorem TW {l:List Tok} {ns:List Nod} {f:Str} {x:R (List Str)} (h:x≠R.out):IH l ns f x≠Out.out:=by
 cases x with
 | out=>exact absurd rfl h
 | bad=>intro h;cases h
 | ok e r=>intro h;cases h
theorem TY (l:List Tok) (hl:l.length<1000000) (n:Nat) (k:Nat) (ns:List Nod) (f:Str) (hk:k<=l.length) (hn:ns.length<=k):dj nT [.ptr 0 0,.func cb [] [.ptr 3 0,.ptr 2 0]] (rdN l k ns++fnB f (.d .nil)) (IH l ns f (je n (l.drop k))):=by
 rw [je];by_cases h3:hd (l.drop k)=[40]
 rotate_left
 ·have w1:=bj l k (ns.map cj) hk hl [40] (by simp) h3
  rw [want,if_neg h3];clear h3;refine aO cK rfl ?_
  repeat' first|refine aw ?_|refine bw (fun _=>?_) fun _=>?_
  refine bq 4 [0,1] w1 ?_;intro H q
  repeat' first|refine aw ?_|refine bw (fun _=>?_) fun _=>?_
  exact aP rfl
 have hlt2:=eP h3 (by simp);have w1:=aQ l k (ns.map cj) hk hl [40] (by simp) h3;have hv:=bU l (k+1) (ns.map cj) hlt2 hl [41] (by simp);rw [want,if_pos h3,aaI];clear h3;show dj _ _ _ (IH l ns f (if hd (l.drop (k+1))=[41] then R.ok [] (l.drop (k+1)).tail else _));by_cases h4:hd (l.drop (k+1))=[41]
 ·have hlt3:=eP h4 (by simp)
  rw [if_pos h4,aaI];rw [if_pos h4,decide_eq_true h4] at hv;clear h4;show aE _ _ _ _ (.tuple []) (rdN l (l.length - (l.drop (k+1+1)).length) ns++fnB f (.d .nil));rw [len_drop (by omega)];refine ax cK rfl ?_
  repeat' first|refine aw ?_|refine bw (fun _=>?_) fun _=>?_
  refine ad 4 [0,1] w1 ?_
  repeat' first|refine aw ?_|refine bw (fun _=>?_) fun _=>?_
  refine ad 4 [0,1] hv ?_
  repeat' first|refine aw ?_|refine bw (fun _=>?_) fun _=>?_
  exact aF 4 rfl rfl (by exact Uw.wW)
 rw [if_neg h4];rw [if_neg h4,decide_eq_false h4] at hv
 rcases eF l (k+1) (ns.map cj) hlt2 hl with ⟨h5,h6⟩|⟨p,h5,hlt3,h6⟩
 ·rw [h5]
  have a1:=Gt l (k+1) ns f h6;clear h4;refine aO cK rfl ?_
  repeat' first|refine aw ?_|refine bw (fun _=>?_) fun _=>?_
  refine ad 4 [0,1] w1 ?_
  repeat' first|refine aw ?_|refine bw (fun _=>?_) fun _=>?_
  refine ad 4 [0,1] hv ?_
  repeat' first|refine aw ?_|refine bw (fun _=>?_) fun _=>?_
  refine bq 4 [0,1,2,3] a1 ?_;intro H q
  repeat' first|refine aw ?_|refine bw (fun _=>?_) fun _=>?_
  exact aP rfl
 rw [h5];have a1:=Gs l (k+1) _ ns f p h6;show dj _ _ _ (IH l ns f ((cq n (l.drop (k+1+1))).bind fun es r=>R.ok ([p]++es) r));generalize hR:((cq n (l.drop (k+1+1))).bind fun es r=>R.ok ([p]++es) r)=Rr;by_cases hout:Rr = .out
 ·rw [hout];exact trivial
 clear h4 h5;refine tU cK rfl (TW hout) ?_
 repeat' first|refine aw ?_|refine bw (fun _=>?_) fun _=>?_
 refine ad 4 [0,1] w1 ?_
 repeat' first|refine aw ?_|refine bw (fun _=>?_) fun _=>?_
 refine ad 4 [0,1] hv ?_
 repeat' first|refine aw ?_|refine bw (fun _=>?_) fun _=>?_
 refine ad 4 [0,1,2,3] a1 ?_
 repeat' first|refine aw ?_|refine bw (fun _=>?_) fun _=>?_
 refine du (fun ((d,k1,m):List Str×Nat×Nat)=>⟨[(0,.ptr 0 0),(1,V.func cb [] [V.ptr 3 0,V.ptr 2 0])],bz 0 (rdN l k1 ns++[.var [.ptr 0 0],.var [.d (.str f),.ref 4 0 0 (lQ d).length,.d (I 0)],.arr 1 (lQ d)]),5,[],4⟩)
  (fun (d,k1,m)=>((cq m (l.drop k1)).bind fun es r=>R.ok (d++es) r)=Rr/\m<=n/\k1<=l.length/\k<=k1/\d.length<=k1/\d≠[]) (fun (_,_,m)=>m) ([p],k+1+1,n) (by exact Uw.wW) ⟨hR,aax _,hlt3,by omega,by simp,by simp⟩ ?_
 clear hR h6 a1 w1 hv;rintro ⟨d,k1,m⟩ ⟨hR,hm,hk1,hk2,hd1,hd0⟩
 cases m with
 | zero=>rw [cq] at hR;exact absurd hR.symm hout
 | succ m=>
  rw [cq] at hR;have hv:=bU l k1 (ns.map cj) hk1 hl [44] (by simp);by_cases hs:hd (l.drop k1)=[44]
  ·have hlt:=eP hs (by simp)
   rw [if_pos hs,aaI] at hR;rw [if_pos hs,decide_eq_true hs] at hv
   rcases eF l (k1+1) (ns.map cj) (by omega) hl with ⟨h0,h1⟩|⟨y,h0,hlt4,h1⟩
   ·rw [h0] at hR
    have hb:IH l ns f Rr = .bad:=by rw [<- hR];rfl
    have a1:=IG l (k1+1) ns f d h1;clear hR hout hs h0 h1 hd0
    repeat' first|refine aw ?_|refine bw (fun _=>?_) fun _=>?_
    refine ad 5 [0,1] hv ?_
    repeat' first|refine aw ?_|refine bw (fun _=>?_) fun _=>?_
    refine bq 5 [0,1,2,3,4] a1 ?_;intro h q
    repeat' first|refine aw ?_|refine bw (fun _=>?_) fun _=>?_
    exact nI (m6 4 hb rfl)
   ·rw [h0] at hR
    have hR:((cq m (l.drop (k1+1+1))).bind fun es r=>R.ok ((d++[y])++es) r)=Rr:=by
     rw [<- hR];show _=R.bind (R.bind (cq m (l.drop (k1+1+1))) _) _
     cases cq m (l.drop (k1+1+1)) with
     | ok es r=>show R.ok (d++[y]++es) r=R.ok (d++(y::es)) r;rw [aaD];rfl
     | bad=>rfl
     | out=>rfl
    have a1:=IF l (k1+1) _ ns f y d (by omega) h1;have hd2:(d++[y])≠[]:=by simp
    clear hout hs h0 h1 hd0
    repeat' first|refine aw ?_|refine bw (fun _=>?_) fun _=>?_
    refine ad 5 [0,1] hv ?_
    repeat' first|refine aw ?_|refine bw (fun _=>?_) fun _=>?_
    refine ad 5 [0,1,2,3,4] a1 ?_
    repeat' first|refine aw ?_|refine bw (fun _=>?_) fun _=>?_
    exact cn (d++[y],k1+1+1,m) ⟨hR,by omega,hlt4,by omega,by simp;omega,hd2⟩ (by simp only;omega) (by exact Uw.wW)
  ·rw [if_neg hs] at hR
   rw [if_neg hs,decide_eq_false hs] at hv;by_cases hw:hd (l.drop k1)=[41]
   ·have hlt:=eP hw (by simp)
    have w1:=aQ l k1 (ns.map cj) hk1 hl [41] (by simp) hw;rw [want,if_pos hw,aaI] at hR;have hR:R.ok (d++[]) (l.drop (k1+1))=Rr:=hR;rw [aa6] at hR;have hfz:((lQ d).drop 0).take (lQ d).length=lQ d:=by simp
    have hb:IH l ns f Rr = .ok (.tuple []) (rdN l (k1+1) ns++fnB f (.d (.slice 1 (lQ d) false))):=by
     rw [<- hR];show Out.ok _ (rdN l (l.length - (l.drop (k1+1)).length) _++fnB f (.d (kl d)))=_;rw [len_drop (by omega)];unfold kl;rw [if_neg hd0]
    clear hR hout hs hw hd0
    repeat' first|refine aw ?_|refine bw (fun _=>?_) fun _=>?_
    refine ad 5 [0,1] hv ?_
    repeat' first|refine aw ?_|refine bw (fun _=>?_) fun _=>?_
    refine aJ ?_;refine ad 5 [0,1] w1 ?_
    repeat' first|refine aw ?_|refine bw (fun _=>?_) fun _=>?_
    exact TV 4 hb rfl rfl (by exact Uw.wW)
   ·have w1:=bj l k1 (ns.map cj) hk1 hl [41] (by simp) hw
    have hb:IH l ns f Rr = .bad:=by
     rw [want,if_neg hw] at hR;rw [<- hR];rfl
    clear hR hout hs hw hd0
    repeat' first|refine aw ?_|refine bw (fun _=>?_) fun _=>?_
    refine ad 5 [0,1] hv ?_
    repeat' first|refine aw ?_|refine bw (fun _=>?_) fun _=>?_
    refine aJ ?_;refine bq 5 [0,1] w1 ?_;intro h q
    repeat' first|refine aw ?_|refine bw (fun _=>?_) fun _=>?_
    exact m6 4 hb rfl
end Uw.Tryz
namespace Uw.Tryz
open Go Uw
theorem Zp {f:Str} {vs:List V} {g:FuncId} {l:List Tok} {k:Nat} {ns:List Nod} {bs:List Blk} {x:R (List Str)} (h:dj g vs bs (IH l ns f x)) (hk:k<=l.length) (hs:∀e r,x = .ok e r->Suf (l.drop k) r 0) :
  x = .out\/(x = .bad/\lz P0 g vs bs di)\/∃e k',x = .ok e (l.drop k')/\k'<=l.length/\k<=k'/\aE P0 g vs bs (.tuple []) (rdN l k' ns++fnB f (.d (kl e))):=by
 cases x with
 | out=>exact .inl rfl
 | bad=>exact .inr (.inl ⟨rfl,h⟩)
 | ok e r=>
  obtain ⟨k',h1,rfl,h2⟩:=s9 (hs e r rfl) hk;refine .inr (.inr ⟨e,k',rfl,h1,h2,?_⟩);have h:aE P0 g vs bs (.tuple []) (rdN l (l.length - (l.drop k').length) ns++fnB f (.d (kl e))):=h;rw [len_drop h1] at h;exact h
theorem Ny {n:Nat} {r r' : List Tok} {x:List Str} (h:je n r = .ok x r'):Suf r r' 0:=by
 rw [je] at h;obtain ⟨_,r1,h1,h⟩:=bind_ok.1 h;have s1:=Suf.want (by simp) h1
 split at h
 ·rename_i hh
  injection h with _ h
  subst h;exact (s1.trans (Suf.hd hh (by simp))).le (abr _)
 ·obtain ⟨s,r2,h2,h⟩:=bind_ok.1 h
  obtain ⟨ss,r3,h3,h⟩:=bind_ok.1 h;injection h with _ h
  subst h;exact (s1.trans ((Suf.name h2).trans (BE n _ _ _ h3))).le (abr _)
theorem YG (l:List Tok) (hl:l.length<1000000) (n:Nat) (k:Nat) (ns:List Nod) (hk:k<=l.length) (hn:ns.length<=k):dj jO [.ptr 0 0] (rdN l k ns) (QL l ns (lZ n (l.drop k))):=by
 rw [lZ];by_cases h0:hd (l.drop k)=fW
 rotate_left
 ·rw [want,if_neg h0]
  have w0:=bj l k (ns.map cj) hk hl fW (by decide) h0;clear h0;refine aO dr rfl ?_
  repeat refine aw ?_
  refine bq 4 [0,1] w0 ?_;intro H q
  repeat refine aw ?_
  exact aP rfl
 have hlt:=eP h0 (by decide);have w0:=aQ l k (ns.map cj) hk hl fW (by decide) h0;rw [want,if_pos h0,aaI];clear h0;show dj _ _ _ (QL l ns ((dD (l.drop (k+1))).bind _))
 rcases eF l (k+1) (ns.map cj) hlt hl with ⟨h1,h2⟩|⟨f,h1,hlt1,h2⟩
 ·rw [h1]
  refine aO dr rfl ?_
  repeat refine aw ?_
  refine ad 4 [0,1] w0 ?_
  repeat refine aw ?_
  refine bq 4 [0,1] h2 ?_;intro H q
  repeat refine aw ?_
  exact aP rfl
 rw [h1];show dj _ _ _ (QL l ns ((je n (l.drop (k+1+1))).bind fun ar r=>(cN n r).bind fun b r=>.ok ⟨f,ar,b⟩ r))
 rcases Zp (TY l hl n (k+1+1) ns f hlt1 (by omega)) hlt1 (fun e r h=>Ny h) with h3|⟨h3,h4⟩|⟨ar,k2,h3,hk2,YF,h4⟩
 ·rw [h3];exact trivial
 ·rw [h3]
  refine aO dr rfl ?_
  repeat refine aw ?_
  refine ad 4 [0,1] w0 ?_
  repeat refine aw ?_
  refine ad 4 [0,1] h2 ?_
  repeat refine aw ?_
  refine bq 5 [0,1,2,4] h4 ?_;intro H q
  repeat refine aw ?_
  exact aP rfl
 rw [h3];show dj _ _ _ (QL l ns ((cN n (l.drop k2)).bind fun b r=>.ok ⟨f,ar,b⟩ r))
 rcases TM ((cs l hl n n (aax _)).block k2 ns hk2 (by omega)) hk2 (fun e r h=>(oV n).block _ _ _ h) with h5|⟨h5,h6⟩|⟨b,k3,h5,hk3,IB,h6⟩
 ·rw [h5];exact trivial
 ·rw [h5]
  refine aO dr rfl ?_
  repeat refine aw ?_
  refine ad 4 [0,1] w0 ?_
  repeat refine aw ?_
  refine ad 4 [0,1] h2 ?_
  repeat refine aw ?_
  refine ad 5 [0,1,2,4] h4 ?_
  repeat refine aw ?_
  refine bq 5 [0,1] h6 ?_;intro h q
  repeat refine aw ?_
  exact aP rfl
 rw [h5];show aE _ _ _ _ (.agg [.d (.str f),.d (kl ar),.d (I ((ns.length+b.sz:Nat)))]) (rdN l (l.length - (l.drop k3).length) (ns++b.all ns.length));rw [len_drop hk3];have hz:kl ar = .nil\/kl ar = .slice 1 (lQ ar) false:=by
  unfold kl
  split
  ·exact .inl rfl
  ·exact .inr rfl
 rcases hz with e|e
 all_goals rw [e] at h4 ⊢
 all_goals refine ax dr rfl ?_
 all_goals (repeat' first|refine aw ?_|refine bw (fun _=>?_) fun _=>?_)
 all_goals refine ad 4 [0,1] w0 ?_
 all_goals (repeat' first|refine aw ?_|refine bw (fun _=>?_) fun _=>?_)
 all_goals refine ad 4 [0,1] h2 ?_
 all_goals (repeat' first|refine aw ?_|refine bw (fun _=>?_) fun _=>?_)
 all_goals refine ad 5 [0,1,2,4] h4 ?_
 all_goals (repeat' first|refine aw ?_|refine bw (fun _=>?_) fun _=>?_)
 all_goals refine ad 5 [0,1] h6 ?_
 all_goals (repeat' first|refine aw ?_|refine bw (fun _=>?_) fun _=>?_)
 all_goals exact aF 2 rfl rfl (by exact Uw.wW)
end Uw.Tryz
namespace Uw.Tryz
open Go Uw
def gW:List Fn->Nat->List (List Dat)
 | [],_=>[]
 | f::fs,b=>[.str f.name,kl f.args,I ((b+f.body.sz:Nat))]::gW fs (b+f.sz)
theorem EH:∀(a c:List Fn) (b:Nat),gW (a++c) b=gW a b++gW c (b+bR a)
 | [],c,b=>by simp [gW,bR]
 | f::fs,c,b=>by simp [gW,bR,EH fs,abw]
theorem tX:∀(a:List Fn) (b:Nat),(gW a b).length=a.length
 | [],b=>rfl
 | f::fs,b=>by simp [gW,tX fs]
def QM (l:List Tok) (x:R (List Dec×List Fn)):Out:=
 match x with
 | .ok (ds,fs) _=>.ok (.agg [.d (.slice 3 (ds.map cO) false),.d (.slice 3 (gW fs 0) false),.d (.slice 5 ((bX fs 0).map cj) false)]) (rdN l l.length (bX fs 0))
 | .bad=>.bad
 | .out=>.out
theorem T8 {l:List Tok} {x:R (List Dec×List Fn)} (h:x≠R.out):QM l x≠Out.out:=by
 cases x with
 | out=>exact absurd rfl h
 | bad=>intro h;cases h
 | ok e r=>intro h;cases h
theorem Zq {f:FuncId} {vs:List V} {l:List Tok} {k:Nat} {ns:List Nod} {x:R Dec} (h:dj f vs (rdN l k ns) (uE l ns x)) (hk:k<=l.length) (hs:∀e r,x = .ok e r->Suf (l.drop k) r 1) :
  x = .out\/(x = .bad/\lz P0 f vs (rdN l k ns) di)\/∃e k',x = .ok e (l.drop k')/\k'<=l.length/\k+1<=k'/\aE P0 f vs (rdN l k ns) (IE e) (rdN l k' ns):=by
 cases x with
 | out=>exact .inl rfl
 | bad=>exact .inr (.inl ⟨rfl,h⟩)
 | ok e r=>
  obtain ⟨k',h1,rfl,h2⟩:=s9 (hs e r rfl) hk;refine .inr (.inr ⟨e,k',rfl,h1,h2,?_⟩);have h:aE P0 f vs (rdN l k ns) (IE e) (rdN l (l.length - (l.drop k').length) ns):=h;rw [len_drop h1] at h;exact h
theorem Zr {f:FuncId} {vs:List V} {l:List Tok} {k:Nat} {ns:List Nod} {x:R Fn} (h:dj f vs (rdN l k ns) (QL l ns x)) (hk:k<=l.length) (hs:∀e r,x = .ok e r->Suf (l.drop k) r (e.body.sz+1)) :
  x = .out\/(x = .bad/\lz P0 f vs (rdN l k ns) di)\/∃e k',x = .ok e (l.drop k')/\k'<=l.length/\k+(e.body.sz+1)<=k'/\aE P0 f vs (rdN l k ns) (.agg [.d (.str e.name),.d (kl e.args),.d (I ((ns.length+e.body.sz:Nat)))]) (rdN l k' (ns++e.body.all ns.length)):=by
 cases x with
 | out=>exact .inl rfl
 | bad=>exact .inr (.inl ⟨rfl,h⟩)
 | ok e r=>
  obtain ⟨k',h1,rfl,h2⟩:=s9 (hs e r rfl) hk;refine .inr (.inr ⟨e,k',rfl,h1,h2,?_⟩);have h:aE P0 f vs (rdN l k ns) (.agg [.d (.str e.name),.d (kl e.args),.d (I ((ns.length+e.body.sz:Nat)))]) (rdN l (l.length - (l.drop k').length) (ns++e.body.all ns.length)):=h;rw [len_drop h1] at h;exact h
theorem II {α:Type} {d:Int} {p q:List Tok->R α} (hp:IsP d p q) (he:wo p) {r r' : List Tok} {a:α} (h:p r = .ok a r'):Suf r r' 1:=by
 obtain ⟨c,rfl⟩:=hp.pre _ _ _ h;have:=he _ _ _ h;simp at this;exact ⟨c.length,by simp,by simp,by cases c<;>simp at *⟩
theorem T9 {n:Nat} {r r' : List Tok} {f:Fn} (h:lZ n r = .ok f r'):Suf r r' (f.body.sz+1):=by
 rw [lZ] at h;obtain ⟨_,r1,h1,h⟩:=bind_ok.1 h;obtain ⟨s,r2,h2,h⟩:=bind_ok.1 h;obtain ⟨l,r3,h3,h⟩:=bind_ok.1 h;obtain ⟨b,r4,h4,h⟩:=bind_ok.1 h;injection h with h h'
 subst h h';have:Suf r2 r3 0:=by
  obtain ⟨c,rfl⟩:=(nq n).pre _ _ _ h3;exact ⟨c.length,by simp,by simp,abr _⟩
 exact ((Suf.want (by decide) h1).trans ((Suf.name h2).trans (this.trans ((oV n).block _ _ _ h4)))).le (by simp only;omega)
theorem Xl (l:List Tok) (hl:l.length<1000000) (n:Nat):dj eT [.ptr 0 0] (rdN l 0 []) (QM l (oS n l)):=by
 rw [oS];generalize hR:((d4 n l).bind fun d r=>(fq n r).bind fun f r=>R.ok (d,f) r)=Rr;by_cases hout:Rr = .out
 ·rw [hout];exact trivial
 have hR:((d4 n (l.drop 0)).bind fun es r=>R.ok (([]:List Dec)++es) r).bind (fun d r=>(fq n r).bind fun f r=>R.ok (d,f) r)=Rr:=by
  rw [<- hR,aa9]
  cases d4 n l<;>rfl
 refine tU qq rfl (T8 hout) ?_
 repeat refine aw ?_
 refine du (fun ((ds,k,m):List Dec×Nat×Nat)=>⟨[(3,.ptr 3 0),(2,.ptr 2 0),(0,.ptr 0 0)],bz 0 (rdN l k []++[.var [.d .nil,.d .nil,.d .nil],.var [.ref 4 0 0 (ds.map cO).length,.d .nil,.d .nil],.arr 3 (ds.map cO)]),5,[],2⟩)
  (fun (ds,k,m)=>((d4 m (l.drop k)).bind fun es r=>R.ok (ds++es) r).bind (fun d r=>(fq n r).bind fun f r=>R.ok (d,f) r)=Rr/\k<=l.length/\ds.length<=k) (fun (_,_,m)=>m) ([],0,n) (by exact Uw.wW) ⟨hR,abr _,aax _⟩ ?_
 clear hR;rintro ⟨ds,k,m⟩ ⟨hR,hk,hds⟩;have hdl:(ds.map cO).length=ds.length:=by simp
 cases m with
 | zero=>rw [d4] at hR;exact absurd hR.symm hout
 | succ m=>
  have pk:=b9 l k (([]:List Nod).map cj) hk;have e1:(l.map sE).length=l.length:=by simp
  by_cases hs:l.drop k=[]\/hd (l.drop k)=fW
  ·rw [d4,if_pos hs] at hR
   have hR:((fq n (l.drop k)).bind fun es r=>R.ok (([]:List Fn)++es) r).bind (fun f r=>R.ok (ds,f) r)=Rr:=by
    rw [<- hR];show _=(fq n (l.drop k)).bind fun f r=>R.ok (ds++[],f) r;rw [aa6]
    cases fq n (l.drop k)<;>rfl
   have hcase:(k<l.length/\hd (l.drop k)=fW)\/¬k<l.length:=by
    by_cases hk2:k<l.length
    ·exact .inl ⟨hk2,hs.resolve_left (by intro e;have:=congrArg List.length e;simp at this;omega)⟩
    ·exact .inr hk2
   clear hs
   rcases hcase with ⟨hk0,hs2⟩|hk0
   rotate_left
   repeat refine aw ?_
   refine aJ ?_
   repeat refine aw ?_
   rotate_left;rw [hs2] at pk
   repeat refine aw ?_
   refine ad 5 [0,1] pk ?_
   repeat refine aw ?_
   refine aJ ?_
   repeat refine aw ?_
   all_goals clear hk0
   all_goals
    refine du (fun ((fs,k,m):List Fn×Nat×Nat)=>⟨[(3,.ptr 3 0),(2,.ptr 2 0),(0,.ptr 0 0)],bz 0 (rdN l k (bX fs 0)++[.var [.d .nil,.d .nil,.d .nil],.var [.ref 4 0 0 (ds.map cO).length,.ref 5 0 0 (gW fs 0).length,.d .nil],.arr 3 (ds.map cO),.arr 3 (gW fs 0)]),6,[],2⟩)
     (fun (fs,k,m)=>((fq m (l.drop k)).bind fun es r=>R.ok (fs++es) r).bind (fun f r=>R.ok (ds,f) r)=Rr/\k<=l.length/\fs.length+bR fs<=2 * k/\bR fs<=k) (fun (_,_,m)=>m) ([],k,n) (by exact Uw.wW) ⟨hR,hk,by simp [bR],by simp [bR]⟩ ?_
    clear hR;rintro ⟨fs,k,m⟩ ⟨hR,hk,hfs,hsz⟩;have hfl:(gW fs 0).length=fs.length:=tX fs 0;have hnl:(bX fs 0).length=bR fs:=jE fs 0
    cases m with
    | zero=>rw [fq] at hR;exact absurd hR.symm hout
    | succ m=>
     by_cases hk2:k<l.length
     ·rw [fq,if_neg (by intro e;have:=congrArg List.length e;simp at this;omega)] at hR
      rcases Zr (YG l hl m k (bX fs 0) hk (by omega)) hk (fun e r h=>T9 h) with h0|⟨h0,h1⟩|⟨f,k2,h0,hk3,IB,h1⟩
      ·rw [h0] at hR;exact absurd hR.symm hout
      ·rw [h0] at hR
       have hb:QM l Rr = .bad:=by rw [<- hR];rfl
       clear hR hout h0
       repeat refine aw ?_
       refine qg ?_
       repeat refine aw ?_
       refine bq 6 [0,1] h1 ?_;intro H q
       repeat refine aw ?_
       refine aS ⟨di,rfl,?_⟩
       repeat refine aw ?_
       exact nI (m6 2 hb rfl)
      ·rw [h0] at hR
       have hR:((fq m (l.drop k2)).bind fun es r=>R.ok ((fs++[f])++es) r).bind (fun f r=>R.ok (ds,f) r)=Rr:=by
        rw [<- hR];show _=R.bind (R.bind (R.bind (fq m (l.drop k2)) _) _) _
        cases fq m (l.drop k2) with
        | ok es r=>show R.bind (R.ok (fs++[f]++es) r) _=R.bind (R.ok (fs++(f::es)) r) _;rw [aaD];rfl
        | bad=>rfl
        | out=>rfl
       have hsf:bR (fs++[f])=bR fs+(f.body.sz+1):=by rw [tQ];simp [bR,Fn.sz]
       have hnn:bX fs 0++f.body.all (bX fs 0).length=bX (fs++[f]) 0:=by rw [vo,hnl];simp [bX]
       have hff:gW fs 0++[[.str f.name,kl f.args,I (((bX fs 0).length+f.body.sz:Nat))]]=gW (fs++[f]) 0:=by rw [EH,hnl];simp [gW]
       have hfn:(gW fs 0).length+1=(gW (fs++[f]) 0).length:=by rw [tX,tX];simp
       rw [hnn] at h1;have hz:kl f.args = .nil\/kl f.args = .slice 1 (lQ f.args) false:=by
        unfold kl
        split
        ·exact .inl rfl
        ·exact .inr rfl
       clear hout h0 hnn
       rcases hz with e|e
       all_goals rw [e] at h1 hff
       all_goals (repeat' first|refine aw ?_|refine bw (fun _=>?_) fun _=>?_)
       all_goals refine cm ⟨[(3,.ptr 3 0),(2,.ptr 2 0),(0,.ptr 0 0)],bz 0 (rdN l k2 (bX (fs++[f]) 0)++[.var [.d .nil,.d .nil,.d .nil],.var [.ref 4 0 0 (ds.map cO).length,.ref 5 0 0 (gW (fs++[f]) 0).length,.d .nil],.arr 3 (ds.map cO),.arr 3 (gW (fs++[f]) 0)]),6,[],2⟩ ?_ ?_
       any_goals
        repeat refine aw ?_
        refine ad 6 [0,1] h1 ?_
        repeat refine aw ?_
        exact aS (.inl ⟨rfl,by exact Uw.wW⟩)
       all_goals (repeat' first|refine aw ?_|refine bw (fun _=>?_) fun _=>?_)
       all_goals exact cn (fs++[f],k2,m) ⟨hR,hk3,by rw [hsf];simp;omega,by omega⟩ (by simp only;omega) (by exact Uw.wW)
     ·rw [abh (by omega),fq,if_pos rfl] at hR
      have hR:R.ok (ds,fs++[]) []=Rr:=hR;rw [aa6] at hR;have hkl:k=l.length:=by omega
      have hb:QM l Rr = .ok (.agg [.d (.slice 3 (ds.map cO) false),.d (.slice 3 (gW fs 0) false),.d (.slice 5 ((bX fs 0).map cj) false)]) (rdN l l.length (bX fs 0)):=by rw [<- hR];rfl
      have z1:((ds.map cO).drop 0).take (ds.map cO).length=ds.map cO:=by rw [aa9,aaK]
      have z2:((gW fs 0).drop 0).take (gW fs 0).length=gW fs 0:=by rw [aa9,aaK]
      have z3:(((bX fs 0).map cj).drop 0).take ((bX fs 0).map cj).length=(bX fs 0).map cj:=by rw [aa9,aaK]
      clear hR hout;subst hkl
      repeat refine aw ?_
      refine aJ ?_
      repeat refine aw ?_
      exact xe 2 hb rfl rfl (by exact Uw.wW)
  ·rw [d4,if_neg hs] at hR
   have hk2:k<l.length:=by
    rcases aa2 k l.length with h|h
    ·exact h
    ·exact absurd (.inl (abh h)) hs
   have hs2:hd (l.drop k)≠fW:=fun h=>hs (.inr h);clear hs;unfold fW at hs2
   rcases Zq (Xk l hl k [] hk) hk (fun e r h=>II qp tP h) with h0|⟨h0,h1⟩|⟨d,k2,h0,hk3,IB,h1⟩
   ·exact absurd h0 (K5 _)
   ·rw [h0] at hR
    have hb:QM l Rr = .bad:=by rw [<- hR];rfl
    clear hR hout h0
    repeat refine aw ?_
    refine ad 5 [0,1] pk ?_
    repeat refine aw ?_
    refine qg ?_
    repeat refine aw ?_
    refine bq 5 [0,1] h1 ?_;intro H q
    repeat refine aw ?_
    refine aS ⟨di,rfl,?_⟩
    repeat refine aw ?_
    exact nI (m6 2 hb rfl)
   ·rw [h0] at hR
    have hR:((d4 m (l.drop k2)).bind fun es r=>R.ok ((ds++[d])++es) r).bind (fun d r=>(fq n r).bind fun f r=>R.ok (d,f) r)=Rr:=by
     rw [<- hR];show _=R.bind (R.bind (R.bind (d4 m (l.drop k2)) _) _) _
     cases d4 m (l.drop k2) with
     | ok es r=>show R.bind (R.ok (ds++[d]++es) r) _=R.bind (R.ok (ds++(d::es)) r) _;rw [aaD];rfl
     | bad=>rfl
     | out=>rfl
    have hdr:ds.map cO++[cO d]=(ds++[d]).map cO:=by simp
    have hdn:(ds.map cO).length+1=((ds++[d]).map cO).length:=by simp
    clear hout h0
    repeat refine aw ?_
    refine ad 5 [0,1] pk ?_
    repeat refine aw ?_
    refine cm ⟨[(3,.ptr 3 0),(2,.ptr 2 0),(0,.ptr 0 0)],bz 0 (rdN l k2 []++[.var [.d .nil,.d .nil,.d .nil],.var [.ref 4 0 0 ((ds++[d]).map cO).length,.d .nil,.d .nil],.arr 3 ((ds++[d]).map cO)]),5,[],2⟩ ?_ ?_
    ·repeat refine aw ?_
     refine ad 5 [0,1] h1 ?_
     repeat refine aw ?_
     exact aS (.inl ⟨rfl,by exact Uw.wW⟩)
    ·repeat refine aw ?_
     exact cn (ds++[d],k2,m) ⟨hR,hk3,by simp;omega⟩ (by simp only;omega) (by exact Uw.wW)
end Uw.Tryz
namespace Uw.Tryz
open Go Uw
theorem IJ (s:Str):(s=[40]/\delta s=1)\/(s≠[40]/\s=[123]/\delta s=1)\/(s≠[40]/\s≠[123]/\s=[41]/\delta s = -1)\/(s≠[40]/\s≠[123]/\s≠[41]/\s=[125]/\delta s = -1)\/(s≠[40]/\s≠[123]/\s≠[41]/\s≠[125]/\delta s=0):=by
 unfold delta;by_cases h1:s=[40]
 ·subst h1;exact .inl ⟨rfl,by decide⟩
 ·by_cases h2:s=[123]
  ·subst h2;exact .inr (.inl ⟨h1,rfl,by decide⟩)
  ·by_cases h3:s=[41]
   ·subst h3;exact .inr (.inr (.inl ⟨h1,h2,rfl,by decide⟩))
   ·by_cases h4:s=[125]
    ·subst h4;exact .inr (.inr (.inr (.inl ⟨h1,h2,h3,rfl,by decide⟩)))
    ·exact .inr (.inr (.inr (.inr ⟨h1,h2,h3,h4,by simp [h1,h2,h3,h4]⟩)))
theorem QN (a b:Int):max a b=mmI true a b:=rfl
theorem EI (a b:Int):a<=mmI true a b/\b<=mmI true a b/\(mmI true a b=a\/mmI true a b=b):=by
 rw [<- QN];omega
theorem pS (l:List Tok) (hl:l.length<1000000):Ret P0 uO [wk l] (I (iw l 0 0)):=by
 have hm:(l.map sE).length=l.length:=by simp
 generalize hD:iw l 0 0=D;refine aU AP rfl ?_
 repeat refine aw ?_
 refine du (fun ((j,d,m):Nat×Int×Int)=>⟨[(9,.d (I j)),(8,.d (I (↑(List.map sE l).length))),(7,.d (wk l)),(4,.d (I m)),(3,.d (I d))],[],0,[],0⟩)
  (fun (j,d,m)=>j<=l.length/\iw (l.drop j) d m=D/\- (j:Int)<=d/\d<=j/\0<=m/\m<=j) (fun (j,_,_)=>l.length - j) (0,0,0) (by exact Uw.wW) ⟨abr _,hD,by simp,by simp,by simp,by simp⟩ ?_
 clear hD;rintro ⟨j,d,m⟩ ⟨hj,hD,h1,h2,h3,h4⟩;by_cases h:j<l.length
 ·rw [aaW h,iw] at hD
  generalize hx:l[j]=x at *;obtain ⟨k,s,n,a⟩:=x;have he:(l.map sE)[((j:Int)).toNat]? = some [I k,.str s,I n,I a]:=by
   rw [show ((j:Int)).toNat=j by omega,we _ _ _ h,hx];rfl
  have hD:iw (l.drop (j+1)) (d+delta s) (max m (d+delta s))=D:=hD
  rcases IJ s with ⟨e1,e2⟩|⟨e0,e1,e2⟩|⟨e0,e3,e1,e2⟩|⟨e0,e3,e4,e1,e2⟩|⟨e0,e3,e4,e5,e2⟩
  all_goals rw [e2,QN] at hD
  all_goals try rw [show d + -1=d - 1 by omega] at hD
  all_goals try rw [Int.add_zero] at hD
  all_goals (repeat' first|refine aw ?_|refine bw (fun _=>?_) fun _=>?_)
  all_goals first|exact cn (j+1,_,_) ⟨by omega,hD,by omega,by omega,by have:=EI m (d+1);have:=EI m (d - 1);have:=EI m d;omega,by have:=EI m (d+1);have:=EI m (d - 1);have:=EI m d;omega⟩ (by simp only;omega) (by exact Uw.wW)
 ·rw [abh (by omega),iw] at hD
  subst hD
  repeat refine aw ?_
  refine aJ ?_
  repeat refine aw ?_
  exact aC rfl rfl rfl rfl rfl
end Uw.Tryz
namespace Uw.Tryz
open Go Uw
def Zs (x:List Dec×List Fn):Dat:=.agg [.slice 3 (x.1.map cO) false,.slice 3 (gW x.2 0) false,.slice 5 ((bX x.2 0).map cj) false]
def noD:Dat:=.agg [.nil,.nil,.nil]
theorem UA (h:Heap) (nx:Nat):Ao P0 ka [.ptr 0 0,.ptr 1 0] h nx none (fun h' nx'=>h' = h/\nx' = nx):=by
 refine qZ uP rfl ?_;refine MN rfl ?_;exact aS ⟨.inl rfl,rfl,rfl,rfl⟩
theorem Nz (a b c d:V) (nx:Nat):Ao P0 ka [.ptr 0 0,.ptr 1 0] [(0,.var [a,b,c]),(1,.var [d])] nx (some di) (fun h' nx'=>h' = (1,.var [.d (I 3)])::(0,.var [.d .nil,.d .nil,.d .nil])::[(0,.var [a,b,c]),(1,.var [d])]/\nx' = nx):=by
 refine qZ uP rfl ?_;refine SD rfl ?_;exact aS ⟨.inl rfl,rfl,rfl,rfl⟩
theorem BF (s:List UInt8) (hs:s.length<1000000) (l:List Tok) (e:Int) (hw:fh s=(l,e)) (he:e≠0):Ret P0 ez [.str s] (.tuple [noD,I e]):=by
 have h1:=pq s hs;rw [hw] at h1;refine jq o4 rfl ?_
 repeat refine aw ?_
 refine cm ⟨[(3,.ptr 1 0),(2,.ptr 0 0)],[(1,.var [.d (I e)]),(0,.var [.d .nil,.d .nil,.d .nil])],2,[],0⟩ ?_ ?_
 ·repeat refine aw ?_
  exact aS (.inl ⟨rfl,by exact Uw.wW⟩)
 ·repeat refine aw ?_
  exact aS ⟨_,.inl rfl,.inl ⟨.inr rfl,rfl,_,_,rfl,rfl,rfl,rfl⟩⟩
theorem zp (s:List UInt8) (hs:s.length<1000000) (l:List Tok) (hl:l.length<1000000) (hw:fh s=(l,0)) (he:40<iw l 0 0):Ret P0 ez [.str s] (.tuple [noD,I 2]):=by
 have h1:=pq s hs;have h2:=pS l hl;rw [hw] at h1;generalize iw l 0 0=d at *;refine jq o4 rfl ?_
 repeat refine aw ?_
 exact aS ⟨_,.inl rfl,.inl ⟨.inr rfl,rfl,_,_,rfl,rfl,rfl,rfl⟩⟩
theorem BG (s:List UInt8) (hs:s.length<1000000) (l:List Tok) (hl:l.length<1000000) (hw:fh s=(l,0)) (he:iw l 0 0<=40) (hb:lz P0 eT [.ptr 0 0] (rdN l 0 []) di):Ret P0 ez [.str s] (.tuple [noD,I 3]):=by
 have h1:=pq s hs;have h2:=pS l hl;rw [hw] at h1;generalize iw l 0 0=d at *;refine jq o4 rfl ?_
 repeat refine aw ?_
 refine SX 3 [2] hb ?_;intro h0 n0
 ·refine aS ⟨⟨[(2,.ptr 0 0),(3,.ptr 1 0)],[(0,.var [.d .nil,.d .nil,.d .nil]),(1,.var [.d (I 0)])],2,_,0⟩,.inr (Weak.rest ?_ ?_ rfl rfl rfl),.inr ⟨some di,ka,[],[.ptr 0 0,.ptr 1 0],.inr ⟨_,rfl,rfl⟩,rfl,?_⟩⟩
  ·intro p hp
   simp only [aaN,acQ,or_false] at hp
   rcases hp with rfl|rfl
   ·exact ⟨rfl,rfl,rfl⟩
   ·exact ⟨rfl,rfl,rfl⟩
  ·intro p hp
   simp only [aaN,acQ,or_false] at hp
   rcases hp with rfl|rfl
   ·exact ⟨by decide,by decide,rfl,rfl,rfl,rfl⟩
   ·exact ⟨by decide,by decide,rfl,rfl,rfl,rfl⟩
  ·refine Ao.mono (Nz _ _ _ _ _) ?_
   rintro h' nx' ⟨rfl,rfl⟩;exact ⟨[.agg [.d .nil,.d .nil,.d .nil],.d (I 3)],_,rfl,rfl,rfl,rfl⟩
theorem DJ (s:List UInt8) (hs:s.length<1000000) (l:List Tok) (hl:l.length<1000000) (hw:fh s=(l,0)) (he:iw l 0 0<=40) (a b c:List (List Dat)) (ns:List Nod)
  (hb:aE P0 eT [.ptr 0 0] (rdN l 0 []) (.agg [.d (.slice 3 a false),.d (.slice 3 b false),.d (.slice 5 c false)]) (rdN l l.length ns)):Ret P0 ez [.str s] (.tuple [.agg [.slice 3 a false,.slice 3 b false,.slice 5 c false],I 0]):=by
 have h1:=pq s hs;have h2:=pS l hl;rw [hw] at h1;generalize iw l 0 0=d at *;refine jq o4 rfl ?_
 repeat refine aw ?_
 refine ad 3 [2] hb ?_
 repeat refine aw ?_
 refine aS ⟨_,.inl rfl,.inr ⟨none,ka,[],[.ptr 0 0,.ptr 1 0],.inl ⟨.inr rfl,rfl⟩,rfl,?_⟩⟩;refine Ao.mono (UA _ _) ?_;rintro h' nx' ⟨rfl,rfl⟩;exact ⟨[.agg [.d (.slice 3 a false),.d (.slice 3 b false),.d (.slice 5 c false)],.d (I 0)],_,rfl,rfl,rfl,rfl⟩
def Vx (x:Pg×Int):Dat:=.tuple [pgD x.1,I x.2]
theorem IK:∀(fs:List Fn) (b:Nat),Dq (gW fs b) ((kD fs b).map fuL)
 | [],b=>.refl _
 | f::fs,b=>by
  refine .cons (.cons (.refl _) (.cons ?_ (.refl _))) (IK fs _);show DLe (kl f.args) (gV f.args);unfold kl
  split
  ·rename_i h;rw [h];exact .nil 1
  ·exact .refl _
theorem Xn {x:Nod} (h:x.kind=1\/x.kind=2\/x.kind=12->x.of=[]):DLe (ofD x.kind x.of) (bN (x.of.map fun (i:Nat)=>(i:Int))):=by
 have e:(x.of.map fun (i:Nat)=>[I i])=((x.of.map fun (i:Nat)=>(i:Int)).map fun i=>[I i]):=by simp
 unfold ofD bN
 split
 ·rename_i hk;rw [h hk];exact .nil 1
 ·split
  ·split
   ·rename_i h0;rw [h0];exact .nil 1
   ·rw [e];exact .refl _
  ·split
   ·rw [e];exact .refl _
   ·rw [e];exact .slice (.refl _)
def tj (l:List Nod):Prop:=∀x∈l,x.kind=1\/x.kind=2\/x.kind=12->x.of=[]
theorem tj.app {a b:List Nod} (h1:tj a) (h2:tj b):tj (a++b):=fun x hx=>(aaZ.1 hx).elim (h1 x) (h2 x)
theorem tj.one {x:Nod} (h:x.kind=1\/x.kind=2\/x.kind=12->x.of=[]):tj [x]:=fun y hy=>by simp at hy;subst hy;exact h
end Uw.Tryz
namespace Uw.Tryz
open Go Uw
abbrev txH (D F N:List (List Dat)) (p:Nat->Bool) (ws:List Str):Heap:=
 [(3,.var [.d (.slice 3 D false),.d (.slice 3 F false),.d (.slice 5 N false),.ref 2 0 0 (kX N.length p).length,.ref 4 0 0 (cP ws).length]),(2,.mt 1 0 (kX N.length p)),(4,.arr 1 (cP ws)),(1,.var [.d (.str [])]),(0,.var [.d (.slice 3 D false),.d (.slice 3 F false),.d (.slice 5 N false)])]
abbrev QO (D F N:List (List Dat)) (p:Nat->Bool) (ws:List Str):Heap:=
 [(3,.var [.d (.slice 3 D false),.d (.slice 3 F false),.d (.slice 5 N false),.ref 2 0 0 (kX N.length p).length,.ref 4 0 0 (cP ws).length]),(2,.mt 1 0 (kX N.length p)),(4,.arr 1 (cP ws)),(1,.var [.d (.str [])])]
theorem QP (m:Nat):List.replicate m [Dat.bool false]=kX m (fun _=>false):=by
 refine acz (by simp [kX]) fun i h1 h2=>?_;simp [kX]
theorem J5 (ds:List Dec) (j:Nat) (h:j<ds.length):(ds.take (j+1)).flatMap eL=(ds.take j).flatMap eL++eL ds[j]:=by
 rw [take_one ds j h,abS];simp
theorem NA (ds:List Fn) (j:Nat) (h:j<ds.length):(ds.take (j+1)).flatMap wFn=(ds.take j).flatMap wFn++wFn ds[j]:=by
 rw [take_one ds j h,abS];simp
theorem QR (d:Dec):(eL d).length<=5/\3<=(eL d).length:=by
 unfold eL
 split<;>simp
theorem UB (h:Heap) (nx:Nat):Ao P0 cz [.ptr 1 0] h nx none (fun h' nx'=>h' = h/\nx' = nx):=by
 refine qZ zh rfl ?_;refine MN rfl ?_;exact aS ⟨.inl rfl,rfl,rfl,rfl⟩
theorem At.mid (a l r:List Nod):At (a++(l++r)) a.length l:=fun j hj=>by
 rw [aa4 (by omega),aaY (by omega),aaU (by omega)];simp
theorem QS (fs:List Fn) (j:Nat) (h:j<fs.length):(kD fs 0)[j]? = some ⟨fs[j].name,fs[j].args,((bR (fs.take j)+fs[j].body.sz:Nat):Int)⟩/\At (bX fs 0) (bR (fs.take j)) (fs[j].body.all (bR (fs.take j))):=by
 have e:fs=fs.take j++(fs[j]::fs.drop (j+1)):=by rw [<- aaW h,abM]
 have hl:(fs.take j).length=j:=by simp;omega
 constructor
 ·conv=>lhs;rw [e]
  rw [Ep,aa4 (by rw [nr,hl];exact aax _),nr,hl,acu,kD,aaF];rfl
 ·have h2:=At.mid (bX (fs.take j) 0) (fs[j].body.all (bR (fs.take j))) (bX (fs.drop (j+1)) (bR (fs.take j)+fs[j].sz))
  rw [jE] at h2;have e2:bX fs 0=bX (fs.take j) 0++(fs[j].body.all (bR (fs.take j))++bX (fs.drop (j+1)) (bR (fs.take j)+fs[j].sz)):=by
   conv=>lhs;rw [e]
   rw [vo,bX,aaF]
  rw [e2];exact h2
theorem J6 (fs:List Fn) (j:Nat) (h:j<fs.length):bR (fs.take (j+1))=bR (fs.take j)+(fs[j].body.sz+1):=by
 rw [take_one fs j h,tQ];simp [bR,Fn.sz]
theorem NB (l:List Str):l.length<=(ej l).length:=by
 cases l with
 | nil=>simp
 | cons a r=>
  have:∀(r:List Str),r.length<=(r.flatMap fun s=>[[44],s]).length:=by
   intro r
   induction r with
   | nil=>simp
   | cons b r ih=>rw [abk,aaw,aaA];simp only [aaA,aa3];omega
  have:=this r;simp only [ej,aaw,aaA,aa3];omega
theorem QT (l:List Str) (i:Nat):(ej (l.take i)).length<=(ej l).length:=by
 cases l with
 | nil=>simp
 | cons a r=>
  cases i with
  | zero=>simp [ej]
  | succ i=>
   rw [abd,ej,ej,aaw,aaw]
   conv=>rhs;rw [<- abM i r]
   rw [abS,aaw];omega
theorem J7 (l:List Str) (i:Nat) (h:i<l.length):ej (l.take (i+1))=ej (l.take i)++(if i=0 then [] else [[44]])++[l[i]]:=by
 cases l with
 | nil=>simp at h
 | cons a r=>
  cases i with
  | zero=>simp [ej]
  | succ i=>
   have h:i<r.length:=by simpa using h
   rw [abd,abd,ej,ej,take_one r i h,abS];simp
theorem DK (x:List Dec×List Fn) (hg:(∀d∈x.1,d.good)/\∀f∈x.2,f.good) (hn:bR x.2<5000) (hw:(nQ x).length<800000) (hj:(dw [] (nQ x)).length<=140737488355328):Ret P0 wx [pgD (mW x)] (.str (dw [] (nQ x))):=by
 obtain ⟨ds,fs⟩:=x;obtain ⟨hgd,hgf⟩:=hg;simp only at hgd hgf hn;have hwp:nQ (ds,fs)=ds.flatMap eL++fs.flatMap wFn:=rfl;rw [hwp,aaw] at hw;have hds:3 * ds.length<=(ds.flatMap eL).length:=by
  clear hw hj hwp hgd
  induction ds with
  | nil=>simp
  | cons d ds ih=>have:=QR d;rw [abk,aaw,aaA];omega
 have m1:(((mW (ds,fs)).nodes).map ndL).length=bR fs:=by simp [mW,jE]
 have m2:(((mW (ds,fs)).decls).map cO).length=ds.length:=by simp [mW]
 have m3:(((mW (ds,fs)).ag).map fuL).length=fs.length:=by simp [mW,nr]
 have hfl:fs.length<=bR fs:=by
  clear hw hj hwp hgf m1 m3 hn
  induction fs with
  | nil=>simp
  | cons d ds ih=>simp only [aaA,bR,Fn.sz];have:=ih m2;omega
 generalize hD:(mW (ds,fs)).decls.map cO=D at *;generalize hF:(mW (ds,fs)).ag.map fuL=F at *;generalize hN:(mW (ds,fs)).nodes.map ndL=N at *;rw [show pgD (mW (ds,fs)) = .agg [.slice 3 D false,.slice 3 F false,.slice 5 N false] by unfold pgD;rw [hD,hF,hN]];have hmk:(decide ((0:Int)<=(N.length:Int))&&decide ((N.length:Int)<=(N.length:Int))&&decide ((N.length:Int) * ((1:Nat):Int)<=70368744177664))=true:=by
  simp;omega
 have key:∀st,Weak st ⟨[(20,.d (I 0)),(19,.d (I D.length)),(18,.d (.slice 3 D false)),(3,.ptr 3 0),(2,.ptr 1 0),(1,.ptr 0 0)],[(3,.var [.d (.slice 3 D false),.d (.slice 3 F false),.d (.slice 5 N false),.ref 2 0 0 N.length,.ref 4 0 0 (cP []).length]),(2,.mt 1 0 (List.replicate N.length [.bool false])),(4,.arr 1 (cP [])),(1,.var [.d (.str [])]),(0,.var [.d (.slice 3 D false),.d (.slice 3 F false),.d (.slice 5 N false)])],5,[.func cz [] [.ptr 1 0]],0⟩->
   Weak st ⟨[(20,.d (I ((0:Nat):Int))),(19,.d (I D.length)),(18,.d (.slice 3 D false)),(3,.ptr 3 0),(2,.ptr 1 0),(1,.ptr 0 0)],txH D F N (fun _=>false) ((ds.take 0).flatMap eL),5,[.func cz [] [.ptr 1 0]],0⟩:=by
  intro st h;rw [QP] at h;have e:(kX N.length fun _=>false).length=N.length:=by simp [kX]
  unfold txH;rw [e];exact h
 rw [hwp] at hj ⊢;have hP0:∀i,(fun _:Nat=>false) i=false:=fun _=>rfl;generalize (fun _:Nat=>false)=P00 at key hP0;have hNS:nsL (bX fs 0)=N:=by rw [<- hN];simp [nsL,mW]
 have hef:∀(j:Nat) (h:j<fs.length),F[(j:Int).toNat]? = some (fuL ⟨fs[j].name,fs[j].args,((bR (fs.take j)+fs[j].body.sz:Nat):Int)⟩):=by
  intro j h;rw [<- hF,show ((j:Nat):Int).toNat=j by omega];show ((kD fs 0).map fuL)[j]? = _;rw [acg,(QS fs j h).1];rfl
 have z0:orR P00 0 (bR (fs.take 0))=P00:=Bt P00 0;have z1:ds.flatMap eL++(fs.take 0).flatMap wFn=ds.flatMap eL:=by simp
 have key2:∀st,Weak st ⟨[(30,.d (I 0)),(29,.d (I F.length)),(28,.d (.slice 3 F false)),(3,.ptr 3 0),(2,.ptr 1 0)],[(3,.var [.d (.slice 3 D false),.d (.slice 3 F false),.d (.slice 5 N false),.ref 2 0 0 (kX N.length P00).length,.ref 4 0 0 (cP (ds.flatMap eL)).length]),(2,.mt 1 0 (kX N.length P00)),(4,.arr 1 (cP (ds.flatMap eL))),(1,.var [.d (.str [])])],5,[.func cz [] [.ptr 1 0]],0⟩->
   Weak st ⟨[(30,.d (I ((0:Nat):Int))),(29,.d (I F.length)),(28,.d (.slice 3 F false)),(3,.ptr 3 0),(2,.ptr 1 0)],QO D F N (orR P00 0 (bR (fs.take 0))) (ds.flatMap eL++(fs.take 0).flatMap wFn),5,[.func cz [] [.ptr 1 0]],0⟩:=by
  intro st h;rw [z0,z1];exact h
 have hel:∀(j:Nat) (h:j<ds.length),D[(j:Int).toNat]? = some (cO ds[j]):=by
  intro j h;rw [<- hD,show ((j:Nat):Int).toNat=j by omega];show (ds.map cO)[j]? = _;rw [we _ _ _ h]
 refine jq zn rfl ?_
 repeat' first|refine aw ?_|refine bw (fun _=>?_) fun _=>?_
 refine cm ⟨[(3,.ptr 3 0),(2,.ptr 1 0),(1,.ptr 0 0)],[(3,.var [.d (.slice 3 D false),.d (.slice 3 F false),.d (.slice 5 N false),.ref 2 0 0 N.length,.d .nil]),(2,.mt 1 0 (List.replicate N.length [.bool false])),(1,.var [.d (.str [])]),(0,.var [.d (.slice 3 D false),.d (.slice 3 F false),.d (.slice 5 N false)])],4,[.func cz [] [.ptr 1 0]],0⟩ ?_ ?_
 ·repeat' first|refine aw ?_|refine bw (fun _=>?_) fun _=>?_
  refine Fq ?_ ?_
  ·repeat' first|refine aw ?_|refine bw (fun _=>?_) fun _=>?_
   refine aS (.inl ⟨rfl,?_⟩);exact Uw.wW
  ·repeat' first|refine aw ?_|refine bw (fun _=>?_) fun _=>?_
   refine aS (.inl ⟨rfl,?_⟩);exact Weak.eqs [(3,2),(2,3)] (by kernel_rfl) (by kernel_rfl) (by kernel_rfl) (by kernel_rfl) (by kernel_rfl) (by kernel_rfl) (by kernel_rfl) (by kernel_rfl) (by kernel_rfl) (by kernel_rfl)
 repeat' first|refine aw ?_|refine bw (fun _=>?_) fun _=>?_
 refine du (fun (j:Nat)=>⟨[(20,.d (I j)),(19,.d (I D.length)),(18,.d (.slice 3 D false)),(3,.ptr 3 0),(2,.ptr 1 0),(1,.ptr 0 0)],txH D F N P00 ((ds.take j).flatMap eL),5,[.func cz [] [.ptr 1 0]],0⟩)
  (fun j=>j<=ds.length) (fun j=>ds.length - j) 0 (key _ (by exact Uw.wW)) (abr _) ?_
 ·clear key
  intro j hj1;by_cases h:j<ds.length
  ·have he:=hel j h
   have hlt:j<D.length:=by omega
   have hwl:((ds.take j).flatMap eL).length<=(ds.flatMap eL).length:=by
    conv=>rhs;rw [<- abM j ds]
    rw [abS,aaw];omega
   have hd:=W8 D F N P00 ((ds.take j).flatMap eL) ds[j] (hgd _ (aaQ _)) (by omega);rw [<- J5 ds j h] at hd;clear hel;generalize (ds.take j).flatMap eL=w1 at *
   repeat' first|refine aw ?_|refine bw (fun _=>?_) fun _=>?_
   refine ad 6 [3,2,4] hd ?_
   repeat' first|refine aw ?_|refine bw (fun _=>?_) fun _=>?_
   exact cn (j+1) (by omega) (by show _<_;omega) (by exact Uw.wW)
  ·have hj0:j=ds.length:=by omega
   subst hj0;rw [aaK];have hlt:¬ds.length<D.length:=by omega
   clear hel
   repeat' first|refine aw ?_|refine bw (fun _=>?_) fun _=>?_
   refine aJ ?_
   repeat' first|refine aw ?_|refine bw (fun _=>?_) fun _=>?_
   refine du (fun (j:Nat)=>⟨[(30,.d (I j)),(29,.d (I F.length)),(28,.d (.slice 3 F false)),(3,.ptr 3 0),(2,.ptr 1 0)],QO D F N (orR P00 0 (bR (fs.take j))) (ds.flatMap eL++(fs.take j).flatMap wFn),5,[.func cz [] [.ptr 1 0]],0⟩)
    (fun j=>j<=fs.length) (fun j=>fs.length - j) 0 (key2 _ (by exact Uw.wW)) (abr _) ?_
   clear key2 z0 z1 hj1 h hlt;intro j hj1;by_cases h:j<fs.length
   ·have he:=hef j h
    have hlt:j<F.length:=by omega
    have hwl:((fs.take (j+1)).flatMap wFn).length<=(fs.flatMap wFn).length:=by
     conv=>rhs;rw [<- abM (j+1) fs]
     rw [abS,aaw];omega
    have hwn:=NA fs j h;have hsn:=J6 fs j h;have hat:=(QS fs j h).2;have hgj:=(hgf _ (aaQ h)).body;clear hef hgf;generalize fs[j]=f at *;have hwf:(wFn f).length=3+(ej f.args).length+1+(df f.body).length:=by simp [wFn];omega
    rw [hwn,aaw] at hwl;have hba:=NB f.args;have hsz:bR (fs.take j)+(f.body.sz+1)<=bR fs:=by
     rw [<- hsn]
     conv=>rhs;rw [<- abM (j+1) fs]
     rw [tQ];omega
    have hsj:bR (fs.take (j+1))<5000:=by omega
    generalize hwj:ds.flatMap eL++(fs.take j).flatMap wFn=wj at *;have Z1:wj.length+(wFn f).length<800000:=by rw [<- hwj,aaw];omega
    generalize hpj:orR P00 0 (bR (fs.take j))=pj at *;have h1:=aH D F N pj wj [[102,117,110,99],f.name,[40]] (by simp;omega);have he:F[(j:Int).toNat]? = some [.str f.name,.slice 1 (cP f.args) false,I ((bR (fs.take j)+f.body.sz:Nat):Int)]:=he;have hlen:(cP f.args).length=f.args.length:=by simp [cP]
    have hea:∀(i:Nat) (h:i<f.args.length),(cP f.args)[(i:Int).toNat]? = some [.str f.args[i]]:=by
     intro i h;rw [show ((i:Nat):Int).toNat=i by omega,cP,we _ _ _ h]
    have y1:wj++[[102,117,110,99],f.name,[40]]++ej (f.args.take 0)=wj++[[102,117,110,99],f.name,[40]]:=by simp [ej]
    have YH:∀st,Weak st ⟨[(41,.d (I 0)),(40,.d (I (cP f.args).length)),(39,.d (.slice 1 (cP f.args) false)),(7,.ptr 5 0),(30,.d (I j)),(29,.d (I F.length)),(28,.d (.slice 3 F false)),(3,.ptr 3 0),(2,.ptr 1 0)],
       (5,.var [.d (.str f.name),.d (.slice 1 (cP f.args) false),.d (I ((bR (fs.take j)+f.body.sz:Nat):Int))])::QO D F N pj (wj++[[102,117,110,99],f.name,[40]]),6,[.func cz [] [.ptr 1 0]],0⟩->
      Weak st ⟨[(41,.d (I ((0:Nat):Int))),(40,.d (I (cP f.args).length)),(39,.d (.slice 1 (cP f.args) false)),(7,.ptr 5 0),(30,.d (I j)),(29,.d (I F.length)),(28,.d (.slice 3 F false)),(3,.ptr 3 0),(2,.ptr 1 0)],
       (5,.var [.d (.str f.name),.d (.slice 1 (cP f.args) false),.d (I ((bR (fs.take j)+f.body.sz:Nat):Int))])::QO D F N pj (wj++[[102,117,110,99],f.name,[40]]++ej (f.args.take 0)),6,[.func cz [] [.ptr 1 0]],0⟩:=by
     intro st h;rw [y1];exact h
    repeat' first|refine aw ?_|refine bw (fun _=>?_) fun _=>?_
    refine ad 6 [3,2,4] h1 ?_
    repeat' first|refine aw ?_|refine bw (fun _=>?_) fun _=>?_
    refine du (fun (i:Nat)=>⟨[(41,.d (I i)),(40,.d (I (cP f.args).length)),(39,.d (.slice 1 (cP f.args) false)),(7,.ptr 5 0),(30,.d (I j)),(29,.d (I F.length)),(28,.d (.slice 3 F false)),(3,.ptr 3 0),(2,.ptr 1 0)],
       (5,.var [.d (.str f.name),.d (.slice 1 (cP f.args) false),.d (I ((bR (fs.take j)+f.body.sz:Nat):Int))])::QO D F N pj (wj++[[102,117,110,99],f.name,[40]]++ej (f.args.take i)),6,[.func cz [] [.ptr 1 0]],0⟩)
     (fun i=>i<=f.args.length) (fun i=>f.args.length - i) 0 (YH _ (by exact Uw.wW)) (abr _) ?_
    clear YH y1 he;intro i hi;by_cases hia:i<f.args.length
    ·have he:=hea i hia
     have hilt:i<(cP f.args).length:=by omega
     have hst:=J7 f.args i hia;have hsl:=QT f.args (i+1);rw [hst] at hsl;simp only [aaw,aaA,aa3] at hsl;by_cases hi0:i=0
     ·subst hi0
      have h2:=aH D F N pj (wj++[[102,117,110,99],f.name,[40]]++ej (f.args.take 0)) [f.args[0]] (by simp only [aaw,aaA,aa3];omega);rw [if_pos rfl,aa6] at hst;rw [aaD _ (ej _),<- hst] at h2;clear hea hst
      repeat' first|refine aw ?_|refine bw (fun _=>?_) fun _=>?_
      refine ad 6 [3,2,4] h2 ?_
      repeat' first|refine aw ?_|refine bw (fun _=>?_) fun _=>?_
      exact cn 1 (by omega) (by show _<_;omega) (by exact Uw.wW)
     ·have h0:=aH D F N pj (wj++[[102,117,110,99],f.name,[40]]++ej (f.args.take i)) [[44]] (by simp;rw [if_neg hi0] at hsl;simp at hsl;omega)
      have h2:=aH D F N pj (wj++[[102,117,110,99],f.name,[40]]++ej (f.args.take i)++[[44]]) [f.args[i]] (by simp;rw [if_neg hi0] at hsl;simp at hsl;omega);rw [if_neg hi0] at hst;have e:wj++[[102,117,110,99],f.name,[40]]++ej (f.args.take i)++[[44]]++[f.args[i]]=wj++[[102,117,110,99],f.name,[40]]++ej (f.args.take (i+1)):=by rw [hst];simp
      rw [e] at h2;clear hea hst e
      repeat' first|refine aw ?_|refine bw (fun _=>?_) fun _=>?_
      refine ad 6 [3,2,4] h0 ?_
      repeat' first|refine aw ?_|refine bw (fun _=>?_) fun _=>?_
      refine ad 6 [3,2,4] h2 ?_
      repeat' first|refine aw ?_|refine bw (fun _=>?_) fun _=>?_
      exact cn (i+1) (by omega) (by show _<_;omega) (by exact Uw.wW)
    ·have hi0:i=f.args.length:=by omega
     subst hi0;rw [aaK];have hnlt:¬f.args.length<(cP f.args).length:=by omega
     have h3:=aH D F N pj (wj++[[102,117,110,99],f.name,[40]]++ej f.args) [[41]] (by simp;omega);have h4:=qF D F (bX fs 0) (by rw [jE];omega) f.body (tW D F (bX fs 0) (by rw [jE];omega) f.body hgj) (bR (fs.take j)) pj (wj++[[102,117,110,99],f.name,[40]]++ej f.args++[[41]]) hat
      (fun i h1 h2=>by rw [<- hpj,m5 (by omega)];exact hP0 i) (by simp;omega)
     have e:wj++[[102,117,110,99],f.name,[40]]++ej f.args++[[41]]++df f.body=ds.flatMap eL++(fs.take (j+1)).flatMap wFn:=by
      rw [hwn,<- aaD,hwj];simp [wFn,fW]
     have e2:orR pj (bR (fs.take j)) (f.body.sz+1)=orR P00 0 (bR (fs.take (j+1))):=by
      have:=m4 P00 0 (bR (fs.take j)) (f.body.sz+1);rw [aaF,hpj] at this;rw [this,hsn]
     unfold wrN at h4;rw [hNS,e,e2] at h4;clear hea e e2 hwn
     repeat' first|refine aw ?_|refine bw (fun _=>?_) fun _=>?_
     refine aJ ?_
     repeat' first|refine aw ?_|refine bw (fun _=>?_) fun _=>?_
     refine ad 6 [3,2,4] h3 ?_
     repeat' first|refine aw ?_|refine bw (fun _=>?_) fun _=>?_
     refine ad 6 [3,2,4] h4 ?_
     repeat' first|refine aw ?_|refine bw (fun _=>?_) fun _=>?_
     exact cn (j+1) (by omega) (by show _<_;omega) (by exact Uw.wW)
   ·have hj0:j=fs.length:=by omega
    subst hj0;have hnlt:¬fs.length<F.length:=by omega
    have hjn:=Gq (ds.flatMap eL++fs.flatMap wFn) false (by rw [aaw];omega) hj;rw [aaK];clear hef;generalize dw [] (ds.flatMap eL++fs.flatMap wFn)=TX at *;generalize orR P00 0 (bR fs)=pj at *;generalize ds.flatMap eL++fs.flatMap wFn=w2 at *;have e:List.take (cP w2).length (List.drop 0 (cP w2))=cP w2:=by simp
    rw [<- e] at hjn;clear e
    repeat' first|refine aw ?_|refine bw (fun _=>?_) fun _=>?_
    refine aJ ?_
    repeat' first|refine aw ?_|refine bw (fun _=>?_) fun _=>?_
    refine aS ⟨_,.inl rfl,.inr ⟨none,cz,[],[.ptr 1 0],.inl ⟨.inr rfl,rfl⟩,rfl,?_⟩⟩;refine Ao.mono (UB _ _) ?_;rintro h' nx' ⟨rfl,rfl⟩;exact ⟨[.d (.str TX)],_,rfl,rfl,rfl,rfl⟩
end Uw.Tryz
namespace Uw.Tryz
open Go Uw
structure Small (p:Pg):Prop where
 decls:p.decls.length<1000000
 ag:p.ag.length<1000000
 nodes:p.nodes.length<1000000
 args:∀f∈p.ag,f.args.length<1000000
 of:∀x∈p.nodes,x.of.length<1000000
end Uw.Tryz
namespace Uw.Tryz
open Go Uw
theorem yW:∀(n:Nat) {r r' : List Tok} {l:List Str},cq n r = .ok l r'->r'.length+l.length<=r.length
 | 0,_,_,_,h=>by rw [cq] at h;cases h
 | n+1,r,r',l,h=>by
  rw [cq] at h
  split at h
  ·rename_i hh
   obtain ⟨s,r1,h1,h⟩:=bind_ok.1 h;obtain ⟨q,r2,h2,h⟩:=bind_ok.1 h;injection h with e1 e2
   subst e1 e2;have:=(Suf.hd hh (by simp)).len;have:=(Suf.name h1).len;have:=yW n h2;simp only [aaA];omega
  ·obtain ⟨_,r1,h1,h⟩:=bind_ok.1 h
   injection h with e1 e2
   subst e1 e2;have:=(Suf.want (by simp) h1).len;simp only [aa3];omega
theorem NC {n:Nat} {r r' : List Tok} {l:List Str} (h:je n r = .ok l r'):r'.length+l.length<=r.length:=by
 rw [je] at h;obtain ⟨_,r1,h1,h⟩:=bind_ok.1 h;have:=(Suf.want (by simp) h1).len
 split at h
 ·injection h with e1 e2
  subst e1 e2;simp;omega
 ·obtain ⟨s,r2,h2,h⟩:=bind_ok.1 h
  obtain ⟨q,r3,h3,h⟩:=bind_ok.1 h;injection h with e1 e2
  subst e1 e2;have:=(Suf.name h2).len;have:=yW n h3;simp only [aaA];omega
theorem QU {n:Nat} {r r' : List Tok} {f:Fn} (h:lZ n r = .ok f r'):r'.length+f.args.length+f.sz+1<=r.length:=by
 rw [lZ] at h;obtain ⟨_,r1,h1,h⟩:=bind_ok.1 h;obtain ⟨s,r2,h2,h⟩:=bind_ok.1 h;obtain ⟨l,r3,h3,h⟩:=bind_ok.1 h;obtain ⟨b,r4,h4,h⟩:=bind_ok.1 h;injection h with e1 e2
 subst e1 e2;have:=(Suf.want (by decide) h1).len;have:=(Suf.name h2).len;have:=NC h3;have:=((oV n).block _ _ _ h4).len;show r4.length+l.length+(b.sz+1)+1<=_;omega
theorem mV.len {r:List Tok} {fs:List Fn} (h:mV r fs):fs.length+bR fs<=r.length/\∀f∈fs,f.args.length<=r.length:=by
 induction h with
 | nil=>simp [bR]
 | cons h _ ih=>
  obtain ⟨n,h⟩:=h;have h1:=QU h;obtain ⟨i1,i2⟩:=ih;refine ⟨by simp only [aaA,bR];omega,fun f hf=>?_⟩
  rcases aaN.1 hf with rfl|hf
  ·omega
  ·have:=i2 f hf;omega
theorem Prg.len {l:List Tok} {ds:List Dec} {fs:List Fn} (h:Prg l ds fs):ds.length+fs.length+bR fs<=l.length/\∀f∈fs,f.args.length<=l.length:=by
 obtain ⟨r,h1,h2⟩:=h;have:=h1.len;obtain ⟨i1,i2⟩:=h2.len;exact ⟨by omega,fun f hf=>by have:=i2 f hf;omega⟩
structure Bnd (p:Pg):Prop where
 body:∀f∈p.ag,0<=f.body/\f.body<p.nodes.length
 of:∀(j:Nat) (h:j<p.nodes.length),∀c∈p.nodes[j].of,0<=c/\c<j
end Uw.Tryz
namespace Uw.Tryz
open Go Uw
def IL (k:Int):Int:=if 1<=k/\k<=8 then 1 else if 9<=k/\k<=17 then 2 else if k=18 then 3 else 0
def lg (ns:List Nd) (i:Int):Int:=(ns.getD i.toNat default).kind
def dO (ns:List Nd) (x:Nd):List Int:=x.of.map fun k=>IL (lg ns k)
def ru (k n:Int) (so:List Int) (k0:Int):Bool:=
 if k=1 then decide (so=[])&&decide (0<=n)&&decide (n<4294967296)
 else if k=2\/k=12 then decide (so=[])
 else if k=3\/k=4\/k=5\/k=6\/k=7\/k=11 then decide (so=[1,1])
 else if k=8\/k=10 then so.all fun s=>decide (s=1)
 else if k=9\/k=15\/k=16 then decide (so=[1])
 else if k=17 then decide (so=[1])&&decide (k0=8)
 else if k=13 then decide (so=[1,3])||decide (so=[1,3,3])
 else if k=14 then decide (so=[1,3])
 else if k=18 then so.all fun s=>decide (s=2)
 else false
def fS (ns:List Nd) (x:Nd):Bool:=ru x.kind x.n (dO ns x) (lg ns (x.of.headD 0))
def tm (ns:List Nd) (i:Nat) (x:Nd):Bool:=(x.of.all fun k=>decide (0<=k)&&decide (k<i))&&fS ns x
def km (ns:List Nd):Nat->List Nd->Bool
 | _,[]=>true
 | i,x::r=>tm ns i x&&km ns (i+1) r
def ou (ns:List Nd) (f:Fu):Bool:=decide (0<=f.body)&&decide (f.body<ns.length)&&decide (lg ns f.body=18)
def jr (p:Pg):List Int:=(p.nodes.flatMap (·.of))++p.ag.map (·.body)
def bO (p:Pg):Bool:=km p.nodes 0 p.nodes&&p.ag.all (ou p.nodes)&&(List.range p.nodes.length).all fun k=>decide ((jr p).count (k:Int)=1)
def bY (p:Pg) (s:Str):Option Int:=(p.decls.find? fun d=>decide (d.name=s)).map (·.kind)
def eY (p:Pg) (s:Str):Option Nat:=p.ag.findIdx? fun f=>decide (f.name=s)
def tp:List Fu->Nat->List Int->List Int
 | [],_,o=>o
 | f::fs,i,o=>tp fs (i+1) (o.set f.body.toNat i)
def iW (o:List Int) (i:Nat) (x:Nd):List Int:=x.of.foldl (fun o k=>o.set k.toNat (o.getD i 0)) o
def gP:List (Nat×Nd)->List Int->List Int
 | [],o=>o
 | (i,x)::r,o=>gP r (iW o i x)
def idx {α:Type}:Nat->List α->List (Nat×α)
 | _,[]=>[]
 | i,x::r=>(i,x)::idx (i+1) r
def bD (p:Pg):List Int:=gP (idx 0 p.nodes).reverse (tp p.ag 0 (List.replicate p.nodes.length 0))
def rx (p:Pg) (x:Nd):Bool:=(decide (x.kind=9)||decide (x.kind=10)||decide (x.kind=11))&&!decide (x.name=[])&&(bY p x.name).isNone
def addLocal (ls:List (List Str)) (f:Nat) (s:Str):List (List Str):=if s∈ls.getD f [] then ls else ls.set f (ls.getD f []++[s])
def fF (p:Pg):List (Nd×Int)->List (List Str)->List (List Str)
 | [],ls=>ls
 | (x,o)::r,ls=>fF p r (if rx p x then addLocal ls o.toNat x.name else ls)
def ak (p:Pg):List (List Str):=fF p (p.nodes.zip (bD p)) (p.ag.map (·.args))
def kn (p:Pg) (f:Int):List Str:=if f<0\/(p.ag.length:Int)<=f\/bO p=false then [] else (ak p).getD f.toNat []
def QV:Str:=[103,101,116]
def QW:Str:=[100,101,108]
def QX:Str:=[112,117,116]
def IP:Str:=[112,117,115,104]
def QY:Str:=[112,111,112]
def IQ:Str:=[115,101,110,100]
def IR:Str:=[114,101,99,118]
def iJ:Str:=[109,97,105,110]
def ko (k:Int) (s:Str):Option Int:=
 if k=1 then (if s=QV\/s=QW then some 1 else if s=QX then some 2 else none)
 else if k=2 then (if s=IP then some 1 else if s=QY then some 0 else none)
 else if k=3 then (if s=IQ then some 1 else if s=IR then some 0 else none)
 else none
def iK (p:Pg):Bool:=
 decide (16<p.ag.length)||decide (16<(p.decls.countP fun d=>decide (d.kind=0)))||decide (8<(p.decls.countP fun d=>decide (d.kind=1)))||decide (8<(p.decls.countP fun d=>decide (d.kind=2)))||decide (8<(p.decls.countP fun d=>decide (d.kind=3)))
 ||((ak p).any fun l=>decide (16<l.length))||(p.nodes.any fun x=>decide (x.kind=10)&&decide (16<x.of.length))
def tr (p:Pg):List Str->List Str->Bool
 | _,[]=>false
 | seen,a::r=>(bY p a).isSome||decide (a∈seen)||tr p (a::seen) r
def jm (p:Pg):Bool:=!decide ((p.decls.map (·.name)).Nodup)||!decide ((p.ag.map (·.name)).Nodup)||(p.ag.any fun f=>tr p [] f.args)
def uV (p:Pg) (x:Nd) (o:Int):Bool:=
 if x.kind=10\/x.kind=11 then (eY p x.name2).isNone
 else if x.kind=8 then (bY p x.name).isNone
 else if x.kind=2 then (bY p x.name).isNone&&!decide (x.name∈(ak p).getD o.toNat [])
 else false
def nameP (p:Pg):Bool:=(eY p iJ).isNone||((p.nodes.zip (bD p)).any fun y=>uV p y.1 y.2)||(p.decls.any fun d=>decide (d.kind<0)||decide (3<d.kind))
def BH (p:Pg) (x:Nd):Bool:=
 if x.kind=2\/x.kind=9 then (match bY p x.name with|some k=>!decide (k=0)|none=>false)
 else if x.kind=10\/x.kind=11 then (bY p x.name).isSome
 else if x.kind=8 then (ko ((bY p x.name).getD 0) x.name2).isNone
 else false
def tt (p:Pg):Bool:=p.nodes.any (BH p)
def argsAt (p:Pg) (s:Str):Nat:=(p.ag.getD ((eY p s).getD 0) default).args.length
def manyN (p:Pg) (x:Nd):Bool:=
 if x.kind=10 then !decide (x.of.length=argsAt p x.name2)
 else if x.kind=11 then !decide (argsAt p x.name2=1)
 else if x.kind=8 then !decide ((x.of.length:Int)=(ko ((bY p x.name).getD 0) x.name2).getD 0)
 else false
def ov (p:Pg):Bool:=decide (0<argsAt p iJ)||p.nodes.any (manyN p)
def pT (p:Pg):Int:=if bO p=false then 1 else if iK p then 2 else if jm p then 5 else if nameP p then 4 else if tt p then 6 else if ov p then 7 else 0
end Uw.Tryz
namespace Uw.Tryz
open Go Uw
theorem Gu (k:Int):Ret P0 wR [I k] (I (IL k)):=by
 refine aU Dz rfl ?_
 repeat' first|refine aw ?_|refine bw (fun _=>?_) fun _=>?_
 all_goals refine aC rfl rfl rfl rfl ?_
 all_goals simp only [kB,IL]
 all_goals first|(rw [if_pos (by omega)];done)|(rw [if_neg (by omega),if_pos (by omega)];done)|(rw [if_neg (by omega),if_neg (by omega),if_pos (by omega)];done)|(rw [if_neg (by omega),if_neg (by omega),if_neg (by omega)];done)
theorem Gv {a b:List Int} {j:Nat} (ha:j<a.length) (hb:j<b.length) (h:a.take j=b.take j):a.take (j+1)=b.take (j+1)<->a[j]=b[j]:=by
 rw [aaz ha,aaz hb,h];constructor
 ·intro e;simpa using List.append_cancel_left e
 ·intro e;rw [e]
theorem xj (a b:List Int) (hs:a.length<1000000) (z z' : Bool):Ret P0 nV [.slice 1 (a.map fun i=>[I i]) z,.slice 1 (b.map fun i=>[I i]) z'] (.bool (decide (a=b))):=by
 have ha:(a.map fun i=>[I i]).length=a.length:=by simp
 have hb:(b.map fun i=>[I i]).length=b.length:=by simp
 by_cases hl:a.length=b.length
 rotate_left
 ·have:a≠b:=fun e=>hl (e ▸ rfl)
  rw [decide_eq_false this];refine aU eA rfl ?_
  repeat refine aw ?_
  exact aC rfl rfl rfl rfl rfl
 have hend:a.take a.length=b.take a.length->a=b:=fun e=>by rw [aaK,hl,aaK] at e;exact e
 have hbad:∀(j:Nat) (h1:j<a.length) (h2:j<b.length),¬a[j]=b[j]->decide (a=b)=false:=fun j h1 h2 h=>decide_eq_false fun e=>h (by subst e;rfl);refine aU eA rfl ?_
 repeat refine aw ?_
 refine du (fun j:Nat=>⟨[(13,.d (I j)),(12,.d (I (↑(List.map (fun i=>[I i]) a).length))),(0,.d (Dat.slice 1 (List.map (fun i=>[I i]) a) z)),(1,.d (Dat.slice 1 (List.map (fun i=>[I i]) b) z'))],[],0,[],0⟩)
  (fun j=>j<=a.length/\a.take j=b.take j) (fun j=>a.length - j) 0 (by exact Uw.wW) ⟨by omega,rfl⟩ ?_
 rintro j ⟨h1,h2⟩;refine KY (fun h3=>?_) (fun h3=>?_)
 ·have h4:j<b.length:=by omega
  have h6:=(Gv h3 h4 h2).2;have h7:=hbad j h3 h4;have e1:(a.map fun i=>[I i])[(j:Int).toNat]? = some [I a[j]]:=by simp [h3]
  have e2:(b.map fun i=>[I i])[(j:Int).toNat]? = some [I b[j]]:=by simp [h4]
  generalize a[j]=x at *;generalize b[j]=y at *;by_cases h5:x=y
  ·have h6:=h6 h5
   repeat refine aw ?_
   exact cn (j+1) ⟨by omega,h6⟩ (by omega) (by exact Uw.wW)
  ·rw [h7 h5]
   repeat refine aw ?_
   exact bV (aC rfl rfl rfl rfl rfl)
 ·rw [decide_eq_true (hend (by rw [<- show j=a.length by omega];exact h2))]
  repeat refine aw ?_
  refine aJ ?_
  repeat refine aw ?_
  exact aC rfl rfl rfl rfl rfl
def Row1 (x:Dat) (a:List Int):Prop:=(x = .nil/\a=[])\/∃z,x = .slice 1 (a.map fun i=>[I i]) z
theorem BI (x y:Dat) (a b:List Int) (hs:a.length<1000000) (hx:Row1 x a) (hy:Row1 y b):Ret P0 nV [x,y] (.bool (decide (a=b))):=by
 rcases hx with ⟨rfl,rfl⟩|⟨z,rfl⟩<;>rcases hy with ⟨rfl,rfl⟩|⟨z',rfl⟩
 ·rw [decide_eq_true rfl]
  refine aU eA rfl ?_
  repeat refine aw ?_
  refine du (fun j:Nat=>⟨[(13,.d (I 0)),(12,.d (I 0)),(0,.d .nil),(1,.d .nil)],[],0,[],0⟩) (fun j=>j=0) (fun j=>0) 0 (by exact Uw.wW) rfl ?_;rintro j rfl
  repeat refine aw ?_
  refine aJ ?_
  repeat refine aw ?_
  exact aC rfl rfl rfl rfl rfl
 ·cases b with
  | nil=>
   rw [decide_eq_true rfl];refine aU eA rfl ?_
   repeat refine aw ?_
   refine du (fun j:Nat=>⟨[(13,.d (I 0)),(12,.d (I 0)),(0,.d .nil),(1,.d (.slice 1 [] z'))],[],0,[],0⟩) (fun j=>j=0) (fun j=>0) 0 (by exact Uw.wW) rfl ?_;rintro j rfl
   repeat refine aw ?_
   refine aJ ?_
   repeat refine aw ?_
   exact aC rfl rfl rfl rfl rfl
  | cons c b=>
   rw [decide_eq_false (by simp)];have hb:((c::b).map fun i=>[I i]).length=b.length+1:=by simp
   generalize (c::b).map (fun i=>[I i])=B at *;refine aU eA rfl ?_
   repeat refine aw ?_
   exact aC rfl rfl rfl rfl rfl
 ·cases a with
  | nil=>
   rw [decide_eq_true rfl];refine aU eA rfl ?_
   repeat refine aw ?_
   refine du (fun j:Nat=>⟨[(13,.d (I 0)),(12,.d (I 0)),(0,.d (.slice 1 [] z)),(1,.d .nil)],[],0,[],0⟩) (fun j=>j=0) (fun j=>0) 0 (by exact Uw.wW) rfl ?_;rintro j rfl
   repeat refine aw ?_
   refine aJ ?_
   repeat refine aw ?_
   exact aC rfl rfl rfl rfl rfl
  | cons c b=>
   rw [decide_eq_false (by simp)];have hb:((c::b).map fun i=>[I i]).length=b.length+1:=by simp
   generalize (c::b).map (fun i=>[I i])=B at *;refine aU eA rfl ?_
   repeat refine aw ?_
   exact aC rfl rfl rfl rfl rfl
 ·exact xj a b hs z z'
def ofB (a:List Int):List Blk:=[.var [.ref 1 0 0 a.length],.arr 1 (a.map fun i=>[I i])]
theorem IU (x:Dat) (a b:List Int) (hs:a.length<1000000) (hx:Row1 x b):aE P0 kU [.d x,.ptr 0 0] (ofB a) (.d (.bool (decide (a=b)))) (ofB a):=by
 have h1:=BI (.slice 1 (a.map fun i=>[I i]) false) x a b hs (.inr ⟨_,rfl⟩) hx;have ha:(List.drop 0 (a.map fun i=>[I i])).take a.length=a.map fun i=>[I i]:=by rw [aa9];exact aaG (by simp)
 rw [<- ha] at h1;refine ax wS rfl ?_
 repeat refine aw ?_
 exact aF 2 rfl rfl (by exact Uw.wW)
theorem IV (s:Int) (a:List Int) (hs:a.length<1000000):aE P0 kV [.d (I s),.ptr 0 0] (ofB a) (.d (.bool (a.all fun x=>decide (x=s)))) (ofB a):=by
 have ha:(a.map fun i=>[I i]).length=a.length:=by simp
 have hget:∀(j:Nat) (h:j<a.length),(a.map fun i=>[I i])[0+(j:Int).toNat]? = some [I a[j]]:=by intro j h;simp [h]
 have hall:(∀x∈a.take a.length,x=s)->(a.all fun x=>decide (x=s))=true:=by
  intro h;rw [aaK] at h;simpa using h
 have hnot:∀(j:Nat) (h:j<a.length),¬a[j]=s->(a.all fun x=>decide (x=s))=false:=by
  intro j h hn;rw [acy];intro he;exact hn (by simpa using aaS.1 he a[j] (aaQ h))
 have hsucc:∀(j:Nat) (h:j<a.length),(∀x∈a.take j,x=s)->a[j]=s->∀x∈a.take (j+1),x=s:=by
  intro j h h1 h2 x hx;rw [aaz h] at hx
  rcases aaZ.1 hx with hx|hx
  ·exact h1 x hx
  ·simp at hx;rw [hx];exact h2
 generalize (a.all fun x=>decide (x=s))=R at *;refine ax wT rfl ?_
 repeat refine aw ?_
 refine dK rb rfl ?_
 repeat refine aw ?_
 refine dK ut rfl ?_
 repeat refine aw ?_
 refine du (fun j:Nat=>⟨[(8,.d (I j)),(7,.d (I ↑a.length)),(0,.ref 1 0 0 a.length),(1,V.func nW [] [V.ptr 2 0])],[(2,.var [.d (I s)]),(1,.arr 1 (List.map (fun i=>[I i]) a)),(0,.var [.ref 1 0 0 a.length])],3,[],3⟩)
  (fun j=>j<=a.length/\∀x∈a.take j,x=s) (fun j=>a.length - j) 0 (by exact Uw.wW) ⟨by omega,by simp⟩ ?_
 rintro j ⟨h1,h2⟩;by_cases h3:j<a.length
 ·have e1:=hget j h3
  have h4:=hnot j h3;have h5:=hsucc j h3 h2;generalize a[j]=x at *;by_cases h6:x=s
  ·have h7:=h5 h6
   repeat refine aw ?_
   refine dK mE rfl ?_
   repeat refine aw ?_
   refine ef rfl rfl ?_
   repeat refine aw ?_
   exact cn (j+1) ⟨by omega,h7⟩ (by omega) (by exact Uw.wW)
  ·have h8:R=(!decide ((0:Int)<=(j:Int))):=by rw [h4 h6];simp
   rw [h8]
   repeat refine aw ?_
   refine dK mE rfl ?_
   repeat refine aw ?_
   refine ef rfl rfl ?_
   repeat refine aw ?_
   refine bV (ef rfl rfl ?_)
   repeat refine aw ?_
   refine ef rfl rfl ?_
   repeat refine aw ?_
   exact aF 2 rfl rfl (by exact Uw.wW)
 ·rw [hall (by rw [<- show j=a.length by omega];exact h2)]
  repeat refine aw ?_
  refine aJ ?_
  repeat refine aw ?_
  refine ef rfl rfl ?_
  repeat refine aw ?_
  refine ef rfl rfl ?_
  repeat refine aw ?_
  exact aF 2 rfl rfl (by exact Uw.wW)
end Uw.Tryz
namespace Uw.Tryz
open Go Uw
def cv (ns:List Nd):Dat:=.slice 5 (ns.map ndL) false
theorem gq (ns:List Nd) (x:Nd):(dO ns x).length=x.of.length:=by simp [dO]
theorem ND (ns:List Nd) (x:Nd) (hk:∀k∈x.of,0<=k/\k<ns.length):∃A:Nat->List (List Dat),A 0=[]/\
  (∀(j:Nat) (h:j<x.of.length),∃(k:Int) (y:Nd),(x.of.map fun i=>[I i])[(j:Int).toNat]? = some [I k]/\0<=k/\k<ns.length/\(ns.map ndL)[k.toNat]? = some (ndL y)/\A j++[[I (IL y.kind)]]=A (j+1)/\(A j).length=j)/\
  A x.of.length=(dO ns x).map fun i=>[I i]:=by
 refine ⟨fun j=>((dO ns x).take j).map fun i=>[I i],rfl,fun j h=>?_,by dsimp only;rw [<- gq ns x,aaK]⟩;obtain ⟨h1,h2⟩:=hk x.of[j] (aaQ h);have h3:x.of[j].toNat<ns.length:=by omega
 refine ⟨x.of[j],ns[x.of[j].toNat],by simp [h],h1,h2,by simp [h3],?_,by simp [gq];omega⟩;have h4:j<(dO ns x).length:=by rw [gq];exact h
 dsimp only;rw [aaz h4,abn];simp [dO,lg,List.getD,h3]
theorem BJ (ns:List Nd) (x:Nd) (hk:∀k∈x.of,0<=k/\k<ns.length) (hl:x.of.length<1000000):Ret P0 nU [cv ns,.agg (ndL x)] (.bool (fS ns x)):=by
 have hoE:bN x.of = .slice 1 (x.of.map fun i=>[I i]) false:=rfl;have ho:(x.of.map fun i=>[I i]).length=x.of.length:=by simp
 have hnl:(ns.map ndL).length=ns.length:=by simp
 obtain ⟨A,hA0,hA1,hA2⟩:=ND ns x hk;have IW:∀(d:Dat) (b:List Int),Row1 d b->aE P0 kU [.d d,.ptr 0 0] [.var [.ref 1 0 0 x.of.length],.arr 1 (A x.of.length)] (.d (.bool (decide (dO ns x=b)))) [.var [.ref 1 0 0 x.of.length],.arr 1 (A x.of.length)]:=by
  intro d b h;have:=IU d (dO ns x) b (by rw [gq];exact hl) h;rw [ofB,gq,<- hA2] at this;exact this
 have hall:∀(s:Int),aE P0 kV [.d (I s),.ptr 0 0] [.var [.ref 1 0 0 x.of.length],.arr 1 (A x.of.length)] (.d (.bool ((dO ns x).all fun x=>decide (x=s)))) [.var [.ref 1 0 0 x.of.length],.arr 1 (A x.of.length)]:=by
  intro s;have:=IV s (dO ns x) (by rw [gq];exact hl);rw [ofB,gq,<- hA2] at this;exact this
 have hsort:=Gu;have hR:fS ns x=ru x.kind x.n (dO ns x) (lg ns (x.of.headD 0)):=rfl;rw [hR];have h17:dO ns x=[1]->∃(k:Int) (y:Nd),(x.of.map fun i=>[I i])[(0:Int).toNat]? = some [I k]/\0<=k/\k<ns.length/\0<x.of.length/\(ns.map ndL)[k.toNat]? = some (ndL y)/\lg ns (x.of.headD 0)=y.kind:=by
  intro h;have hlen:=gq ns x;rw [h] at hlen
  cases hof:x.of with
  | nil=>rw [hof] at hlen;cases hlen
  | cons k r=>
   obtain ⟨h1,h2⟩:=hk k (by rw [hof];simp);have h3:k.toNat<ns.length:=by omega
   exact ⟨k,ns[k.toNat],rfl,h1,h2,by simp,by simp [h3],by simp [lg,List.getD,h3]⟩
 have h17:∃(k:Int) (y:Nd),dO ns x=[1]->((x.of.map fun i=>[I i])[(0:Int).toNat]? = some [I k]/\0<=k/\k<ns.length/\0<x.of.length/\(ns.map ndL)[k.toNat]? = some (ndL y)/\lg ns (x.of.headD 0)=y.kind):=by
  by_cases h:dO ns x=[1]
  ·obtain ⟨k,y,h⟩:=h17 h
   exact ⟨k,y,fun _=>h⟩
  ·exact ⟨0,default,fun e=>absurd e h⟩
 obtain ⟨k7,y7,h17⟩:=h17;generalize dO ns x=so at *;generalize lg ns (x.of.headD 0)=k0 at *;obtain ⟨kind,n,name,name2,of⟩:=x;simp only at *;clear hk hR hA2;show Ret P0 nU [cv ns,.agg [I kind,I n,.str name,.str name2,.slice 1 (of.map fun i=>[I i]) false]] _;clear hoE;generalize of.length=L at *;generalize (of.map fun i=>[I i])=O at *;refine aU zl rfl ?_
 repeat refine aw ?_
 refine du (fun j:Nat=>⟨[(13,.d (I j)),(12,.d (I (O.length))),(11,.d (.slice 1 O false)),(5,.ptr 1 0),(3,.ptr 0 0),(0,.d (cv ns))],[(2,.arr 1 (A j)),(1,.var [.ref 2 0 0 j]),(0,.var [.d (I kind),.d (I n),.d (.str name),.d (.str name2),.d (.slice 1 O false)])],3,[],0⟩)
  (fun j=>j<=L) (fun j=>L - j) 0 (by rw [hA0];exact Uw.wW) (by omega) ?_
 intro j hj;by_cases h1:j<L
 ·obtain ⟨k,y,e1,h2,h3,e2,e3,e4⟩:=hA1 j h1
  have hs:=hsort y.kind;have h8:(decide (j=(A j).length)&&decide ((j+((List.replicate 1 [Dat.int IntKind.i64 0]).set 0 [I (IL y.kind)]).length) * 8<=70368744177664))=true:=by simp [e4];omega
  repeat refine aw ?_
  exact cn (j+1) (by omega) (by omega) (by exact Uw.wW)
 ·obtain rfl:j=L:=by omega
  repeat refine aw ?_
  refine aJ ?_
  repeat' first|refine aw ?_|refine bw (fun _=>?_) fun _=>?_
  ·rename_i h
   refine ad 3 [1,2] (IW .nil [] (.inl ⟨rfl,rfl⟩)) ?_;subst h
   repeat' first|refine aw ?_|refine bw (fun _=>?_) fun _=>?_
   all_goals refine aC rfl rfl rfl rfl ?_
   all_goals first|(simp_all [ru,kB];done)|(simp_all [ru,kB];omega)
  iterate 2
   ·rename_i h
    refine ad 3 [1,2] (IW .nil [] (.inl ⟨rfl,rfl⟩)) ?_
    repeat refine aw ?_
    refine aC rfl rfl rfl rfl ?_;subst h;rfl
  iterate 6
   ·rename_i h
    refine ad 3 [1,2] (IW _ [1,1] (.inr ⟨true,rfl⟩)) ?_
    repeat refine aw ?_
    refine aC rfl rfl rfl rfl ?_;subst h;rfl
  iterate 2
   ·rename_i h
    refine ad 3 [1,2] (hall 1) ?_
    repeat refine aw ?_
    refine aC rfl rfl rfl rfl ?_;subst h;rfl
  iterate 3
   ·rename_i h
    refine ad 3 [1,2] (IW _ [1] (.inr ⟨true,rfl⟩)) ?_
    repeat refine aw ?_
    refine aC rfl rfl rfl rfl ?_;subst h;rfl
  ·rename_i h
   refine ad 3 [1,2] (IW _ [1] (.inr ⟨true,rfl⟩)) ?_;by_cases h5:so=[1]
   ·have e1:=(h17 h5).1
    have e2:=(h17 h5).2.1;have e3:=(h17 h5).2.2.1;have e4:=(h17 h5).2.2.2.1;have e5:=(h17 h5).2.2.2.2.1;have e6:=(h17 h5).2.2.2.2.2
    repeat refine aw ?_
    refine aC rfl rfl rfl rfl ?_;rw [h,h5,e6];rfl
   ·repeat refine aw ?_
    refine aC rfl rfl rfl rfl ?_;rw [h];show Dat.bool false=Dat.bool (decide (so=[1])&&_);rw [decide_eq_false h5];rfl
  ·rename_i h
   refine ad 3 [1,2] (IW _ [1,3] (.inr ⟨true,rfl⟩)) ?_;by_cases h5:so=[1,3]
   ·repeat refine aw ?_
    refine aC rfl rfl rfl rfl ?_;rw [h];show Dat.bool true=Dat.bool (decide (so=[1,3])||_);rw [decide_eq_true h5];rfl
   ·repeat refine aw ?_
    refine ad 3 [1,2] (IW _ [1,3,3] (.inr ⟨true,rfl⟩)) ?_
    repeat refine aw ?_
    refine aC rfl rfl rfl rfl ?_;rw [h];show Dat.bool (decide (so=[1,3,3]))=Dat.bool (decide (so=[1,3])||_);rw [decide_eq_false h5];rfl
  ·rename_i h
   refine ad 3 [1,2] (IW _ [1,3] (.inr ⟨true,rfl⟩)) ?_
   repeat refine aw ?_
   refine aC rfl rfl rfl rfl ?_;subst h;rfl
  ·rename_i h
   refine ad 3 [1,2] (hall 2) ?_
   repeat refine aw ?_
   refine aC rfl rfl rfl rfl ?_;subst h;rfl
  ·refine aC rfl rfl rfl rfl ?_
   show Dat.bool false=_;rw [ru,if_neg (by omega),if_neg (by omega),if_neg (by omega),if_neg (by omega),if_neg (by omega),if_neg (by omega),if_neg (by omega),if_neg (by omega),if_neg (by omega)]
end Uw.Tryz
