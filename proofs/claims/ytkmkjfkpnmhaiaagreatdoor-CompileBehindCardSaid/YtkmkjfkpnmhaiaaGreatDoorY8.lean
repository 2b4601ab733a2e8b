/- Y8: Ha Cn Co Cp Cq Cr Cs Ct Cu Cv Cw Cx Fc Hb Pb Pc Pd Pe Pf Pg Ph Pi (merged by merge2.py from the working texts). -/
import Derived.Test.YtkmkjfkpnmhaiaaGreatDoorY7
import Derived.Test.YtkmkjfkpnmhaiaaGreatDoorY5
import Derived.Test.YtkmkjfkpnmhaiaaGreatDoorY6
import Derived.Test.YtkmkjfkpnmhaiaaGreatDoorY4
set_option maxRecDepth 20000
set_option maxHeartbeats 4000000
set_option linter.unusedSimpArgs false
set_option linter.unnecessarySimpa false
set_option linter.unusedVariables false
set_option linter.unusedSectionVars false
namespace Uw.Tryz
open Go Uw
abbrev r17:In4:=⟨17,0,0,0⟩
abbrev p01:In4:=⟨1,0,0,0⟩
end Uw.Tryz
namespace Uw.Tryz
open Go Uw
theorem px {ρ:Nat->Nat}:∀(a b:List V),fx ρ (a++b)=fx ρ a++fx ρ b
 | [],b=>rfl
 | v::a,b=>by rw [Xv,fx,px a,fx,Xv]
theorem na {ρ:Nat->Nat} (x:Dat):∀r,fx ρ (List.replicate r (.d x))=List.replicate r (.d x)
 | 0=>rfl
 | r+1=>by rw [Zd,fx,na x r];rfl
theorem sO {ρ:Nat->Nat} (rid:Nat->Nat):∀(ls:List (List Str)) (i:Nat),fx ρ (cf rid i ls)=cf (fun k=>ρ (rid k)) i ls
 | [],i=>rfl
 | l::ls,i=>by
  rw [cf,fx,sO rid ls,cf]
  congr 1
  split<;>rfl
theorem sP {ρ:Nat->Nat} (mid:Nat->Nat):∀(n i:Nat),fx ρ (bQ mid i n)=bQ (fun k=>ρ (mid k)) i n
 | 0,i=>rfl
 | n+1,i=>by rw [bQ,fx,sP mid n,bQ];rfl
theorem Es {α:Type} (xs:List α) (d v:α) (r:Nat):(xs++List.replicate (r+1) d).set xs.length v=xs++[v]++List.replicate r d:=by
 rw [List.set_append_right _ _ (Xn _),ZA,Zd,Zk,XH];rfl
theorem Et {ρ:Nat->Nat} {h h' : Heap}:∀{a a' b b' : List V},VWL ρ h h' a a'->VWL ρ h h' b b'->VWL ρ h h' (a++b) (a'++b')
 | [],[],_,_,_,h2=>h2
 | v::a,v'::a',_,_,h1,h2=>⟨h1.1,Et h1.2 h2⟩
 | [],_::_,_,_,h1,_=>h1.elim
 | _::_,[],_,_,h1,_=>h1.elim
def lk (j a b:Nat) (id:Nat):Nat:=if id=rid j then a else if id=mid j then b else id
def Over (fam H:Heap):Prop:=∀id,4<=id->id<1000000->look H id=look fam id
theorem bq {fam:Heap}:Over fam fam:=fun _ _ _=>rfl
theorem br {fam H:Heap} {i:Nat} {b:Blk} (h:Over fam H) (hi:(Nat.blt i 4||Nat.ble 1000000 i)=true):Over fam ((i,b)::H):=fun id h1 h2=>by
 rw [ai,if_neg]
 ·exact h id h1 h2
 ·rintro rfl
  rw [X6] at hi
  rcases hi with hi|hi
  ·rw [Nat.blt_eq] at hi;omega
  ·have:=XI hi;omega
theorem Eu {p:Pg} {ls:List (List Str)} {ms:List MS} {l:List Str} {m:MS} {R R' : fk} {H:Heap} {r r' n a b:Nat} {v0:V} {rv' mv' : List V} (hms:ms.length=ls.length) (hl:ls.length<99999) (ha:1000000<=a) (hb:1000000<=b) (hab:a≠b)
  (h1:od (lk ls.length a b) R H (loH p (cf rid 0 (ls++[l])++List.replicate r (.d .nil)) (bQ mid 0 (ls.length+1)++List.replicate r' (.d .aV)) (cF (ls++[l]) (ms++[m]))) R')
  (e2:look H 2=some (.var rv')) (hrv:rv' = cf rid 0 ls++[v0]++List.replicate r (.d .nil)) (hv0:v0=(if l=[] then V.d (.slice 1 [] true) else .ref a 0 0 l.length)\/(l=[]/\v0 = .d .nil)) (e3:look H 3=some (.var mv')) (hmv:mv' = bQ mid 0 ls.length++[.hnd b]++List.replicate r' (.d .aV))
  (e1:look H 1=some (.map none (thE p.decls))) (e0:look H 0=some (pgV p)) (ea:l≠[]->look H a=some (.arr 1 (rowT l))) (eb:look H b=some (.map none m))
  (ho:Over (cF ls ms) H) :
  Weak ⟨R,H,n,[],0⟩ ⟨R',loH p (cf rid 0 (ls++[l])++List.replicate r (.d .nil)) (bQ mid 0 (ls.length+1)++List.replicate r' (.d .aV)) (cF (ls++[l]) (ms++[m])),1000000,[],0⟩:=by
 subst hrv hmv;have hf:∀id x,look (cF ls ms) id=some x->look H id=some x:=fun id x h=>by
  have:=fu h;rw [ho id this.1 (by omega)];exact h
 have hr:∀k,k<ls.length->lk ls.length a b (rid k)=rid k:=fun k hk=>by
  unfold lk;rw [if_neg (by simp only [rid];omega),if_neg (by simp only [rid,mid];omega)]
 have hm:∀k,k<ls.length->lk ls.length a b (mid k)=mid k:=fun k hk=>by
  unfold lk;rw [if_neg (by simp only [rid,mid];omega),if_neg (by simp only [mid];omega)]
 have hrj:lk ls.length a b (rid ls.length)=a:=by unfold lk;rw [if_pos rfl]
 have hmj:lk ls.length a b (mid ls.length)=b:=by unfold lk;rw [if_neg (by simp only [rid,mid];omega),if_pos rfl]
 have hlow:∀k,k<4->lk ls.length a b k=k:=fun k hk=>by unfold lk;rw [if_neg (by simp only [rid];omega),if_neg (by simp only [mid];omega)]
 have hlen:(ls++[l]).length=ls.length+1:=by simp
 refine Weak.Ny (lk ls.length a b) h1 ?_ ?_
 ·intro id x hx
  rcases sN hx with ⟨rfl,rfl⟩|⟨rfl,rfl⟩|⟨rfl,rfl⟩|⟨rfl,rfl⟩|hx
  ·refine ⟨⟨_,by rw [hlow 2 (by omega)];exact e2,?_⟩,by omega⟩
   have hcl:=nW (p:=p) (ls:=ls++[l]) (ms:=ms++[m]) (rv:=cf rid 0 (ls++[l])++List.replicate r (.d .nil)) (mv:=bQ mid 0 (ls.length+1)++List.replicate r' (.d .aV)) (r:=r) (by simp [hms]);have hc:cf (fun k=>lk ls.length a b (rid k)) 0 ls=cf rid 0 ls:=xY ls 0 fun k l' hk _=>by
    have hkl:k<ls.length:=by
     rcases XR k ls.length with h|h
     ·exact h
     ·rw [Xz h] at hk;cases hk
    simp only [Xy];exact hr k hkl
   have U8:fx (lk ls.length a b) (cf rid 0 (ls++[l])++List.replicate r (.d .nil))=cf rid 0 ls++[if l=[] then V.d (.slice 1 [] true) else .ref a 0 0 l.length]++List.replicate r (.d .nil):=by
    rw [px,na,sO,uD,hc];simp only [Xy];rw [hrj]
   rcases hv0 with rfl|⟨rfl,rfl⟩
   ·show VWL _ _ _ _ _
    rw [<- U8];exact sx hcl
   ·have h3:=sx (ρ:=lk ls.length a b) (h:=H) hcl
    rw [U8] at h3;show VWL _ _ _ (cf rid 0 ls++[V.d .nil]++List.replicate r (.d .nil)) (cf rid 0 (ls++[[]])++List.replicate r (.d .nil));rw [uD] at hcl ⊢;rw [if_pos rfl] at hcl ⊢;rw [dF] at hcl;refine Et (Et ?_ ⟨.inr (.inr (.inr (.inr (.inr ⟨rfl,1,true,rfl⟩)))),trivial⟩) ?_
    ·have:=sx (ρ:=lk ls.length a b) (h:=H) (cs:=cf rid 0 ls) (dF.2 fun v hv=>hcl v (by simp [hv]))
     rw [sO,hc] at this;exact this
    ·have:=sx (ρ:=lk ls.length a b) (h:=H) (cs:=List.replicate r (V.d .nil)) (dF.2 fun v hv=>hcl v (by simp [YE] at hv ⊢;exact .inr (.inr hv)))
     rw [na] at this;exact this
  ·refine ⟨⟨_,by rw [hlow 3 (by omega)];exact e3,dL ?_ ?_⟩,by omega⟩
   ·show _=Blk.var (fx _ _)
    have hc:bQ (fun k=>lk ls.length a b (mid k)) 0 ls.length=bQ mid 0 ls.length:=nV ls.length 0 fun k hk=>by simp only [Xy];exact hm k hk
    rw [px,na,sP,uE,hc];simp only [Xy];rw [hmj]
   ·show cB _ _=true
    exact nX (by simp [hms]) (by simp)
  ·exact ⟨⟨_,by rw [hlow 1 (by omega)];exact e1,dL rfl rfl⟩,by omega⟩
  ·exact ⟨⟨_,by rw [hlow 0 (by omega)];exact e0,dL rfl rfl⟩,by omega⟩
  ·obtain ⟨g1,g2,g3,g4⟩:=fu hx
   refine ⟨⟨x,?_,dL (g4 _).symm (g3 _)⟩,by rw [hlen] at g2;omega⟩
   rcases vY hx with ⟨k,m',k1,k2,k3,rfl,rfl⟩|⟨k,l',k1,k2,k3,k4,rfl,rfl⟩
   ·rw [Xy]
    by_cases hk:k<ls.length
    ·rw [hm k hk]
     refine hf _ _ ?_;have:=qn (xe ls.length) (ls:=ls) (ms:=ms) (i:=0) (k:=k) (m:=m') (by omega) hk (by rwa [XM (by omega)] at k3)
     rwa [Xy] at this
    ·rw [hlen] at k1
     obtain rfl:k=ls.length:=by omega
     rw [XV (by omega),hms,ZA] at k3;injection k3 with k3
     rw [hmj,<- k3];exact eb
   ·rw [Xy]
    by_cases hk:k<ls.length
    ·rw [hr k hk]
     refine hf _ _ ?_;have:=vZ (xe ls.length) (ls:=ls) (ms:=ms) (i:=0) (k:=k) (l:=l') (by omega) (by omega) (by rwa [XM hk] at k3) k4
     rwa [Xy] at this
    ·rw [hlen] at k1
     obtain rfl:k=ls.length:=by omega
     rw [XV (by omega),ZA] at k3;injection k3 with k3
     rw [hrj];rw [<- k3] at k4 ⊢;exact ea k4
 ·intro id id' h h' he
  have bd:∀i,(look (loH p (cf rid 0 (ls++[l])++List.replicate r (.d .nil)) (bQ mid 0 (ls.length+1)++List.replicate r' (.d .aV)) (cF (ls++[l]) (ms++[m]))) i).isSome=true->i<1000000:=by
   intro i hi;obtain ⟨x,hx⟩:=Zg.1 hi
   rcases sN hx with ⟨rfl,rfl⟩|⟨rfl,rfl⟩|⟨rfl,rfl⟩|⟨rfl,rfl⟩|hx
   ·omega
   ·omega
   ·omega
   ·omega
   ·have:=(fu hx).2.1
    rw [hlen] at this;omega
  have b1:=bd id h;have b2:=bd id' h';unfold lk at he
  split at he
  ·split at he
   ·omega
   ·split at he<;>omega
  ·split at he
   ·split at he
    ·omega
    ·split at he<;>omega
   ·split at he
    ·omega
    ·split at he<;>omega
theorem Q9 {p:Pg} {ls:List (List Str)} {ms:List MS} {m m' : MS} {rows:List (List Dat)} {R R' : fk} {H:Heap} {r r' n k:Nat} {rv' mv' : List V} (hms:ms.length=ls.length) (hl:ls.length<99999) (hrv:rv' = cf rid 0 ls++[V.ref 1000001 0 0 k]++List.replicate r (.d .nil)) (hmv:mv' = bQ mid 0 ls.length++[.hnd 1000002]++List.replicate r' (.d .aV))
  (h1:od (c6 []) R H ((1000002,.map none m')::(1000001,.arr 1 rows)::loH p rv' mv' (cF ls ms)) R') (e2:look H 2=some (.var rv')) (e3:look H 3=some (.var mv')) (e1:look H 1=some (.map none (thE p.decls))) (e0:look H 0=some (pgV p)) (ea:look H 1000001=some (.arr 1 rows)) (eb:look H 1000002=some (.map none m)) (hm:m=m')
  (ho:Over (cF ls ms) H):Weak ⟨R,H,n,[],0⟩ ⟨R',(1000002,.map none m')::(1000001,.arr 1 rows)::loH p rv' mv' (cF ls ms),1000003,[],0⟩:=by
 subst hm;have hup:∀(v:V),v.closed (loH p rv' mv' (cF ls ms))=true->∀(i:Nat),(v = .hnd i\/∃o l w,v = .ref i o l w)\/(∃x,v = .d x)->v.closed ((1000002,.map none m)::(1000001,.arr 1 rows)::loH p rv' mv' (cF ls ms))=true:=by
  intro v hv i hi;have hlk:∀i,(look (loH p rv' mv' (cF ls ms)) i).isSome=true->(look ((1000002,.map none m)::(1000001,.arr 1 rows)::loH p rv' mv' (cF ls ms)) i).isSome=true:=by
   intro i h;rw [ai]
   split
   ·rfl
   ·rw [ai]
    split
    ·rfl
    ·exact h
  rcases hi with (rfl|⟨o,l,w,rfl⟩)|⟨x,rfl⟩
  ·exact hlk i hv
  ·exact hlk i hv
  ·rfl
 refine Weak.looks h1 ?_ (Yy _) (fun id h=>absurd h (YY _));intro id x hx;rw [ai] at hx;by_cases h2:1000002=id
 ·rw [if_pos h2] at hx;injection hx with hx;subst h2 hx;exact ⟨eb,rfl,by omega⟩
 rw [if_neg h2,ai] at hx;by_cases h3:1000001=id
 ·rw [if_pos h3] at hx;injection hx with hx;subst h3 hx;exact ⟨ea,rfl,by omega⟩
 rw [if_neg h3] at hx
 rcases sN hx with ⟨rfl,rfl⟩|⟨rfl,rfl⟩|⟨rfl,rfl⟩|⟨rfl,rfl⟩|hx
 ·refine ⟨e2,?_,by omega⟩
  show cB _ _=true;have hc:=nW (p:=p) (ls:=ls) (ms:=ms) (rv:=rv') (mv:=mv') (r:=r) hms;rw [dF] at hc ⊢;intro v hv;rw [hrv] at hv
  rcases XG.1 hv with hv|hv
  ·rcases XG.1 hv with hv|hv
   ·obtain ⟨q,hq⟩:=YM.1 hv
    have hql:q<ls.length:=by
     rcases XR q ls.length with h|h
     ·exact h
     ·rw [Xz (by rw [eu];exact h)] at hq;cases hq
    have hg:=j9 rid ls 0 q ls[q] (by simp [hql]);rw [hq] at hg;injection hg with hg
    refine hup v (hc v (Zr _ hv)) (rid (0+q)) ?_;rw [hg]
    split
    ·exact .inr ⟨_,rfl⟩
    ·exact .inl (.inr ⟨_,_,_,rfl⟩)
   ·simp at hv;subst hv;rfl
  ·exact hup v (hc v (YN _ hv)) 0 (.inr ⟨.nil,(YE.1 hv).2⟩)
 ·refine ⟨e3,?_,by omega⟩
  show cB _ _=true;have hc:=nX (p:=p) (ls:=ls) (ms:=ms) (rv:=rv') (mv:=mv') (r:=r') hms rfl;rw [dF] at hc ⊢;intro v hv;rw [hmv] at hv
  rcases XG.1 hv with hv|hv
  ·rcases XG.1 hv with hv|hv
   ·obtain ⟨q,hq⟩:=YM.1 hv
    have hql:q<ls.length:=by
     rcases XR q ls.length with h|h
     ·exact h
     ·rw [Xz (by rw [c8];exact h)] at hq;cases hq
    have hg:=ka mid ls.length 0 q hql;rw [hq] at hg;injection hg with hg
    exact hup v (hc v (Zr _ hv)) (mid (0+q)) (.inl (.inl hg))
   ·simp at hv;subst hv;rfl
  ·exact hup v (hc v (YN _ hv)) 0 (.inr ⟨.aV,(YE.1 hv).2⟩)
 ·exact ⟨e1,rfl,by omega⟩
 ·exact ⟨e0,rfl,by omega⟩
 ·obtain ⟨g1,g2,g3,_⟩:=fu hx
  exact ⟨by rw [ho id g1 (by omega)];exact hx,g3 _,by omega⟩
end Uw.Tryz
namespace Uw.Tryz
open Go Uw
abbrev nF (p:Pg):Nat:=(p.ag.map fuL).length
abbrev loR (p:Pg):fk:=[(6,.row 3 (nF p)),(5,.row 2 (nF p)),(4,.d (cG (aJ p))),(3,.hnd 1),(1,.ptr 0 0)]
abbrev cH (p:Pg):List (List Str):=p.ag.map (·.args)
abbrev gX (ls:List (List Str)) (r:Nat):List V:=cf rid 0 ls++List.replicate r (.d .nil)
abbrev jF (n r:Nat):List V:=bQ mid 0 n++List.replicate r (.d .aV)
abbrev Ik (p:Pg) (j:Nat):St:=⟨(31,.d (I j))::(30,.d (I ((p.ag.map fuL).length:Nat)))::(29,.d (.slice 3 (p.ag.map fuL) false))::loR p,loH p (gX ((cH p).take j) (nF p - j)) (jF j (nF p - j)) (cF ((cH p).take j) (((cH p).take j).map cj)),1000000,[],0⟩
theorem S0 (p:Pg) (hf:bC p=true) (hp:Lim p) (hn0:p.ag=[]):ak p=[]/\Ret P0 jz [pgD p] (.slice 1 [] true):=by
 have hth:=mY p hp.decls;have how:=mZ p hf hp;have hfl:(p.ag.map fuL).length=p.ag.length:=by simp
 have V6:(decide (((p.ag.map fuL).length:Int)=((p.ag.map fuL).length:Nat))&&decide ((0:Int)<=((p.ag.map fuL).length:Nat))&&decide ((((p.ag.map fuL).length:Nat):Int) * ((24:Nat):Int)<=70368744177664))=true:=by rw [hn0];rfl
 have V7:(decide (((p.ag.map fuL).length:Int)=((p.ag.map fuL).length:Nat))&&decide ((0:Int)<=((p.ag.map fuL).length:Nat))&&decide ((((p.ag.map fuL).length:Nat):Int) * ((8:Nat):Int)<=70368744177664))=true:=by rw [hn0];rfl
 have hf0:(p.ag.map fuL).length=0:=by rw [hn0];rfl
 have hns:p.nodes=[]:=by
  refine Classical.byContradiction fun hne=>?_;have hpos:0<p.nodes.length:=YS.2 hne;have:=zV hf _ 0 hpos (Xn _);rw [hn0] at this;simp at this;omega
 have hn1:(p.nodes.map ndL).length=0:=by rw [hns];rfl
 refine ⟨by rw [ak,hns,hn0];rfl,?_⟩;refine bf qI rfl ?_
 repeat refine aw ?_
 refine ae 1 [] hth ?_
 repeat (first|refine aw ?_|refine f1 ?_)
 refine fp 1 ?_
 repeat (first|refine aw ?_|refine f1 ?_)
 refine oU ?_
 repeat (first|refine aw ?_|refine f1 ?_)
 refine fp 1 ?_
 repeat (first|refine aw ?_|refine f1 ?_)
 refine oU ?_
 repeat (first|refine aw ?_|refine f1 ?_)
 exact aC rfl rfl rfl rfl rfl
theorem Jx (a:Nat) (x y:Blk) (rest:Heap) (i:Nat):look ((a,x)::rest) i=look ((a,x)::(a,y)::rest) i:=by
 rw [ai,ai,ai]
 split<;>rfl
theorem ep {st S S' : St} [Glob] (h:S=S') (hw:Weak st S'):Weak st S:=by rw [h];exact hw
theorem Ac {j a b k:Nat} (hk:k<4):lk j a b k=k:=by unfold lk;rw [if_neg (by simp only [rid];omega),if_neg (by simp only [mid];omega)]
theorem Jy {j a b k n:Nat} {h h' : Heap} (hk:k<4) (hc:(look h' k).isSome=true):VW (lk j a b) h h' (.row k n) (.row k n):=.inl ⟨by rw [V.ren,Ac hk],hc⟩
theorem P6 {j a b k:Nat} {h h' : Heap} (hk:k<4) (hc:(look h' k).isSome=true):VW (lk j a b) h h' (.hnd k) (.hnd k):=.inl ⟨by rw [V.ren,Ac hk],hc⟩
theorem P7 {j a b k o:Nat} {h h' : Heap} (hk:k<4) (hc:(look h' k).isSome=true):VW (lk j a b) h h' (.ptr k o) (.ptr k o):=.inl ⟨by rw [V.ren,Ac hk],hc⟩
theorem Ew {p:Pg} {j a b:Nat} {R:fk} {H:Heap} {rv mv:List V} {fam:Heap} (h6:look R 6=some (.row 3 (nF p))) (h5:look R 5=some (.row 2 (nF p))) (h4:look R 4=some (.d (cG (aJ p)))) (h3:look R 3=some (.hnd 1)) (h1:look R 1=some (.ptr 0 0)) :
  od (lk j a b) R H (loH p rv mv fam) (loR p):=
 ⟨⟨_,h6,Jy (by omega) rfl⟩,⟨_,h5,Jy (by omega) rfl⟩,⟨_,h4,.inl ⟨rfl,rfl⟩⟩,⟨_,h3,P6 (by omega) rfl⟩,⟨_,h1,P7 (by omega) rfl⟩,trivial⟩
def P8 (l:List Str):List Dat:=[if l=[] then .slice 1 [] true else .slice 1 (rowT l) false]
def qL:bT->bT
 | .seq x _=>x
 | .block _ x=>x
 | .loop x=>x
 | c=>c
def qR:bT->bT
 | .seq _ y=>y
 | c=>c
def V8:bT:=qL (qL (qR (qL (qR (qR (qR (qR (qR mK.code))))))))
theorem KJ (p:Pg) (hp:Lim p) (j:Nat) (hj:j<nF p) (hpre:∀i,i<j->True) {QQ:aB->St->Prop}:WT P0 (mE (Ik p) (A8 (nF p) fun _=>True) (forM (nF p)) j QQ) (exec V8 (Ik p j) Tree.done):=by
 have hfl:nF p=p.ag.length:=by simp
 have U9:(p.ag.map fuL).length=p.ag.length:=by simp
 have hF:=hp.ag;have hal:(cH p).length=p.ag.length:=by simp
 have hel:∀(j:Nat) (h:j<p.ag.length),(p.ag.map fuL)[(j:Int).toNat]? = some (fuL p.ag[j]):=by intro j h;simp [h]
 have hlt:∀j,j<=p.ag.length->((cH p).take j).length=j:=fun j h=>by rw [XW,hal];omega
 have hj2:j<p.ag.length:=by rw [<- hfl];exact hj
 have he:=hel j hj2;have hal2:(gX ((cH p).take j) (nF p - j)).length=nF p:=by rw [Xr,eu,hlt j (by omega),Yr];omega
 have V9:(jF j (nF p - j)).length=nF p:=by rw [Xr,c8,Yr];omega
 generalize hfe:p.ag[j]=f at *;obtain ⟨fn,fa,fb⟩:=f;have he:(p.ag.map fuL)[(j:Int).toNat]? = some [.str fn,fS fa,I fb]:=he;have hrl:(fa.map fun s=>[Dat.str s]).length=fa.length:=by simp
 have WI:fa.length<100000:=by have:=hp.args _ (XF hj2);rw [hfe] at this;exact this
 have hby:decide ((fa.map fun s=>[Dat.str s]).length * 16<=70368744177664)=true:=by simp;omega
 have hsr:∀v,(gX ((cH p).take j) (nF p - j)).set ((j:Int).toNat * 1) v=cf rid 0 ((cH p).take j)++[v]++List.replicate (nF p - (j+1)) (.d .nil):=fun v=>by
  have:=Es (cf rid 0 ((cH p).take j)) (V.d .nil) v (nF p - (j+1));rw [eu,hlt j (by omega),show nF p - (j+1)+1=nF p - j by omega] at this;rw [show (j:Int).toNat * 1=j by omega];exact this
 have hsm:∀v,(jF j (nF p - j)).set ((j:Int).toNat * 1) v=bQ mid 0 j++[v]++List.replicate (nF p - (j+1)) (.d .aV):=fun v=>by
  have:=Es (bQ mid 0 j) (V.d .aV) v (nF p - (j+1));rw [c8,show nF p - (j+1)+1=nF p - j by omega] at this;rw [show (j:Int).toNat * 1=j by omega];exact this
 have S3:∀v,(jF j (nF p - j)).set ((j:Int).toNat * 1) v=bQ mid 0 ((cH p).take j).length++[v]++List.replicate (nF p - (j+1)) (.d .aV):=fun v=>by rw [hsm,hlt j (by omega)]
 have htk:(cH p).take (j+1)=(cH p).take j++[fa]:=by
  rw [Xq (by rw [hal];exact hj2)];simp [cH,hfe]
 have hS:Ik p (j+1)=⟨(31,.d (I ((j+1:Nat):Int)))::(30,.d (I ((p.ag.map fuL).length:Nat)))::(29,.d (.slice 3 (p.ag.map fuL) false))::loR p,loH p (cf rid 0 ((cH p).take j++[fa])++List.replicate (nF p - (j+1)) (.d .nil)) (bQ mid 0 (((cH p).take j).length+1)++List.replicate (nF p - (j+1)) (.d .aV)) (cF ((cH p).take j++[fa]) (((cH p).take j).map cj++[cj fa])),1000000,[],0⟩:=by
  rw [Ik,htk,hlt j (by omega),Yc];rfl
 have hms:(((cH p).take j).map cj).length=((cH p).take j).length:=by simp
 have hl5:((cH p).take j).length<99999:=by rw [hlt j (by omega)];omega
 obtain ⟨E,hE⟩:∃E:Nat->MS,∀i,E i=cj (fa.take i):=⟨_,fun _=>rfl⟩
 have hE0:([]:MS)=E 0:=by rw [hE];rfl
 have hEn:E fa.length=cj fa:=by rw [hE,XE]
 have hEs:∀(i:Nat) (h:i<fa.length),dx (E i) (.s fa[i]) (.bool true)=E (i+1):=fun i h=>by rw [hE,hE,Xq h,qo]
 have hge:∀(i:Nat) (h:i<fa.length),(fa.map fun s=>[Dat.str s])[(i:Int).toNat]? = some [.str fa[i]]:=fun i h=>by simp [h]
 obtain ⟨rv',hrv⟩:∃rv',rv' = cf rid 0 ((cH p).take j)++[V.ref 1000001 0 0 fa.length]++List.replicate (nF p - (j+1)) (.d .nil):=⟨_,rfl⟩
 obtain ⟨mv',hmv⟩:∃mv',mv' = bQ mid 0 ((cH p).take j).length++[V.hnd 1000002]++List.replicate (nF p - (j+1)) (.d .aV):=⟨_,rfl⟩
 have hmg:mv'[(j:Int).toNat * 1]? = some (.hnd 1000002):=by
  rw [hmv,hlt j (by omega),XH,XV (by rw [c8];omega),c8];simp
 have Wa:(gX ((cH p).take j) (nF p - j)).set ((j:Int).toNat * 1) (V.ref 1000001 0 0 (fa.map fun s=>[Dat.str s]).length)=rv':=by rw [hsr,hrv,hrl]
 have NA:(jF j (nF p - j)).set ((j:Int).toNat * 1) (V.hnd 1000002)=mv':=by rw [S3,hmv]
 have Wb:mv'.length=nF p:=by rw [<- NA,Zj];exact V9
 by_cases hfa:fa=[]
 ·subst hfa
  have hemp:(([]:List Str).map fun s=>[Dat.str s]).isEmpty=true:=rfl
  repeat (first|refine aw ?_|refine f1 ?_)
  refine dr qO rfl ?_
  repeat (first|refine aw ?_|refine f1 ?_)
  refine IZ ?_ ?_
  ·repeat (first|refine aw ?_|refine f1 ?_)
   refine dJ rfl rfl ?_
   repeat (first|refine aw ?_|refine f1 ?_)
   refine fp 1 ?_;refine aw ?_;refine oU ?_
   repeat (first|refine aw ?_|refine f1 ?_)
   refine aK j trivial (ep hS ?_);exact Eu (a:=1000005) (b:=1000001) (v0:=.d .nil) hms hl5 (by omega) (by omega) (by omega) ⟨⟨_,rfl,cN rfl⟩,⟨_,rfl,.inl ⟨rfl,rfl⟩⟩,⟨_,rfl,.inl ⟨rfl,rfl⟩⟩,Ew rfl rfl rfl rfl rfl⟩ rfl (hsr _) (.inr ⟨rfl,rfl⟩) rfl (S3 _) rfl rfl (fun h=>absurd rfl h) rfl (by (repeat refine br ?_ rfl);exact bq)
  ·repeat (first|refine aw ?_|refine f1 ?_)
   refine dJ rfl rfl ?_
   repeat (first|refine aw ?_|refine f1 ?_)
   refine fp 1 ?_;refine aw ?_;refine oU ?_
   repeat (first|refine aw ?_|refine f1 ?_)
   refine aK j trivial (ep hS ?_);exact Eu (a:=1000005) (b:=1000001) (v0:=.d (.slice 1 [] true)) hms hl5 (by omega) (by omega) (by omega) ⟨⟨_,rfl,cN rfl⟩,⟨_,rfl,.inl ⟨rfl,rfl⟩⟩,⟨_,rfl,.inl ⟨rfl,rfl⟩⟩,Ew rfl rfl rfl rfl rfl⟩ rfl (hsr _) (.inl rfl) rfl (S3 _) rfl rfl (fun h=>absurd rfl h) rfl (by (repeat refine br ?_ rfl);exact bq)
 have hemp:(fa.map fun s=>[Dat.str s]).isEmpty=false:=by cases fa<;>first|rfl|exact absurd rfl hfa
 repeat (first|refine aw ?_|refine f1 ?_)
 refine dr qO rfl ?_
 repeat (first|refine aw ?_|refine f1 ?_)
 refine dJ rfl rfl ?_
 repeat (first|refine aw ?_|refine f1 ?_)
 refine cI fa.length (fun i:Nat=>⟨(49,.d (I i))::(48,.d (I ((fa.map fun s=>[Dat.str s]).length:Nat)))::(47,.d (fS fa))::(7,.d (I j))::(31,.d (I j))::(30,.d (I ((p.ag.map fuL).length:Nat)))::(29,.d (.slice 3 (p.ag.map fuL) false))::loR p,(1000002,.map none (E i))::(1000001,.arr 1 (rowT fa))::loH p rv' mv' (cF ((cH p).take j) (((cH p).take j).map cj)),1000003,[],0⟩) (fun _=>True) ?_ (fun _=>?_) (fun i hi _=>?_)
 ·refine Q9 hms hl5 hrv hmv ?_ (by rw [<- Wa];rfl) (by rw [<- NA];rfl) rfl rfl rfl rfl hE0 (by (repeat refine br ?_ rfl);exact bq)
  repeat' first|exact trivial|refine ⟨⟨_,rfl,?_⟩,?_⟩|exact cN (by first|with_reducible rfl|omega)|exact Or.inl ⟨rfl,rfl⟩
 ·refine aw ?_
  refine aH ?_;refine aw ?_;refine aK j trivial (ep hS ?_);exact Eu (a:=1000001) (b:=1000002) (v0:=.ref 1000001 0 0 fa.length) hms hl5 (by omega) (by omega) (by omega) ⟨⟨_,rfl,cN rfl⟩,⟨_,rfl,.inl ⟨rfl,rfl⟩⟩,⟨_,rfl,.inl ⟨rfl,rfl⟩⟩,Ew rfl rfl rfl rfl rfl⟩ rfl hrv (.inl (by rw [if_neg hfa])) rfl hmv rfl rfl (fun _=>rfl) (by rw [<- hEn];rfl) (by (repeat refine br ?_ rfl);exact bq)
 have hg:=hge i hi;have hs:=hEs i hi;generalize fa[i]=nm at *
 repeat (first|refine aw ?_|refine f1 ?_)
 refine zh ((1000002,.map none (dx (E i) (.s nm) (.bool true)))::(1000001,.arr 1 (rowT fa))::loH p rv' mv' (cF ((cH p).take j) (((cH p).take j).map cj))) (Jx _ _ _ _) ?_
 repeat (first|refine aw ?_|refine f1 ?_)
 refine aK i trivial ?_;refine Q9 hms hl5 hrv hmv ?_ rfl rfl rfl rfl rfl rfl hs (by (repeat refine br ?_ rfl);exact bq)
 repeat' first|exact trivial|refine ⟨⟨_,rfl,?_⟩,?_⟩|exact cN (by first|with_reducible rfl|omega)|exact Or.inl ⟨rfl,rfl⟩
end Uw.Tryz
namespace Uw.Tryz
open Go Uw
theorem GY {rid mid:Nat->Nat} {n:Nat} (hI:Nx rid mid n) (m:MS) (id:Nat):∀(ls:List (List Str)) (ms:List MS) (i k:Nat),i+ls.length<=n->k<ls.length->k<ms.length->look (jD rid mid i ls (ms.set k m)) id=if id=mid (i+k) then some (.map none m) else look (jD rid mid i ls ms) id
 | [],_,i,k,_,h,_=>by simp at h
 | l::ls,[],i,k,_,_,h=>by simp at h
 | l::ls,m0::ms,i,0,hn,_,_=>by
  simp only [Xt] at hn;rw [Zk,jD,jD,kM,kM];by_cases he:id=mid (i+0)
  ·rw [if_pos he]
   have h1:look (if l=[] then [] else [(rid i,Blk.arr 1 (rowT l))]) id=none:=by
    split
    ·rfl
    ·rw [ai,if_neg (fun e=>hI.rm i i (by omega) (by omega) (e.trans he))];rfl
   rw [h1,ai,if_pos (show mid i=id from he.symm)]
  ·rw [if_neg he,ai,ai,if_neg (show ¬mid i=id from fun e=>he e.symm)]
   simp only [if_neg (show ¬mid i=id from fun e=>he e.symm)]
 | l::ls,m0::ms,i,k+1,hn,hk,hm=>by
  simp only [Xt] at hn hk hm;rw [YV,jD,jD,kM,kM,ai,ai,GY hI m id ls ms (i+1) k (by omega) (by omega) (by omega),show i+1+k=i+(k+1) by omega];by_cases he:id=mid (i+(k+1))
  ·rw [if_pos he,if_pos he]
   have h1:look (if l=[] then [] else [(rid i,Blk.arr 1 (rowT l))]) id=none:=by
    split
    ·rfl
    ·rw [ai,if_neg (fun e=>hI.rm i (i+(k+1)) (by omega) (by omega) (e.trans he))];rfl
   rw [h1,if_neg (fun e=>by have:=hI.mm i (i+(k+1)) (by omega) (by omega) (e.trans he);omega)]
  ·rw [if_neg he,if_neg he]
theorem Ad {rid mid:Nat->Nat} {n:Nat} (hI:Nx rid mid n) {l' : List Str} (hl' : l'≠[]) (id:Nat):∀(ls:List (List Str)) (ms:List MS) (i k:Nat),i+ls.length<=n->k<ls.length->k<ms.length->look (jD rid mid i (ls.set k l') ms) id=if id=rid (i+k) then some (.arr 1 (rowT l')) else look (jD rid mid i ls ms) id
 | [],_,i,k,_,h,_=>by simp at h
 | l::ls,[],i,k,_,_,h=>by simp at h
 | l::ls,m0::ms,i,0,hn,_,_=>by
  simp only [Xt] at hn;rw [Zk,jD,jD,if_neg hl',Xv,ai];by_cases he:id=rid (i+0)
  ·rw [if_pos he,if_pos (show rid i=id from he.symm)]
  ·rw [if_neg he,if_neg (show ¬rid i=id from fun e=>he e.symm)]
   split
   ·rfl
   ·rw [Xv,ai,if_neg (show ¬rid i=id from fun e=>he e.symm)]
 | l::ls,m0::ms,i,k+1,hn,hk,hm=>by
  simp only [Xt] at hn hk hm;rw [YV,jD,jD,kM,kM,ai,ai,Ad hI hl' id ls ms (i+1) k (by omega) (by omega) (by omega),show i+1+k=i+(k+1) by omega];by_cases he:id=rid (i+(k+1))
  ·rw [if_pos he,if_pos he]
   have h1:look (if l=[] then [] else [(rid i,Blk.arr 1 (rowT l))]) id=none:=by
    split
    ·rfl
    ·rw [ai,if_neg (fun e=>by have:=hI.rr i (i+(k+1)) (by omega) (by omega) (e.trans he);omega)];rfl
   rw [h1,if_neg (fun e=>hI.rm (i+(k+1)) i (by omega) (by omega) (e.trans he).symm)]
  ·rw [if_neg he,if_neg he]
theorem CO (rid:Nat->Nat):∀(ls:List (List Str)) (i k:Nat) (l' : List Str),k<ls.length->(cf rid i ls).set k (if l' = [] then V.d (.slice 1 [] true) else .ref (rid (i+k)) 0 0 l'.length)=cf rid i (ls.set k l')
 | [],i,k,l',h=>by simp at h
 | l::ls,i,0,l',h=>rfl
 | l::ls,i,k+1,l',h=>by
  have:=CO rid ls (i+1) k l' (by simpa using h);rw [cf,YV,YV,cf,<- this,show i+1+k=i+(k+1) by omega]
theorem Jz {c fam Vb : Heap} {a:Nat} {x:Blk} (hc:∀q∈c,q.1≠a) (hf:∀id,look Vb id=if id=a then some x else look fam id) (id:Nat):look (c++Vb) id=look ((a,x)::(c++fam)) id:=by
 rw [ai,kM,kM,hf id];by_cases he:id=a
 ·subst he
  have:look c id=none:=by
   cases h:look c id with
   | none=>rfl
   | some b=>exact absurd rfl (hc _ (ry h))
  rw [if_pos rfl,if_pos rfl,this]
 ·rw [if_neg he,if_neg (fun e=>he e.symm)]
theorem v8 {p:Pg} {ls:List (List Str)} {ms:List MS} {R R' : fk} {H:Heap} {r r' n:Nat} {rv' : List V} (hms:ms.length=ls.length) (hl:ls.length<100000) (h1:od (c6 []) R H (loH p (cf rid 0 ls++List.replicate r (.d .nil)) (bQ mid 0 ls.length++List.replicate r' (.d .aV)) (cF ls ms)) R')
  (e2:look H 2=some (.var rv')) (hrv:rv' = cf rid 0 ls++List.replicate r (.d .nil)) (e3:look H 3=some (.var (bQ mid 0 ls.length++List.replicate r' (.d .aV)))) (e1:look H 1=some (.map none (thE p.decls))) (e0:look H 0=some (pgV p))
  (ho:Over (cF ls ms) H):Weak ⟨R,H,n,[],0⟩ ⟨R',loH p (cf rid 0 ls++List.replicate r (.d .nil)) (bQ mid 0 ls.length++List.replicate r' (.d .aV)) (cF ls ms),1000000,[],0⟩:=by
 subst hrv;exact En hms hl h1 e2 e3 e1 e0 (fun id x h=>by have:=fu h;rw [ho id this.1 (by omega)];exact h)
def qq (j a:Nat) (id:Nat):Nat:=if id=rid j then a else id
theorem S4 {p:Pg} {ls:List (List Str)} {ms:List MS} {l:List Str} {R R' : fk} {H:Heap} {n k:Nat} {rv' : List V} (hms:ms.length=ls.length) (hl:ls.length<100000) (hk:k<ls.length) (hne:l≠[])
  (h1:od (qq k 1000001) R H (loH p (gX (ls.set k l) 0) (jF (ls.set k l).length 0) (cF (ls.set k l) ms)) R')
  (e2:look H 2=some (.var rv')) (hrv:rv' = (gX ls 0).set k (.ref 1000001 0 0 l.length)) (e3:look H 3=some (.var (jF ls.length 0))) (e1:look H 1=some (.map none (thE p.decls))) (e0:look H 0=some (pgV p)) (ea:look H 1000001=some (.arr 1 (rowT l)))
  (ho:Over (cF ls ms) H):Weak ⟨R,H,n,[],0⟩ ⟨R',loH p (gX (ls.set k l) 0) (jF (ls.set k l).length 0) (cF (ls.set k l) ms),1000000,[],0⟩:=by
 subst hrv;have hlen:(ls.set k l).length=ls.length:=by simp
 rw [hlen] at h1 ⊢;have hlow:∀i,i<4->qq k 1000001 i=i:=fun i h=>by unfold qq;rw [if_neg (by simp only [rid];omega)]
 have hm:∀i,qq k 1000001 (mid i)=mid i:=fun i=>by unfold qq;rw [if_neg (by simp only [rid,mid];omega)]
 have hr:∀i,i≠k->qq k 1000001 (rid i)=rid i:=fun i h=>by unfold qq;rw [if_neg (by simp only [rid];omega)]
 have hrk:qq k 1000001 (rid k)=1000001:=by unfold qq;rw [if_pos rfl]
 refine Weak.Ny (qq k 1000001) h1 ?_ ?_
 ·intro id x hx
  rcases sN hx with ⟨rfl,rfl⟩|⟨rfl,rfl⟩|⟨rfl,rfl⟩|⟨rfl,rfl⟩|hx
  ·refine ⟨⟨_,by rw [hlow 2 (by omega)];exact e2,dL ?_ (nW (by simp [hms]))⟩,by omega⟩
   show Blk.var _=Blk.var (fx _ _)
   congr 1
   rw [px,na,sO,List.set_append_left _ _ (by rw [eu];exact hk)]
   congr 1
   apply YQ;intro i;by_cases hik:i=k
   ·subst hik
    rw [List.getElem?_set_self (by rw [eu];exact hk),j9 _ _ 0 i l (by simp [hk]),if_neg hne];simp only [Xy];rw [hrk]
   ·rw [List.getElem?_set_ne (Ne.symm hik)]
    rcases XR i ls.length with h|h
    ·rw [j9 rid ls 0 i ls[i] (by simp [h]),j9 _ _ 0 i ls[i] (by rw [List.getElem?_set_ne (Ne.symm hik)];simp [h])]
     simp only [Xy];rw [hr i hik]
    ·rw [Xz (by rw [eu];exact h),Xz (by rw [eu,hlen];exact h)]
  ·refine ⟨⟨_,by rw [hlow 3 (by omega)];exact e3,dL ?_ (nX (by simp [hms]) hlen.symm)⟩,by omega⟩
   show Blk.var _=Blk.var (fx _ _);rw [px,na,sP,nV (mid:=fun i=>qq k 1000001 (mid i)) (mid':=mid) ls.length 0 fun i _=>hm _]
  ·exact ⟨⟨_,by rw [hlow 1 (by omega)];exact e1,dL rfl rfl⟩,by omega⟩
  ·exact ⟨⟨_,by rw [hlow 0 (by omega)];exact e0,dL rfl rfl⟩,by omega⟩
  ·obtain ⟨g1,g2,g3,g4⟩:=fu hx
   refine ⟨⟨x,?_,dL (g4 _).symm (g3 _)⟩,by rw [hlen] at g2;omega⟩;have hs:=Ad (xe ls.length) hne id ls ms 0 k (by omega) hk (by omega);rw [show look (jD rid mid 0 (ls.set k l) ms) id=some x from hx,Xy] at hs;by_cases he:id=rid k
   ·rw [if_pos he] at hs
    injection hs with hs
    rw [he,hrk,hs];exact ea
   ·rw [if_neg he] at hs
    unfold qq;rw [if_neg he,ho id g1 (by rw [hlen] at g2;omega)];exact hs.symm
 ·intro id id' h h' he
  have bd:∀i,(look (loH p (gX (ls.set k l) 0) (jF ls.length 0) (cF (ls.set k l) ms)) i).isSome=true->i<1000000:=by
   intro i hi;obtain ⟨x,hx⟩:=Zg.1 hi
   rcases sN hx with ⟨rfl,rfl⟩|⟨rfl,rfl⟩|⟨rfl,rfl⟩|⟨rfl,rfl⟩|hx
   ·omega
   ·omega
   ·omega
   ·omega
   ·have:=(fu hx).2.1
    rw [hlen] at this;omega
  have b1:=bd id h;have b2:=bd id' h';unfold qq at he
  split at he<;>split at he<;>omega
theorem Ae {j a k:Nat} (hk:k<4):qq j a k=k:=by unfold qq;rw [if_neg (by simp only [rid];omega)]
theorem JA {j a k n:Nat} {h h' : Heap} (hk:k<4) (hc:(look h' k).isSome=true):VW (qq j a) h h' (.row k n) (.row k n):=.inl ⟨by rw [V.ren,Ae hk],hc⟩
theorem P9 {j a k:Nat} {h h' : Heap} (hk:k<4) (hc:(look h' k).isSome=true):VW (qq j a) h h' (.hnd k) (.hnd k):=.inl ⟨by rw [V.ren,Ae hk],hc⟩
theorem Qb {j a k o:Nat} {h h' : Heap} (hk:k<4) (hc:(look h' k).isSome=true):VW (qq j a) h h' (.ptr k o) (.ptr k o):=.inl ⟨by rw [V.ren,Ae hk],hc⟩
theorem NC {p:Pg} {j a:Nat} {R:fk} {H:Heap} {rv mv:List V} {fam:Heap} (h6:look R 6=some (.row 3 (nF p))) (h5:look R 5=some (.row 2 (nF p))) (h4:look R 4=some (.d (cG (aJ p)))) (h3:look R 3=some (.hnd 1)) (h1:look R 1=some (.ptr 0 0)) :
  od (qq j a) R H (loH p rv mv fam) (loR p):=
 ⟨⟨_,h6,JA (by omega) rfl⟩,⟨_,h5,JA (by omega) rfl⟩,⟨_,h4,.inl ⟨rfl,rfl⟩⟩,⟨_,h3,P9 (by omega) rfl⟩,⟨_,h1,Qb (by omega) rfl⟩,trivial⟩
def Wc:bT:=qL (qL (qR (qL (qR (qR (qR (qR (qR (qR mK.code)))))))))
def qt (p:Pg) (k:Nat):List (List Str):=dZ p ((p.nodes.zip (aJ p)).take k) (cH p)
theorem tO (p:Pg):∀(r:List (Nd×Int)) (y:Nd×Int) (ls:List (List Str)),dZ p (r++[y]) ls=(if eX p y.1 then addLocal (dZ p r ls) y.2.toNat y.1.name else dZ p r ls)
 | [],y,ls=>rfl
 | (x,o)::r,y,ls=>by rw [Xv,dZ,tO p r,dZ]
theorem KL (p:Pg) (k:Nat) (h:k<p.nodes.length):qt p (k+1)=(if eX p p.nodes[k] then addLocal (qt p k) ((aJ p).getD k 0).toNat p.nodes[k].name else qt p k):=by
 have h2:k<(aJ p).length:=by rw [cS];exact h
 have hz:k<(p.nodes.zip (aJ p)).length:=by rw [Zw];omega
 rw [qt,qt,Xq hz,tO,Zn];simp [List.getD,h2]
theorem Af (p:Pg) (k:Nat):(qt p k).length=p.ag.length:=by
 have:∀(r:List (Nd×Int)) (ls:List (List Str)),(dZ p r ls).length=ls.length:=by
  intro r
  induction r with
  | nil=>intro ls;rfl
  | cons y r ih=>
   intro ls;obtain ⟨x,o⟩:=y;rw [dZ,ih]
   split
   ·rw [vV]
   ·rfl
 rw [qt,this];simp
theorem wa (p:Pg):qt p p.nodes.length=ak p:=by
 rw [qt,ak,XB (by rw [Zw];omega)]
theorem Ag (p:Pg) (hp:Lim p) (k f:Nat) (l:List Str) (h:(qt p k)[f]? = some l):l.length<=100000+k:=by
 have key:∀(r:List (Nd×Int)) (ls:List (List Str)) (b:Nat),(∀l∈ls,l.length<=b)->∀l∈dZ p r ls,l.length<=b+r.length:=by
  intro r
  induction r with
  | nil=>intro ls b h l hl;exact h l hl
  | cons y r ih=>
   intro ls b h l hl;obtain ⟨x,o⟩:=y;rw [dZ] at hl;have:=ih _ (b+1) ?_ l hl
   ·simp;omega
   ·intro l' hl'
    split at hl'
    ·unfold addLocal at hl'
     split at hl'
     ·have:=h l' hl';omega
     ·rcases YO hl' with hl' | rfl
      ·have:=h l' hl';omega
      ·have hg:(ls.getD o.toNat []).length<=b:=by
        rw [List.getD]
        cases hq:ls[o.toNat]? with
        | none=>simp
        | some v=>exact h v (XK hq)
       rw [Xr];show (ls.getD o.toNat []).length+1<=b+1;omega
    ·have:=h l' hl';omega
 have:=key ((p.nodes.zip (aJ p)).take k) (cH p) 100000 (fun l hl=>by
  obtain ⟨f,hf,rfl⟩:=Yf.1 hl;exact Nat.le_of_lt (hp.args f hf)) l (XK h)
 have hl2:((p.nodes.zip (aJ p)).take k).length<=k:=by simp;omega
 omega
abbrev ym (p:Pg) (k:Nat):St:=⟨(63,.d (I k))::(62,.d (I ((p.nodes.map ndL).length:Nat)))::(61,.d (bY p.nodes))::loR p,loH p (gX (qt p k) 0) (jF (qt p k).length 0) (cF (qt p k) ((qt p k).map cj)),1000000,[],0⟩
end Uw.Tryz
namespace Uw.Tryz
open Go Uw
theorem KN (p:Pg) (hf:bC p=true) (hp:Lim p) (k:Nat) (hk:k<p.nodes.length) (hpre:∀i,i<k->True) {QQ:aB->St->Prop}:WT P0 (mE (ym p) (A8 p.nodes.length fun _=>True) (forM p.nodes.length) k QQ) (exec Wc (ym p k) Tree.done):=by
 have hnl:(p.nodes.map ndL).length=p.nodes.length:=by simp
 have hfl:nF p=p.ag.length:=by simp
 have hN:=hp.nodes;have hF:=hp.ag;have he:(p.nodes.map ndL)[(k:Int).toNat]? = some (ndL p.nodes[k]):=by simp [hk]
 have hown:=zV hf _ k hk (Xn _);have hoe:((aJ p).map fun i=>[I i])[(k:Int).toNat]? = some [I ((aJ p).getD k 0)]:=by
  have h2:k<(aJ p).length:=by rw [cS];exact hk
  simp [List.getD,h2]
 have hol:((aJ p).map fun i=>[I i]).length=p.nodes.length:=by rw [XJ,cS]
 have hsucc:=KL p k hk;have hlen:=Af p k;have hth:=wZ p p.nodes[k].name;generalize (aJ p).getD k 0=o at *;have hloc:∀x,eX p x=((decide (x.kind=9)||decide (x.kind=10)||decide (x.kind=11))&&!decide (x.name=[])&&(bk p x.name).isNone):=fun x=>rfl;rw [hloc] at hsucc;generalize p.nodes[k]=x at *;obtain ⟨xk,xn,xs,xt,xo⟩:=x;have he:(p.nodes.map ndL)[(k:Int).toNat]? = some [I xk,I xn,.str xs,.str xt,cG xo]:=he;simp only at hsucc hth;obtain ⟨ls,hls⟩:∃ls,qt p k=ls:=⟨_,rfl⟩
 rw [hls] at hsucc hlen;have hS:ym p k=⟨(63,.d (I k))::(62,.d (I ((p.nodes.map ndL).length:Nat)))::(61,.d (bY p.nodes))::loR p,loH p (gX ls 0) (jF ls.length 0) (cF ls (ls.map cj)),1000000,[],0⟩:=by rw [ym,hls]
 have hS1:ym p (k+1)=⟨(63,.d (I ((k+1:Nat):Int)))::(62,.d (I ((p.nodes.map ndL).length:Nat)))::(61,.d (bY p.nodes))::loR p,loH p (gX (qt p (k+1)) 0) (jF (qt p (k+1)).length 0) (cF (qt p (k+1)) ((qt p (k+1)).map cj)),1000000,[],0⟩:=rfl;rw [hsucc] at hS1;rw [hS];have hmg:(jF ls.length 0)[o.toNat * 1]? = some (.hnd (mid o.toNat)):=by
  rw [ZS,XM (by rw [c8];omega),ka mid ls.length 0 _ (by omega),Xy]
 have hml:(jF ls.length 0).length=nF p:=by rw [Xr,c8,Yr];omega
 have hrl:(gX ls 0).length=nF p:=by rw [Xr,eu,Yr];omega
 -- what a round comes to where nothing is added
 have tP:∀(R:fk) (H:Heap) (nx:Nat),(eX p ⟨xk,xn,xs,xt,xo⟩=true->xs∈ls.getD o.toNat [])->look H 2=some (.var (gX ls 0))->look H 3=some (.var (jF ls.length 0))->look H 1=some (.map none (thE p.decls))->look H 0=some (pgV p)->Over (cF ls (ls.map cj)) H->
   (∀rv mv fam,od (c6 []) R H (loH p rv mv fam) ((63,.d (I ((k+1:Nat):Int)))::(62,.d (I ((p.nodes.map ndL).length:Nat)))::(61,.d (bY p.nodes))::loR p))->Weak ⟨R,H,nx,[],0⟩ (ym p (k+1)):=by
  intro R H nx h0 e2 e3 e1 e0 ho hR;have:(if ((decide (xk=9)||decide (xk=10)||decide (xk=11))&&!decide (xs=[])&&(bk p xs).isNone)=true then addLocal ls o.toNat xs else ls)=ls:=by
   split
   ·rename_i h
    have:=h0 h;rw [addLocal,if_pos this]
   ·rfl
  rw [hS1,this];exact En (by simp) (by omega) (hR _ _ _) e2 e3 e1 e0 (fun id x h=>by have:=fu h;rw [ho id this.1 (by omega)];exact h)
 clear hS hsucc hloc;by_cases hkk:xk≠9/\xk≠10/\xk≠11
 ·obtain ⟨k9,k10,k11⟩:=hkk
  repeat (first|refine aw ?_|refine f1 ?_)
  refine aK k trivial (tP _ _ _ (fun h=>by simp [eX,k9,k10,k11] at h) rfl rfl rfl rfl (by (repeat refine br ?_ rfl);exact bq) (fun rv mv fam=>?_))
  repeat' first|exact trivial|refine ⟨⟨_,rfl,?_⟩,?_⟩|exact cN (by first|with_reducible rfl|omega)|exact Or.inl ⟨rfl,rfl⟩
 have hk3:xk=9\/xk=10\/xk=11:=by omega
 cases ht:bk p xs with
 | some kd=>
  rw [ht] at hth;have hth:aW (thE p.decls) (.s xs)=some (I kd):=hth;by_cases hxs:xs=[]
  all_goals rcases hk3 with rfl|rfl|rfl
  all_goals (repeat (first|refine aw ?_|refine f1 ?_|refine m1 ?_))
  all_goals refine aK k trivial (tP _ _ _ (fun h=>by simp [eX,ht] at h) rfl rfl rfl rfl (by (repeat refine br ?_ rfl);exact bq) (fun rv mv fam=>?_))
  all_goals (repeat' first|exact trivial|refine ⟨⟨_,rfl,?_⟩,?_⟩|exact cN (by first|with_reducible rfl|omega)|exact Or.inl ⟨rfl,rfl⟩)
 | none=>
  rw [ht] at hth;have hth:aW (thE p.decls) (.s xs)=none:=hth;by_cases hxs:xs=[]
  ·rcases hk3 with rfl|rfl|rfl
   all_goals (repeat (first|refine aw ?_|refine f1 ?_|refine m1 ?_))
   all_goals refine aK k trivial (tP _ _ _ (fun h=>by simp [eX,hxs] at h) rfl rfl rfl rfl (by (repeat refine br ?_ rfl);exact bq) (fun rv mv fam=>?_))
   all_goals (repeat' first|exact trivial|refine ⟨⟨_,rfl,?_⟩,?_⟩|exact cN (by first|with_reducible rfl|omega)|exact Or.inl ⟨rfl,rfl⟩)
  obtain ⟨f,hfo⟩:∃f,o.toNat=f:=⟨_,rfl⟩
  have GZ:f<ls.length:=by omega
  have hof:o=(f:Int):=by omega
  obtain ⟨l,hll⟩:∃l,ls[f]? = some l:=⟨ls[f],by simp [GZ]⟩
  have hld:ls.getD o.toNat []=l:=by rw [hfo,List.getD,hll];rfl
  have Vd:(ls.map cj).length=ls.length:=by simp
  have hlk:∀H,Over (cF ls (ls.map cj)) H->look H (mid o.toNat)=some (.map none (cj l)):=fun H ho=>by
   rw [ho _ (by simp only [mid];omega) (by simp only [mid];omega),hfo];have:=qn (xe ls.length) (ls:=ls) (ms:=ls.map cj) (i:=0) (k:=f) (m:=cj l) (by omega) GZ (by simp [hll])
   rwa [Xy] at this
  by_cases hin:xs∈l
  ·have hsg:aW (cj l) (.s xs)=some (.bool true):=by rw [sM,if_pos hin]
   rcases hk3 with rfl|rfl|rfl
   all_goals (repeat (first|refine aw ?_|refine f1 ?_|refine m1 ?_))
   all_goals refine kW _ (hlk _ (by (repeat refine br ?_ rfl);exact bq)) ?_
   all_goals (repeat (first|refine aw ?_|refine f1 ?_|refine m1 ?_))
   all_goals refine aK k trivial (tP _ _ _ (fun h=>by rw [hld];exact hin) rfl rfl rfl rfl (by (repeat refine br ?_ rfl);exact bq) (fun rv mv fam=>?_))
   all_goals (repeat' first|exact trivial|refine ⟨⟨_,rfl,?_⟩,?_⟩|exact cN (by first|with_reducible rfl|omega)|exact Or.inl ⟨rfl,rfl⟩)
  have hsg:aW (cj l) (.s xs)=none:=by rw [sM,if_neg hin]
  -- what is added
  obtain ⟨ms,hms⟩:∃ms,ms=(ls.map cj).set f (dx (cj l) (.s xs) (.bool true)):=⟨_,rfl⟩
  have Ve:ms.length=ls.length:=by rw [hms];simp
  have Wg:ms=(ls.set f (l++[xs])).map cj:=by rw [hms,Z1,qo]
  have Rb:∀b b0,∀id,look ((1000000,b)::(1000000,b0)::loH p (gX ls 0) (jF ls.length 0) (cF ls ms)) id=look ((mid o.toNat,.map none (dx (cj l) (.s xs) (.bool true)))::(1000000,b)::(1000000,b0)::loH p (gX ls 0) (jF ls.length 0) (cF ls (ls.map cj))) id:=fun b b0 id=>by
   refine Jz (c:=[(1000000,b),(1000000,b0),(2,.var (gX ls 0)),(3,.var (jF ls.length 0)),(1,.map none (thE p.decls)),(0,pgV p)]) ?_ ?_ id
   ·intro q hq
    simp only [XA,YJ,or_false] at hq
    rcases hq with rfl|rfl|rfl|rfl|rfl|rfl<;>simp only [mid]<;>omega
   ·intro id
    have:=GY (xe ls.length) (dx (cj l) (.s xs) (.bool true)) id ls (ls.map cj) 0 f (by omega) GZ (by omega);rw [Xy] at this;rw [hms,hfo];exact this
  have hlen2:(ls.set f (l++[xs])).length=ls.length:=by simp
  have hS2:ym p (k+1)=⟨(63,.d (I ((k+1:Nat):Int)))::(62,.d (I ((p.nodes.map ndL).length:Nat)))::(61,.d (bY p.nodes))::loR p,loH p (gX (ls.set f (l++[xs])) 0) (jF ls.length 0) (cF (ls.set f (l++[xs])) ms),1000000,[],0⟩:=by
   have:(if ((decide (xk=9)||decide (xk=10)||decide (xk=11))&&!decide (xs=[])&&(bk p xs).isNone)=true then addLocal ls o.toNat xs else ls)=ls.set f (l++[xs]):=by
    rw [if_pos (by rcases hk3 with rfl|rfl|rfl<;>simp [hxs,ht]),addLocal,hld,if_neg hin,hfo]
   rw [hS1,this,hlen2,<- Wg]
  have hrg:(gX ls 0)[o.toNat * 1]? = some (if l=[] then V.d (.slice 1 [] true) else .ref (rid f) 0 0 l.length):=by
   rw [ZS,hfo,XM (by rw [eu];exact GZ),j9 rid ls 0 f l hll,Xy]
  have WA:l.length<300000:=by
   have:=Ag p hp k f l (by rw [hls];exact hll);omega
  have hcap:(decide (l.length=(rowT l).length)&&decide ((l.length+((List.replicate 1 [Dat.str []]).set 0 [Dat.str xs]).length) * 16<=70368744177664))=true:=by simp;omega
  have hrk:∀H,Over (cF ls ms) H->l≠[]->look H (rid f)=some (.arr 1 (rowT l)):=fun H ho hne=>by
   rw [ho _ (by simp only [rid];omega) (by simp only [rid];omega)];have:=vZ (xe ls.length) (ls:=ls) (ms:=ms) (i:=0) (k:=f) (l:=l) (by omega) (by omega) hll hne
   rwa [Xy] at this
  have Vf:∀b b0,∀id,look ((1000000,b)::(1000000,b0)::loH p (gX ls 0) (jF ls.length 0) (cF (ls.set f (l++[xs])) ms)) id=look ((rid f,.arr 1 (rowT l++(List.replicate 1 [Dat.str []]).set 0 [Dat.str xs]))::(1000000,b)::(1000000,b0)::loH p (gX ls 0) (jF ls.length 0) (cF ls ms)) id:=fun b b0 id=>by
   refine Jz (c:=[(1000000,b),(1000000,b0),(2,.var (gX ls 0)),(3,.var (jF ls.length 0)),(1,.map none (thE p.decls)),(0,pgV p)]) ?_ ?_ id
   ·intro q hq
    simp only [XA,YJ,or_false] at hq
    rcases hq with rfl|rfl|rfl|rfl|rfl|rfl<;>simp only [rid]<;>omega
   ·intro id
    have:=Ad (xe ls.length) (l':=l++[xs]) (by simp) id ls ms 0 f (by omega) GZ (by omega);rw [Xy] at this;rw [this];have e:rowT (l++[xs])=rowT l++(List.replicate 1 [Dat.str []]).set 0 [Dat.str xs]:=by simp
    rw [e]
  have hset:(gX ls 0).set (o.toNat * 1) (.ref (rid f) 0 0 (l.length+((List.replicate 1 [Dat.str []]).set 0 [Dat.str xs]).length))=cf rid 0 (ls.set f (l++[xs]))++List.replicate 0 (.d .nil):=by
   have:=CO rid ls 0 f (l++[xs]) GZ;rw [if_neg (by simp),Xy] at this;rw [<- this,ZS,hfo,List.set_append_left _ _ (by rw [eu];exact GZ)];simp
  have Vg:(gX ls 0).set (o.toNat * 1) (.ref 1000001 0 0 ((List.replicate 1 [Dat.str []]).set 0 [Dat.str xs]).length)=(gX ls 0).set f (.ref 1000001 0 0 ([]++[xs]).length):=by rw [ZS,hfo];rfl
  have hS3:ym p (k+1)=⟨(63,.d (I ((k+1:Nat):Int)))::(62,.d (I ((p.nodes.map ndL).length:Nat)))::(61,.d (bY p.nodes))::loR p,loH p (gX (ls.set f (l++[xs])) 0) (jF (ls.set f (l++[xs])).length 0) (cF (ls.set f (l++[xs])) ms),1000000,[],0⟩:=by rw [hS2,hlen2]
  have S5:ms.length=(ls.set f (l++[xs])).length:=by rw [Ve,hlen2]
  have hlen3:(ls.set f (l++[xs])).length<100000:=by rw [hlen2];omega
  have Vh:ls.length<100000:=by omega
  have Wh:some (Blk.var (jF ls.length 0))=some (Blk.var (jF (ls.set f (l++[xs])).length 0)):=by rw [hlen2]
  by_cases hl0:l=[]
  ·subst hl0
   have hrg:(gX ls 0)[o.toNat * 1]? = some (V.d (.slice 1 [] true)):=hrg
   rcases hk3 with rfl|rfl|rfl
   all_goals (repeat (first|refine aw ?_|refine f1 ?_|refine m1 ?_))
   all_goals refine kW _ (hlk _ (by (repeat refine br ?_ rfl);exact bq)) ?_
   all_goals (repeat (first|refine aw ?_|refine f1 ?_|refine m1 ?_))
   all_goals refine kW _ (hlk _ (by (repeat refine br ?_ rfl);exact bq)) ?_
   all_goals refine zh _ (Rb _ _) ?_
   all_goals (repeat (first|refine aw ?_|refine f1 ?_|refine m1 ?_))
   all_goals refine bW ⟨(63,.d (I k))::(62,.d (I ((p.nodes.map ndL).length:Nat)))::(61,.d (bY p.nodes))::loR p,loH p (gX (ls.set f ([]++[xs])) 0) (jF (ls.set f ([]++[xs])).length 0) (cF (ls.set f ([]++[xs])) ms),1000000,[],0⟩ ?_ (by
    refine aw ?_;refine aK k trivial (ep hS3 ?_);refine v8 (ls:=ls.set f ([]++[xs])) (ms:=ms) (r:=0) (r':=0) S5 hlen3 ?_ rfl rfl rfl rfl rfl (by (repeat refine br ?_ rfl);exact bq)
    repeat' first|exact trivial|refine ⟨⟨_,rfl,?_⟩,?_⟩|exact cN (by first|with_reducible rfl|omega)|exact Or.inl ⟨rfl,rfl⟩)
   all_goals (repeat (first|refine aw ?_|refine f1 ?_|refine m1 ?_))
   all_goals refine aX (.inl ⟨rfl,?_⟩)
   all_goals refine S4 (p:=p) (ls:=ls) (ms:=ms) (k:=f) (l:=[]++[xs]) Ve Vh GZ (by simp) ⟨⟨_,rfl,cN rfl⟩,⟨_,rfl,.inl ⟨rfl,rfl⟩⟩,⟨_,rfl,.inl ⟨rfl,rfl⟩⟩,NC rfl rfl rfl rfl rfl⟩ ?_ Vg ?_ ?_ ?_ ?_ ?_
   all_goals first|exact rfl|((repeat refine br ?_ rfl);exact bq)
  have hrg2:(gX ls 0)[o.toNat * 1]? = some (.ref (rid f) 0 0 l.length):=by rw [hrg,if_neg hl0]
  clear hrg
  rcases hk3 with rfl|rfl|rfl
  all_goals (repeat (first|refine aw ?_|refine f1 ?_|refine m1 ?_))
  all_goals refine kW _ (hlk _ (by (repeat refine br ?_ rfl);exact bq)) ?_
  all_goals (repeat (first|refine aw ?_|refine f1 ?_|refine m1 ?_))
  all_goals refine kW _ (hlk _ (by (repeat refine br ?_ rfl);exact bq)) ?_
  all_goals refine zh _ (Rb _ _) ?_
  all_goals (repeat (first|refine aw ?_|refine f1 ?_|refine m1 ?_))
  all_goals refine bW ⟨(63,.d (I k))::(62,.d (I ((p.nodes.map ndL).length:Nat)))::(61,.d (bY p.nodes))::loR p,loH p (gX (ls.set f (l++[xs])) 0) (jF (ls.set f (l++[xs])).length 0) (cF (ls.set f (l++[xs])) ms),1000000,[],0⟩ ?_ (by
   refine aw ?_;refine aK k trivial (ep hS3 ?_);refine v8 (ls:=ls.set f (l++[xs])) (ms:=ms) (r:=0) (r':=0) S5 hlen3 ?_ rfl rfl rfl rfl rfl (by (repeat refine br ?_ rfl);exact bq)
   repeat' first|exact trivial|refine ⟨⟨_,rfl,?_⟩,?_⟩|exact cN (by first|with_reducible rfl|omega)|exact Or.inl ⟨rfl,rfl⟩)
  all_goals (repeat (first|refine aw ?_|refine f1 ?_|refine m1 ?_))
  all_goals refine kW _ (hrk _ (by (repeat refine br ?_ rfl);exact bq) hl0) ?_
  all_goals (repeat (first|refine aw ?_|refine f1 ?_|refine m1 ?_))
  all_goals refine zh _ (Vf _ _) ?_
  all_goals (repeat (first|refine aw ?_|refine f1 ?_|refine m1 ?_))
  all_goals refine aX (.inl ⟨rfl,?_⟩)
  all_goals refine v8 (p:=p) (ls:=ls.set f (l++[xs])) (ms:=ms) (r:=0) (r':=0) S5 hlen3 ⟨⟨_,rfl,cN rfl⟩,⟨_,rfl,.inl ⟨rfl,rfl⟩⟩,⟨_,rfl,.inl ⟨rfl,rfl⟩⟩,⟨_,rfl,.inl ⟨rfl,rfl⟩⟩,⟨_,rfl,.inl ⟨rfl,rfl⟩⟩,⟨_,rfl,.inl ⟨rfl,rfl⟩⟩,⟨_,rfl,.inl ⟨rfl,rfl⟩⟩,⟨_,rfl,.inl ⟨rfl,rfl⟩⟩,trivial⟩ ?_ hset ?_ ?_ ?_ ?_
  all_goals first|exact rfl|exact Wh|((repeat refine br ?_ rfl);exact bq)|skip
end Uw.Tryz
namespace Uw.Tryz
open Go Uw
theorem tQ {H:Heap}:∀(ls:List (List Str)) (i:Nat),(∀j l,ls[j]? = some l->l≠[]->look H (rid (i+j))=some (.arr 1 (rowT l)))->iK H (cf rid i ls)=some (ls.map fun l=>if l=[] then .slice 1 [] true else .slice 1 (rowT l) false)
 | [],i,h=>rfl
 | l::ls,i,h=>by
  have ih:=tQ ls (i+1) (fun j l' hj hne=>by
   have:=h (j+1) l' (by simpa using hj) hne
   rwa [show i+(j+1)=i+1+j by omega] at this)
  rw [cf,iK,ih];by_cases hl:l=[]
  ·subst hl;rfl
  ·have:=h 0 l rfl hl
   rw [if_neg hl,Yk,if_neg hl,V.dat,show rid i=rid (i+0) from rfl,this];have e:(List.drop 0 (rowT l)).take l.length=rowT l:=by rw [XX,XB (by simp)]
   simp only [e];rfl
theorem ND {H:Heap} {p:Pg} {ls:List (List Str)} {ms:List MS} {mv:List V} (hms:ms.length=ls.length) (hl:ls.length<100000) (hH:H=loH p (gX ls 0) mv (cF ls ms)):dD H [.row 2 ls.length]=some [.slice 1 (ls.map P8) false]:=by
 have h1:iK H (gX ls 0)=some (ls.map fun l=>if l=[] then .slice 1 [] true else .slice 1 (rowT l) false):=by
  show iK H (cf rid 0 ls++[])=_;rw [X4];refine tQ ls 0 fun j l hj hne=>?_;have hjl:j<ls.length:=by
   rcases XR j ls.length with h|h
   ·exact h
   ·rw [Xz h] at hj;cases hj
  have hov:Over (cF ls ms) H:=by rw [hH];(repeat refine br ?_ rfl);exact bq
  rw [hov _ (by simp only [rid];omega) (by simp only [rid];omega)];have:=vZ (xe ls.length) (ls:=ls) (ms:=ms) (i:=0) (k:=j) (l:=l) (by omega) (by omega) hj hne
  rwa [Xy] at this ⊢
 have h2:look H 2=some (.var (gX ls 0)):=by rw [hH];rfl
 have h3:Nat.beq (gX ls 0).length ls.length=true:=by
  rw [Xr,eu,Yr];exact ZL _
 simp only [dD,V.u0,h2,h1,h3,aak];rfl
theorem S7 (p:Pg) (hf:bC p=true) (hp:Lim p) (hn0:p.ag≠[]):Ret P0 jz [pgD p] (.slice 1 ((ak p).map P8) false):=by
 have hth:=mY p hp.decls;have how:=mZ p hf hp;have hfl:nF p=p.ag.length:=by simp
 have U9:(p.ag.map fuL).length=p.ag.length:=by simp
 have hF:=hp.ag;have hN:=hp.nodes;have hnl:(p.nodes.map ndL).length=p.nodes.length:=by simp
 have V6:(decide (((p.ag.map fuL).length:Int)=((p.ag.map fuL).length:Nat))&&decide ((0:Int)<=((p.ag.map fuL).length:Nat))&&decide ((((p.ag.map fuL).length:Nat):Int) * ((24:Nat):Int)<=70368744177664))=true:=by simp at hfl ⊢;omega
 have V7:(decide (((p.ag.map fuL).length:Int)=((p.ag.map fuL).length:Nat))&&decide ((0:Int)<=((p.ag.map fuL).length:Nat))&&decide ((((p.ag.map fuL).length:Nat):Int) * ((8:Nat):Int)<=70368744177664))=true:=by simp;omega
 have hpos:0<(p.ag.map fuL).length:=by show 0<nF p;rw [hfl];exact YS.2 hn0
 have hpi:(0:Int)<((p.ag.map fuL).length:Nat):=by omega
 have hal:(cH p).length=p.ag.length:=by simp
 have hAl:(cH p).length<100000:=by rw [hal];exact hF
 have hS0:ym p 0=⟨(63,.d (I ((0:Nat):Int)))::(62,.d (I ((p.nodes.map ndL).length:Nat)))::(61,.d (bY p.nodes))::loR p,loH p (cf rid 0 (cH p)++List.replicate 0 (.d .nil)) (bQ mid 0 (cH p).length++List.replicate 0 (.d .aV)) (cF (cH p) ((cH p).map cj)),1000000,[],0⟩:=rfl;have hSn:Ik p (nF p)=⟨(31,.d (I (nF p:Nat)))::(30,.d (I ((p.ag.map fuL).length:Nat)))::(29,.d (.slice 3 (p.ag.map fuL) false))::loR p,loH p (cf rid 0 (cH p)++List.replicate 0 (.d .nil)) (bQ mid 0 (cH p).length++List.replicate 0 (.d .aV)) (cF (cH p) ((cH p).map cj)),1000000,[],0⟩:=by
  have e:(cH p).take (nF p)=cH p:=XB (by rw [hal,hfl];omega);rw [Ik,e,ZA,show nF p=(cH p).length by rw [hal,hfl]]
 have hSe:ym p p.nodes.length=⟨(63,.d (I (p.nodes.length:Nat)))::(62,.d (I ((p.nodes.map ndL).length:Nat)))::(61,.d (bY p.nodes))::loR p,loH p (gX (ak p) 0) (jF (ak p).length 0) (cF (ak p) ((ak p).map cj)),1000000,[],0⟩:=by
  rw [ym,wa]
 have hll:(ak p).length=nF p:=by rw [<- wa,Af,hfl]
 have hdat:∀H,H=loH p (gX (ak p) 0) (jF (ak p).length 0) (cF (ak p) ((ak p).map cj))->dD H [.row 2 (nF p)]=some [.slice 1 ((ak p).map P8) false]:=fun H h=>by
  have:=ND (by simp) (by rw [hll,hfl];exact hF) h
  rwa [hll] at this
 have hms:((cH p).map cj).length=(cH p).length:=by simp
 refine bf qI rfl ?_
 repeat refine aw ?_
 refine ae 1 [] hth ?_
 repeat (first|refine aw ?_|refine f1 ?_)
 refine cI (nF p) (Ik p) (fun _=>True) ?_ (fun _=>?_) (fun j hj hpre=>?_)
 ·refine En (ls:=[]) (ms:=[]) (r:=nF p - 0) (r':=nF p - 0) rfl (by simp) ?_ ?_ ?_ rfl rfl (fun id x h=>by simp [jD,look] at h)
  ·repeat' first|exact trivial|refine ⟨⟨_,rfl,?_⟩,?_⟩|exact cN (by first|with_reducible rfl|omega)|exact Or.inl ⟨rfl,rfl⟩
  ·rfl
  ·rfl
 ·rw [hSn]
  repeat (first|refine aw ?_|refine f1 ?_)
  refine aH ?_
  repeat (first|refine aw ?_|refine f1 ?_)
  refine cI p.nodes.length (ym p) (fun _=>True) (ep hS0 ?_) (fun _=>?_) (fun k hk hpre=>?_)
  ·refine v8 (ls:=cH p) (ms:=(cH p).map cj) (r:=0) (r':=0) hms hAl ?_ rfl rfl rfl rfl rfl (by (repeat refine br ?_ rfl);exact bq)
   repeat' first|exact trivial|refine ⟨⟨_,rfl,?_⟩,?_⟩|exact cN (by first|with_reducible rfl|omega)|exact Or.inl ⟨rfl,rfl⟩
  ·rw [hSe]
   repeat (first|refine aw ?_|refine f1 ?_)
   refine aH ?_
   repeat (first|refine aw ?_|refine f1 ?_)
   exact aC rfl rfl (hdat _ rfl) rfl rfl
  ·exact KN p hf hp k hk hpre
 ·exact KJ p hp j (by omega) hpre
theorem Qc (l:List Str):u6 (P8 l) [fS l]:=by
 refine .cons ?_ (.refl _)
 split
 ·rename_i h;subst h;exact .slice (.refl _)
 ·exact .refl _
abbrev sc (ls:List (List Str)):Dat:=.slice 1 (ls.map fun l=>[fS l]) false
theorem sd (p:Pg) (hf:bC p=true) (hp:Lim p):Ret P0 jz [pgD p] (sc (ak p)):=by
 by_cases hn0:p.ag=[]
 ·obtain ⟨h1,h2⟩:=S0 p hf hp hn0
  rw [h1];exact h2.res (.slice (.refl _))
 ·refine (S7 p hf hp hn0).res (.slice ?_)
  generalize ak p=ls
  induction ls with
  | nil=>exact .refl _
  | cons l ls ih=>exact .cons (Qc l) ih
end Uw.Tryz
namespace Uw.Tryz
open Go Uw
theorem kP (p:Pg):(ak p).length=p.ag.length:=by rw [<- wa,Af]
theorem Ah (p:Pg) (hp:Lim p) (f:Int):Ret P0 mL [pgD p,I f] (fS (iO p f)):=by
 have hfm:=rX p hp;have hlo:=fun h=>sd p h hp;have hfl:(p.ag.map fuL).length=p.ag.length:=by simp
 have hll:=kP p;by_cases hbad:f<0\/(p.ag.length:Int)<=f\/bC p=false
 ·have hr:iO p f=[]:=by rw [iO,if_pos hbad]
  rw [hr];refine Ret.res (r:=.nil) ?_ (.nil 1);refine bf qJ rfl ?_;by_cases h1:f<0
  ·repeat refine aw ?_
   exact aC rfl rfl rfl rfl rfl
  by_cases h2:(p.ag.length:Int)<=f
  ·repeat refine aw ?_
   exact aC rfl rfl rfl rfl rfl
  ·have h3:bC p=false:=by rcases hbad with h|h|h;exact absurd h h1;exact absurd h h2;exact h
   rw [h3] at hfm
   repeat refine aw ?_
   exact aC rfl rfl rfl rfl rfl
 ·have h1:¬f<0:=fun h=>hbad (.inl h)
  have h2:f<(p.ag.length:Int):=by omega
  have h3:bC p=true:=by
   cases h:bC p with
   | true=>rfl
   | false=>exact absurd (.inr (.inr h)) hbad
  rw [h3] at hfm;have hlo:=hlo h3;have hr:iO p f=(ak p).getD f.toNat []:=by rw [iO,if_neg hbad]
  obtain ⟨l,hl⟩:∃l,(ak p)[f.toNat]? = some l:=⟨(ak p)[f.toNat]'(by omega),by simp⟩
  have hel:((ak p).map fun l=>[fS l])[f.toNat]? = some [fS l]:=by simp [hl]
  have hml:((ak p).map fun l=>[fS l]).length=p.ag.length:=by simp [hll]
  rw [hr,List.getD,hl];refine bf qJ rfl ?_
  repeat refine aw ?_
  exact aC rfl rfl rfl rfl rfl
def ll (k:Int) (s:Str):Dat:=.tuple [I ((fr k s).getD 0),.bool (fr k s).isSome]
theorem oC (k:Int) (s:Str):Ret P0 tM [I k,.str s] (ll k s):=by
 by_cases k1:k=1
 ·subst k1
  by_cases a1:s=Nk
  ·subst a1;refine bf cE rfl ?_;repeat refine aw ?_
   exact aC rfl rfl rfl rfl rfl
  by_cases a2:s=Nl
  ·subst a2;refine bf cE rfl ?_;repeat refine aw ?_
   exact aC rfl rfl rfl rfl rfl
  by_cases a3:s=Nn
  ·subst a3;refine bf cE rfl ?_;repeat refine aw ?_
   exact aC rfl rfl rfl rfl rfl
  have e:ll 1 s = .tuple [I 0,.bool false]:=by simp [ll,fr,a1,a2,a3]
  rw [e];have b1:¬s=[103,101,116]:=a1;have b2:¬s=[100,101,108]:=a2;have b3:¬s=[112,117,116]:=a3;refine bf cE rfl ?_;repeat refine aw ?_
  exact aC rfl rfl rfl rfl rfl
 by_cases k2:k=2
 ·subst k2
  by_cases a1:s=Gw
  ·subst a1;refine bf cE rfl ?_;repeat refine aw ?_
   exact aC rfl rfl rfl rfl rfl
  by_cases a2:s=Np
  ·subst a2;refine bf cE rfl ?_;repeat refine aw ?_
   exact aC rfl rfl rfl rfl rfl
  have e:ll 2 s = .tuple [I 0,.bool false]:=by simp [ll,fr,a1,a2]
  rw [e];have b1:¬s=[112,117,115,104]:=a1;have b2:¬s=[112,111,112]:=a2;refine bf cE rfl ?_;repeat refine aw ?_
  exact aC rfl rfl rfl rfl rfl
 by_cases k3:k=3
 ·subst k3
  by_cases a1:s=Gx
  ·subst a1;refine bf cE rfl ?_;repeat refine aw ?_
   exact aC rfl rfl rfl rfl rfl
  by_cases a2:s=Gy
  ·subst a2;refine bf cE rfl ?_;repeat refine aw ?_
   exact aC rfl rfl rfl rfl rfl
  have e:ll 3 s = .tuple [I 0,.bool false]:=by simp [ll,fr,a1,a2]
  rw [e];have b1:¬s=[115,101,110,100]:=a1;have b2:¬s=[114,101,99,118]:=a2;refine bf cE rfl ?_;repeat refine aw ?_
  exact aC rfl rfl rfl rfl rfl
 have e:ll k s = .tuple [I 0,.bool false]:=by simp [ll,fr,k1,k2,k3]
 rw [e];refine bf cE rfl ?_;repeat refine aw ?_
 exact aC rfl rfl rfl rfl rfl
end Uw.Tryz
namespace Uw.Tryz
open Go Uw
def q9:Nat->List Fu->MS->MS
 | _,[],es=>es
 | i,f::r,es=>q9 (i+1) r (if (aW es (.s f.name)).isSome then es else dx es (.s f.name) (I i))
def fnE (fs:List Fu):MS:=q9 0 fs []
theorem Ai (s:Str):∀(fs:List Fu) (i:Nat) (es:MS),aW (q9 i fs es) (.s s)=(aW es (.s s)).or ((fs.findIdx? fun f=>decide (f.name=s)).map fun j=>I ((i+j:Nat):Int))
 | [],i,es=>by simp [q9]
 | f::fs,i,es=>by
  rw [q9,Ai s fs,List.findIdx?_cons];have h1:aW (if (aW es (.s f.name)).isSome=true then es else dx es (.s f.name) (I i)) (.s s)=(aW es (.s s)).or (if f.name=s then some (I i) else none):=by
   split
   ·rename_i h
    by_cases he:f.name=s
    ·subst he
     cases hm:aW es (.s f.name) with
     | none=>rw [hm] at h;cases h
     | some v=>rfl
    ·rw [if_neg he];simp
   ·rename_i h
    rw [ft];by_cases he:f.name=s
    ·subst he
     simp only [if_true]
     cases hm:aW es (.s f.name) with
     | none=>rfl
     | some v=>rw [hm] at h;simp at h
    ·rw [if_neg he,if_neg (by simp;exact fun e=>he e.symm)];simp
  rw [h1];by_cases he:f.name=s
  ·rw [if_pos he]
   simp only [he,decide_true,if_true]
   cases aW es (.s s)<;>simp
  ·rw [if_neg he]
   simp only [he,decide_false]
   cases aW es (.s s) with
   | some v=>simp
   | none=>
    simp only [Option.or_none,Z7]
    cases fs.findIdx? fun f=>decide (f.name=s) with
    | none=>rfl
    | some j=>simp;omega
theorem Ey (p:Pg) (s:Str):aW (fnE p.ag) (.s s)=(db p s).map fun (j:Nat)=>I ((j:Nat):Int):=by
 rw [fnE,Ai];simp only [aW,Z7,Xy];rfl
abbrev sCs (p:Pg):List V:=[.d (.slice 3 (p.decls.map cD) false),.d (.slice 3 (p.ag.map fuL) false),.d (bY p.nodes),.hnd 0,.hnd 1,.d (cG (aJ p)),.d (sc (ak p))]
abbrev sBs (p:Pg):List Blk:=[.map none (thE p.decls),.map none (fnE p.ag)]
abbrev sHp (p:Pg):Heap:=[(2,.var (sCs p)),(0,.map none (thE p.decls)),(1,.map none (fnE p.ag))]
theorem Bj (p:Pg) (hp:Lim p):bh P0 lx [.agg (sCs p)] (sBs p) (.d (.bool (pu p))) (sBs p):=by
 have hN:=hp.nodes;have hnl:(p.nodes.map ndL).length=p.nodes.length:=by simp
 have hall:(∀(j:Nat) (h:j<p.nodes.length),mW p p.nodes[j]=false)->pu p=false:=fun h=>by
  rw [pu,X2];intro x hx;obtain ⟨j,hj,rfl⟩:=XQ.1 hx;rw [h j hj];simp
 have hone:∀(j:Nat) (h:j<p.nodes.length),mW p p.nodes[j]=true->pu p=true:=fun j h e=>by
  rw [pu,YA];exact ⟨_,XF h,e⟩
 generalize pu p=R at *;refine aF rI rfl ?_
 repeat refine aw ?_
 refine cI p.nodes.length (fun j:Nat=>⟨[(13,.d (I j)),(12,.d (I ((p.nodes.map ndL).length:Nat))),(11,.d (bY p.nodes)),(1,.ptr 2 0)],sHp p,3,[],2⟩) (fun j=>∀h:j<p.nodes.length,mW p p.nodes[j]=false) (by exact Uw.wM) (fun hg=>?_) (fun j hj hg=>?_)
 ·rw [hall (fun j h=>hg j h h)]
  repeat refine aw ?_
  refine aH ?_
  repeat refine aw ?_
  refine aE 2 rfl rfl ?_;exact Uw.wM
 have he:(p.nodes.map ndL)[(j:Int).toNat]? = some (ndL p.nodes[j]):=by simp [hj]
 have hone:=hone j hj;have hth:=wZ p p.nodes[j].name;clear hall;have hG:mW p p.nodes[j]=false->(fun j=>∀h:j<p.nodes.length,mW p p.nodes[j]=false) j:=fun h _=>h;have hd:∀x,mW p x=(if x.kind=2\/x.kind=9 then (match bk p x.name with|some k=>!decide (k=0)|none=>false)
  else if x.kind=10\/x.kind=11 then (bk p x.name).isSome
  else if x.kind=8 then (fr ((bk p x.name).getD 0) x.name2).isNone
  else false):=fun x=>rfl
 rw [hd] at hone hG;clear hd;generalize p.nodes[j]=x at *;obtain ⟨xk,xn,xs,xt,xo⟩:=x;have he:(p.nodes.map ndL)[(j:Int).toNat]? = some [I xk,I xn,.str xs,.str xt,cG xo]:=he;simp only at hone hG hth
 cases ht:bk p xs with
 | none=>
  rw [ht] at hth hone hG;have hth:aW (thE p.decls) (.s xs)=none:=hth;by_cases k8:xk=8
  ·subst k8
   have hne:=oC 0 xt;rw [ll] at hne
   cases hq:fr 0 xt with
   | some c=>
    rw [hq] at hne;have hG1:=hG (by simp [hq])
    repeat (first|refine aw ?_|refine f1 ?_|refine m1 ?_)
    exact aK j hG1 (by exact Uw.wM)
   | none=>
    rw [hq] at hne;rw [hone (by simp [hq])]
    repeat (first|refine aw ?_|refine f1 ?_|refine m1 ?_)
    refine bK (aE 2 rfl rfl ?_);exact Uw.wM
  have hG1:=hG (by simp [k8]);by_cases h:xk=2\/xk=9\/xk=10\/xk=11
  ·rcases h with rfl|rfl|rfl|rfl
   all_goals repeat (first|refine aw ?_|refine f1 ?_|refine m1 ?_)
   all_goals exact aK j hG1 (by exact Uw.wM)
  obtain ⟨k2,k9,k10,k11⟩:xk≠2/\xk≠9/\xk≠10/\xk≠11:=by omega
  repeat (first|refine aw ?_|refine f1 ?_|refine m1 ?_)
  exact aK j hG1 (by exact Uw.wM)
 | some kd=>
  rw [ht] at hth hone hG;have hth:aW (thE p.decls) (.s xs)=some (I kd):=hth;by_cases k8:xk=8
  ·subst k8
   have hne:=oC kd xt;rw [ll] at hne
   cases hq:fr kd xt with
   | some c=>
    rw [hq] at hne;have hG1:=hG (by simp [hq])
    repeat (first|refine aw ?_|refine f1 ?_|refine m1 ?_)
    exact aK j hG1 (by exact Uw.wM)
   | none=>
    rw [hq] at hne;rw [hone (by simp [hq])]
    repeat (first|refine aw ?_|refine f1 ?_|refine m1 ?_)
    refine bK (aE 2 rfl rfl ?_);exact Uw.wM
  by_cases h2:xk=2\/xk=9
  ·by_cases hk:kd=0
   ·have hG1:=hG (by rw [if_pos h2];simp [hk])
    rcases h2 with rfl|rfl
    all_goals repeat (first|refine aw ?_|refine f1 ?_|refine m1 ?_)
    all_goals exact aK j hG1 (by exact Uw.wM)
   ·rw [hone (by rw [if_pos h2];simp [hk])]
    rcases h2 with rfl|rfl
    all_goals repeat (first|refine aw ?_|refine f1 ?_|refine m1 ?_)
    all_goals refine bK (aE 2 rfl rfl ?_)
    all_goals exact Uw.wM
  by_cases h1:xk=10\/xk=11
  ·rw [hone (by rw [if_neg h2,if_pos h1];rfl)]
   rcases h1 with rfl|rfl
   all_goals repeat (first|refine aw ?_|refine f1 ?_|refine m1 ?_)
   all_goals refine bK (aE 2 rfl rfl ?_)
   all_goals exact Uw.wM
  have hG1:=hG (by rw [if_neg h2,if_neg h1,if_neg k8]);obtain ⟨k2,k9,k10,k11⟩:xk≠2/\xk≠9/\xk≠10/\xk≠11:=by omega
  repeat (first|refine aw ?_|refine f1 ?_|refine m1 ?_)
  exact aK j hG1 (by exact Uw.wM)
end Uw.Tryz
namespace Uw.Tryz
open Go Uw
theorem Rf (p:Pg) (hF:p.ag≠[]) (s:Str):∃f:Fu,f.args.length=argsAt p s/\((aW (fnE p.ag) (.s s)=none/\(p.ag.map fuL)[(0:Int).toNat]? = some (fuL f))\/∃i:Nat,aW (fnE p.ag) (.s s)=some (I i)/\i<p.ag.length/\(p.ag.map fuL)[((i:Nat):Int).toNat]? = some (fuL f)):=by
 have hpos:=YS.2 hF
 cases hq:db p s with
 | none=>
  refine ⟨p.ag[0],?_,.inl ⟨by rw [Ey,hq];rfl,?_⟩⟩
  ·rw [argsAt,hq];simp [List.getD,hpos]
  ·show (p.ag.map fuL)[0]? = _
   simp [hpos]
 | some i=>
  have hi:i<p.ag.length:=by
   rw [db] at hq;exact (X5.1 hq).1
  refine ⟨p.ag[i],?_,.inr ⟨i,by rw [Ey,hq];rfl,hi,?_⟩⟩
  ·rw [argsAt,hq];simp [List.getD,hi]
  ·show (p.ag.map fuL)[i]? = _
   simp [hi]
theorem ip {P:Program} {Q:aB->St->Prop} {S:Nat->St} {inv:Nat->Prop} {mu:Nat->Nat} {x:Nat} {kk:aB->St->Tree} (hkk:∀s,kk .ret s=Tree.done .ret s) {s:St} (h:WT P Q (.done .ret s)):WT P (mE S inv mu x fun e s=>WT P Q (kk e s)) (.done .ret s):=
 bK (by show WT P Q (kk .ret s);rw [hkk];exact h)
def mnB:bT:=qL (qL (qR (qL (qR (qR iD.code)))))
abbrev mnS (p:Pg) (j:Nat):St:=⟨[(21,.d (I j)),(20,.d (I ((p.nodes.map ndL).length:Nat))),(19,.d (bY p.nodes)),(1,.ptr 2 0)],sHp p,3,[],2⟩
abbrev mnG (p:Pg) (j:Nat):Prop:=∀h:j<p.nodes.length,manyN p p.nodes[j]=false
theorem Aj (p:Pg) (hp:Lim p) (hF0:p.ag≠[]) (R:Bool) (j:Nat) (hj:j<p.nodes.length) (hone:manyN p p.nodes[j]=true->R=true) (hpre:∀i,i<j->mnG p i) {kk:aB->St->Tree} (hkk:∀s,kk .ret s=Tree.done .ret s) :
  WT P0 (mE (mnS p) (A8 p.nodes.length (mnG p)) (forM p.nodes.length) j fun e s=>WT P0 (EQ 2 iD.res (.d (.bool R)) (sBs p)) (kk e s)) (exec mnB (mnS p j) Tree.done):=by
 have hN:=hp.nodes;have hF:=hp.ag;have hpos:=YS.2 hF0;have hpi:(0:Int)<((p.ag.map fuL).length:Nat):=by rw [XJ];omega
 have hnl:(p.nodes.map ndL).length=p.nodes.length:=by simp
 have hfl:(p.ag.map fuL).length=p.ag.length:=by simp
 have hfm:=Rf p hF0;have he:(p.nodes.map ndL)[(j:Int).toNat]? = some (ndL p.nodes[j]):=by simp [hj]
 have hth:=wZ p p.nodes[j].name;have hG:manyN p p.nodes[j]=false->mnG p j:=fun h _=>h;have hd:∀x,manyN p x=(if x.kind=10 then !decide (x.of.length=argsAt p x.name2) else if x.kind=11 then !decide (argsAt p x.name2=1) else if x.kind=8 then !decide ((x.of.length:Int)=(fr ((bk p x.name).getD 0) x.name2).getD 0) else false):=fun x=>rfl;rw [hd] at hone hG;clear hd;generalize p.nodes[j]=x at *;obtain ⟨xk,xn,xs,xt,xo⟩:=x;have he:(p.nodes.map ndL)[(j:Int).toNat]? = some [I xk,I xn,.str xs,.str xt,.slice 1 (xo.map fun i=>[I i]) false]:=he;simp only at hone hG hth;have hol:(xo.map fun i=>[I i]).length=xo.length:=by simp
 obtain ⟨f,hf1,hf2⟩:=hfm xt;have hf3:(f.args.map fun s=>[Dat.str s]).length=argsAt p xt:=by rw [XJ];exact hf1
 clear hfm hf1;generalize argsAt p xt=af at *;obtain ⟨fn,fa,fb⟩:=f;simp only at hf3 hf2;by_cases k10:xk=10
 ·by_cases hw:xo.length=af
  ·have hG1:=hG (by rw [if_pos k10];simp [hw])
   have hw2:((xo.map fun i=>[I i]).length:Int)=((fa.map fun s=>[Dat.str s]).length:Nat):=by omega
   subst k10
   rcases hf2 with ⟨h1,h2⟩|⟨i,h1,h3,h2⟩
   all_goals have h2:_=some [.str fn,.slice 1 (fa.map fun s=>[Dat.str s]) false,I fb]:=h2
   all_goals repeat (first|refine aw ?_|refine f1 ?_|refine m1 ?_)
   all_goals exact aK j hG1 (by exact Uw.wM)
  ·rw [hone (by rw [if_pos k10];simp [hw])]
   have hw2:¬((xo.map fun i=>[I i]).length:Int)=((fa.map fun s=>[Dat.str s]).length:Nat):=by omega
   subst k10
   rcases hf2 with ⟨h1,h2⟩|⟨i,h1,h3,h2⟩
   all_goals have h2:_=some [.str fn,.slice 1 (fa.map fun s=>[Dat.str s]) false,I fb]:=h2
   all_goals repeat (first|refine aw ?_|refine f1 ?_|refine m1 ?_)
   all_goals refine ip hkk (aE 2 rfl rfl ?_)
   all_goals exact Uw.wM
 by_cases k11:xk=11
 ·by_cases hw:af=1
  ·have hG1:=hG (by rw [if_neg k10,if_pos k11];simp [hw])
   have hw2:((fa.map fun s=>[Dat.str s]).length:Int)=1:=by omega
   subst k11
   rcases hf2 with ⟨h1,h2⟩|⟨i,h1,h3,h2⟩
   all_goals have h2:_=some [.str fn,.slice 1 (fa.map fun s=>[Dat.str s]) false,I fb]:=h2
   all_goals repeat (first|refine aw ?_|refine f1 ?_|refine m1 ?_)
   all_goals exact aK j hG1 (by exact Uw.wM)
  ·rw [hone (by rw [if_neg k10,if_pos k11];simp [hw])]
   have hw2:¬((fa.map fun s=>[Dat.str s]).length:Int)=1:=by omega
   subst k11
   rcases hf2 with ⟨h1,h2⟩|⟨i,h1,h3,h2⟩
   all_goals have h2:_=some [.str fn,.slice 1 (fa.map fun s=>[Dat.str s]) false,I fb]:=h2
   all_goals repeat (first|refine aw ?_|refine f1 ?_|refine m1 ?_)
   all_goals refine ip hkk (aE 2 rfl rfl ?_)
   all_goals exact Uw.wM
 clear hf2 hf3;by_cases k8:xk=8
 ·obtain ⟨kd,hkd⟩:∃kd,(bk p xs).getD 0=kd:=⟨_,rfl⟩
  have hne:=oC kd xt;rw [ll] at hne;rw [hkd] at hone hG;generalize (fr kd xt).isSome=b at hne;generalize (fr kd xt).getD 0=nd at *;by_cases hw:(xo.length:Int)=nd
  ·have hG1:=hG (by rw [if_neg k10,if_neg k11,if_pos k8];simp [hw])
   have hw2:((xo.map fun i=>[I i]).length:Int)=nd:=by omega
   subst k8
   cases ht:bk p xs with
   | none=>
    rw [ht] at hth hkd;have hth:aW (thE p.decls) (.s xs)=none:=hth;obtain rfl:kd=0:=hkd.symm
    repeat (first|refine aw ?_|refine f1 ?_|refine m1 ?_)
    exact aK j hG1 (by exact Uw.wM)
   | some kd'=>
    rw [ht] at hth hkd;have hth:aW (thE p.decls) (.s xs)=some (I kd'):=hth;obtain rfl:kd' = kd:=hkd
    repeat (first|refine aw ?_|refine f1 ?_|refine m1 ?_)
    exact aK j hG1 (by exact Uw.wM)
  ·rw [hone (by rw [if_neg k10,if_neg k11,if_pos k8];simp [hw])]
   have hw2:¬((xo.map fun i=>[I i]).length:Int)=nd:=by omega
   subst k8
   cases ht:bk p xs with
   | none=>
    rw [ht] at hth hkd;have hth:aW (thE p.decls) (.s xs)=none:=hth;obtain rfl:kd=0:=hkd.symm
    repeat (first|refine aw ?_|refine f1 ?_|refine m1 ?_)
    refine ip hkk (aE 2 rfl rfl ?_);exact Uw.wM
   | some kd'=>
    rw [ht] at hth hkd;have hth:aW (thE p.decls) (.s xs)=some (I kd'):=hth;obtain rfl:kd' = kd:=hkd
    repeat (first|refine aw ?_|refine f1 ?_|refine m1 ?_)
    refine ip hkk (aE 2 rfl rfl ?_);exact Uw.wM
 have hG1:=hG (by rw [if_neg k10,if_neg k11,if_neg k8])
 repeat (first|refine aw ?_|refine f1 ?_|refine m1 ?_)
 exact aK j hG1 (by exact Uw.wM)
theorem Bm (p:Pg) (hp:Lim p) (hF0:p.ag≠[]):bh P0 ly [.agg (sCs p)] (sBs p) (.d (.bool (lG p))) (sBs p):=by
 have hN:=hp.nodes;have hF:=hp.ag;have hpos:=YS.2 hF0;have hpi:(0:Int)<((p.ag.map fuL).length:Nat):=by rw [XJ];omega
 have hnl:(p.nodes.map ndL).length=p.nodes.length:=by simp
 have hfl:(p.ag.map fuL).length=p.ag.length:=by simp
 have hall:¬0<argsAt p fU->(∀(j:Nat) (h:j<p.nodes.length),manyN p p.nodes[j]=false)->lG p=false:=fun h0 h=>by
  rw [lG,decide_eq_false h0,Bool.false_or,X2];intro x hx;obtain ⟨j,hj,rfl⟩:=XQ.1 hx;rw [h j hj];simp
 have hone:∀(j:Nat) (h:j<p.nodes.length),manyN p p.nodes[j]=true->lG p=true:=fun j h e=>by
  rw [lG,X6,YA];exact .inr ⟨_,XF h,e⟩
 have hzero:0<argsAt p fU->lG p=true:=fun h=>by rw [lG,decide_eq_true h];rfl
 have hfm:=Rf p hF0;generalize lG p=R at *;obtain ⟨fm,hm1,hm2⟩:=hfm fU;have hm3:(fm.args.map fun s=>[Dat.str s]).length=argsAt p fU:=by rw [XJ];exact hm1
 rw [<- hm3] at hzero hall;generalize argsAt p fU=am at *;obtain ⟨fmn,fma,fmb⟩:=fm;simp only at hm3 hzero hall hm2;refine aF rJ rfl ?_;by_cases ha:0<(fma.map fun s=>[Dat.str s]).length
 ·rw [hzero ha]
  have ha2:(0:Int)<((fma.map fun s=>[Dat.str s]).length:Nat):=by omega
  rcases hm2 with ⟨g1,g2⟩|⟨i,g1,g3,g2⟩
  all_goals have g2:_=some [.str fmn,.slice 1 (fma.map fun s=>[Dat.str s]) false,I fmb]:=g2
  all_goals have g1:aW (fnE p.ag) (.s [109,97,105,110])=_:=g1
  all_goals repeat (first|refine aw ?_|refine f1 ?_|refine m1 ?_)
  all_goals refine aE 2 rfl rfl ?_
  all_goals exact Uw.wM
 have ha2:¬(0:Int)<((fma.map fun s=>[Dat.str s]).length:Nat):=by omega
 have hall:=hall ha;clear hzero
 rcases hm2 with ⟨g1,g2⟩|⟨im,g1,g3,g2⟩
 ·have g2:_=some [.str fmn,.slice 1 (fma.map fun s=>[Dat.str s]) false,I fmb]:=g2
  have g1:aW (fnE p.ag) (.s [109,97,105,110])=_:=g1
  repeat (first|refine aw ?_|refine f1 ?_|refine m1 ?_)
  refine cI p.nodes.length (mnS p) (mnG p) (by exact Uw.wM) (fun hg=>?_) (fun j hj hg=>Aj p hp hF0 R j hj (hone j hj) hg (fun s=>rfl));rw [hall (fun j h=>hg j h h)]
  repeat refine aw ?_
  refine aH ?_
  repeat refine aw ?_
  refine aE 2 rfl rfl ?_;exact Uw.wM
 ·have g2:_=some [.str fmn,.slice 1 (fma.map fun s=>[Dat.str s]) false,I fmb]:=g2
  have g1:aW (fnE p.ag) (.s [109,97,105,110])=_:=g1
  repeat (first|refine aw ?_|refine f1 ?_|refine m1 ?_)
  refine cI p.nodes.length (mnS p) (mnG p) (by exact Uw.wM) (fun hg=>?_) (fun j hj hg=>Aj p hp hF0 R j hj (hone j hj) hg (fun s=>rfl));rw [hall (fun j h=>hg j h h)]
  repeat refine aw ?_
  refine aH ?_
  repeat refine aw ?_
  refine aE 2 rfl rfl ?_;exact Uw.wM
end Uw.Tryz
namespace Uw.Tryz
open Go Uw
theorem Ak:∀(fs:List Fu) (i:Nat) (es:MS),(q9 i fs es).length<=es.length+fs.length/\((q9 i fs es).length=es.length+fs.length<->(fs.map (·.name)).Nodup/\∀f∈fs,aW es (.s f.name)=none)
 | [],i,es=>by simp [q9]
 | f::fs,i,es=>by
  rw [q9]
  cases hm:aW es (.s f.name) with
  | some v=>
   obtain ⟨h1,h2⟩:=Ak fs (i+1) es;rw [if_pos (by rfl)];refine ⟨by simp;omega,⟨fun h=>?_,fun h=>?_⟩⟩
   ·simp at h;omega
   ·have:=h.2 f (by simp);rw [hm] at this;cases this
  | none=>
   obtain ⟨h1,h2⟩:=Ak fs (i+1) (dx es (.s f.name) (I i));rw [if_neg (by simp)];have hs:(dx es (.s f.name) (I i)).length=es.length+1:=by rw [zW,hm];rfl
   rw [hs] at h1 h2;refine ⟨by simp;omega,?_⟩;rw [show es.length+(f::fs).length=es.length+1+fs.length by simp;omega,h2,Yk,Zv];have hg:∀s:Str,aW (dx es (.s f.name) (I i)) (.s s)=if s=f.name then some (I i) else aW es (.s s):=fun s=>by
    rw [ft];simp
   constructor
   ·rintro ⟨g1,g2⟩
    refine ⟨⟨fun hin=>?_,g1⟩,fun f' hf'=>?_⟩
    ·obtain ⟨f',hf',he⟩:=Yf.1 hin
     have:=g2 f' hf';rw [hg,if_pos he] at this
     cases this
    ·rcases XA.1 hf' with rfl|hf'
     ·exact hm
     ·have:=g2 f' hf'
      rw [hg] at this
      split at this
      ·cases this
      ·exact this
   ·rintro ⟨⟨g1,g2⟩,g3⟩
    refine ⟨g2,fun f' hf'=>?_⟩;rw [hg,if_neg (fun e=>g1 (Yf.2 ⟨f',hf',e⟩))];exact g3 f' (by simp [hf'])
theorem Il (p:Pg):(thE p.decls).length<p.decls.length<->¬(p.decls.map (·.name)).Nodup:=by
 obtain ⟨h1,h2⟩:=zZ p.decls [];have e:(∀d∈p.decls,aW ([]:MS) (.s d.name)=none):=fun _ _=>rfl;constructor
 ·intro h hn
  have:=h2.2 ⟨hn,e⟩;rw [thE] at h;simp at this;omega
 ·intro h
  refine Classical.byContradiction fun h3=>h (h2.1 ?_).1;rw [thE] at h3;simp at h1 h3 ⊢;omega
theorem Io (p:Pg):(fnE p.ag).length<p.ag.length<->¬(p.ag.map (·.name)).Nodup:=by
 obtain ⟨h1,h2⟩:=Ak p.ag 0 [];have e:(∀f∈p.ag,aW ([]:MS) (.s f.name)=none):=fun _ _=>rfl;constructor
 ·intro h hn
  have:=h2.2 ⟨hn,e⟩;rw [fnE] at h;simp at this;omega
 ·intro h
  refine Classical.byContradiction fun h3=>h (h2.1 ?_).1;rw [fnE] at h3;simp at h1 h3 ⊢;omega
def JB (p:Pg) (l:List Str) (i:Nat):Prop:=∀h:i<l.length,bk p l[i]=none/\l[i]∉l.take i
theorem G0 (p:Pg):∀(r seen:List Str),rW p seen r=false<->∀(i:Nat) (h:i<r.length),bk p r[i]=none/\r[i]∉seen/\r[i]∉r.take i
 | [],seen=>by simp [rW]
 | a::r,seen=>by
  rw [rW,X0,X0,G0 p r (a::seen)];constructor
  ·rintro ⟨⟨h1,h2⟩,h3⟩ i h
   cases i with
   | zero=>exact ⟨by simpa using h1,by simpa using h2,by simp⟩
   | succ i=>
    obtain ⟨g1,g2,g3⟩:=h3 i (by simpa using h);rw [XA,not_or] at g2;refine ⟨g1,g2.2,?_⟩;rw [Yu,XA,not_or];exact ⟨g2.1,g3⟩
  ·intro h
   obtain ⟨a1,a2,a3⟩:=h 0 (by simp);refine ⟨⟨by simpa using a1,by simpa using a2⟩,fun i hi=>?_⟩;obtain ⟨b1,b2,b3⟩:=h (i+1) (by simpa using hi);rw [Yu,XA,not_or] at b3;exact ⟨b1,by rw [XA,not_or];exact ⟨b3.1,b2⟩,b3.2⟩
theorem KO (p:Pg) (l:List Str):rW p [] l=false<->∀i,i<l.length->JB p l i:=by
 rw [G0];constructor
 ·intro h i hi _;exact ⟨(h i hi).1,(h i hi).2.2⟩
 ·intro h i hi;exact ⟨(h i hi hi).1,by simp,(h i hi hi).2⟩
end Uw.Tryz
namespace Uw.Tryz
open Go Uw
abbrev twS (p:Pg) (j:Nat) (fa:List Str) (E:Nat->MS) (i:Nat):St:=⟨[(40,.d (I i)),(39,.d (I ((fa.map fun s=>[Dat.str s]).length:Nat))),(38,.d (fS fa)),(5,.hnd 4),(32,.d (I j)),(31,.d (I ((p.ag.map fuL).length:Nat))),(30,.d (.slice 3 (p.ag.map fuL) false)),(1,.ptr 2 0)],(4,.map none (E i))::sHp p,5,[],2⟩
theorem Am (p:Pg) (hp:Lim p):bh P0 kC [.agg (sCs p)] (sBs p) (.d (.bool (iG p))) (sBs p):=by
 have hF:=hp.ag;have hD:=hp.decls;have hfl:(p.ag.map fuL).length=p.ag.length:=by simp
 have hdl:(p.decls.map cD).length=p.decls.length:=by simp
 have h1:=Il p;have h2:=Io p;have hargs:=hp.args;refine aF qT rfl ?_;by_cases hD1:(thE p.decls).length<p.decls.length
 ·have hR:iG p=true:=by rw [iG,decide_eq_false (h1.1 hD1)];rfl
  rw [hR];have hD2:(((thE p.decls).length:Nat):Int)<((p.decls.map cD).length:Nat):=by omega
  repeat (first|refine aw ?_|refine f1 ?_|refine m1 ?_)
  refine aE 2 rfl rfl ?_;exact Uw.wM
 have hDn:(p.decls.map (·.name)).Nodup:=Classical.byContradiction fun h=>hD1 (h1.2 h);have hD2:¬(((thE p.decls).length:Nat):Int)<((p.decls.map cD).length:Nat):=by omega
 by_cases hF1:(fnE p.ag).length<p.ag.length
 ·have hR:iG p=true:=by rw [iG,decide_eq_true hDn,decide_eq_false (h2.1 hF1)];rfl
  rw [hR];have hF2:(((fnE p.ag).length:Nat):Int)<((p.ag.map fuL).length:Nat):=by omega
  repeat (first|refine aw ?_|refine f1 ?_|refine m1 ?_)
  refine aE 2 rfl rfl ?_;exact Uw.wM
 have hFn:(p.ag.map (·.name)).Nodup:=Classical.byContradiction fun h=>hF1 (h2.2 h);have hF2:¬(((fnE p.ag).length:Nat):Int)<((p.ag.map fuL).length:Nat):=by omega
 have hR:iG p=p.ag.any fun f=>rW p [] f.args:=by rw [iG,decide_eq_true hDn,decide_eq_true hFn];rfl
 have hall:(∀(j:Nat) (h:j<p.ag.length),rW p [] p.ag[j].args=false)->iG p=false:=fun h=>by
  rw [hR,X2];intro x hx;obtain ⟨j,hj,rfl⟩:=XQ.1 hx;rw [h j hj];simp
 have hone:∀(j:Nat) (h:j<p.ag.length),rW p [] p.ag[j].args=true->iG p=true:=fun j h e=>by
  rw [hR,YA];exact ⟨_,XF h,e⟩
 generalize iG p=R at *;clear hR h1 h2
 repeat (first|refine aw ?_|refine f1 ?_|refine m1 ?_)
 refine cI p.ag.length (fun j:Nat=>⟨[(32,.d (I j)),(31,.d (I ((p.ag.map fuL).length:Nat))),(30,.d (.slice 3 (p.ag.map fuL) false)),(1,.ptr 2 0)],sHp p,3,[],2⟩) (fun j=>∀h:j<p.ag.length,rW p [] p.ag[j].args=false) (by exact Uw.wM) (fun hg=>?_) (fun j hj hg=>?_)
 ·rw [hall (fun j h=>hg j h h)]
  repeat refine aw ?_
  refine aH ?_
  repeat refine aw ?_
  refine aE 2 rfl rfl ?_;exact Uw.wM
 have he:(p.ag.map fuL)[(j:Int).toNat]? = some (fuL p.ag[j]):=by simp [hj]
 have hone:=hone j hj;have hG:rW p [] p.ag[j].args=false->(fun j=>∀h:j<p.ag.length,rW p [] p.ag[j].args=false) j:=fun h _=>h;have hal:=hargs _ (XF hj);clear hall hargs;generalize p.ag[j]=x at *;obtain ⟨fn,fa,fb⟩:=x;have he:(p.ag.map fuL)[(j:Int).toNat]? = some [.str fn,.slice 1 (fa.map fun s=>[Dat.str s]) false,I fb]:=he;simp only at hone hG hal;have WJ:(fa.map fun s=>[Dat.str s]).length=fa.length:=by simp
 have hda:=KO p fa;obtain ⟨E,hE⟩:∃E:Nat->MS,∀i,E i=cj (fa.take i):=⟨_,fun _=>rfl⟩
 have hE0:([]:MS)=E 0:=by rw [hE];rfl
 have hEs:∀(i:Nat) (h:i<fa.length),dx (E i) (.s fa[i]) (.bool true)=E (i+1):=fun i h=>by rw [hE,hE,Xq h,qo]
 have hEg:∀(i:Nat) (s:Str),aW (E i) (.s s)=if s∈fa.take i then some (.bool true) else none:=fun i s=>by rw [hE,sM]
 have hge:∀(i:Nat) (h:i<fa.length),(fa.map fun s=>[Dat.str s])[(i:Int).toNat]? = some [.str fa[i]]:=fun i h=>by simp [h]
 have hbad:∀i,∀h:i<fa.length,¬(bk p fa[i]=none/\fa[i]∉fa.take i)->R=true:=fun i h hn=>hone (by
  cases hd:rW p [] fa with
  | true=>rfl
  | false=>exact absurd (hda.1 hd i h h) hn)
 have hgood:(∀i,i<fa.length->JB p fa i)->∀h:j<p.ag.length,rW p [] p.ag[j].args=false:=fun h=>hG (hda.2 h);have hS0:twS p j fa E 0=⟨[(40,.d (I (0:Nat))),(39,.d (I ((fa.map fun s=>[Dat.str s]).length:Nat))),(38,.d (fS fa)),(5,.hnd 4),(32,.d (I j)),(31,.d (I ((p.ag.map fuL).length:Nat))),(30,.d (.slice 3 (p.ag.map fuL) false)),(1,.ptr 2 0)],(4,.map none [])::sHp p,5,[],2⟩:=by rw [twS,<- hE0]
 clear hone hG hda hE
 repeat (first|refine aw ?_|refine f1 ?_|refine m1 ?_)
 refine cI fa.length (twS p j fa E) (JB p fa) (ep hS0 ?_) (fun hg2=>?_) (fun i hi hg2=>?_)
 ·exact Uw.wM
 ·have hg3:=hgood hg2
  refine aw ?_;refine aH ?_;refine aw ?_;exact aK j hg3 (by exact Uw.wM)
 have hel:=hge i hi;have hs:=hEs i hi;have hbad:=hbad i hi;have hfree:bk p fa[i]=none/\fa[i]∉fa.take i->JB p fa i:=fun h _=>h;have hth:=wZ p fa[i];have hEg:=hEg i fa[i];clear hge hEs hgood;generalize fa[i]=a at *
 cases ht:bk p a with
 | some kd=>
  rw [ht] at hth;have hth:aW (thE p.decls) (.s a)=some (I kd):=hth;rw [hbad (by rw [ht];simp)]
  repeat (first|refine aw ?_|refine f1 ?_|refine m1 ?_)
  refine bK (bK (aE 2 rfl rfl ?_));exact Uw.wM
 | none=>
  rw [ht] at hth;have hth:aW (thE p.decls) (.s a)=none:=hth;by_cases hin:a∈fa.take i
  ·rw [if_pos hin] at hEg
   rw [hbad (fun h=>h.2 hin)]
   repeat (first|refine aw ?_|refine f1 ?_|refine m1 ?_)
   refine bK (bK (aE 2 rfl rfl ?_));exact Uw.wM
  ·rw [if_neg hin] at hEg
   have hfr:=hfree ⟨ht,hin⟩
   repeat (first|refine aw ?_|refine f1 ?_|refine m1 ?_)
   exact aK i hfr (by exact Uw.wM)
end Uw.Tryz
namespace Uw
open Go
theorem cK {P:Program} {Q:aB->St->Prop} {o:Option Dat} {k:Dat->Tree} (z v:Dat) (h:o.getD z=v) (h2:WT P Q (k v)):WT P Q (.test o.isSome (.val o k) (k z)):=by
 cases o with
 | none=>exact FV rfl (by rw [<- h] at h2;exact h2)
 | some d=>exact I5 (v:=d) rfl (by rw [<- h] at h2;exact h2)
end Uw
namespace Uw.Tryz
open Go Uw
def Ez (es:MS) (d:Dec):MS:=dx es (.i d.kind) (match (aW es (.i d.kind)).getD (I 0) with | .int _ c=>I (c+1)|_=>I 1)
def ctE (ds:List Dec):MS:=ds.foldl Ez []
abbrev ctN (ds:List Dec) (k:Int):Nat:=ds.countP fun d=>decide (d.kind=k)
theorem G1 (ds:List Dec) (d:Dec):ctE (ds++[d])=Ez (ctE ds) d:=by rw [ctE,Y0];rfl
theorem uF (ds:List Dec):∀k:Int,(aW (ctE ds) (.i k)).getD (I 0)=I (ctN ds k:Nat):=by
 have key:∀n,∀k:Int,(aW (ctE (ds.take n)) (.i k)).getD (I 0)=I (ctN (ds.take n) k:Nat):=by
  intro n
  induction n with
  | zero=>intro k;rfl
  | succ n ih=>
   intro k
   rcases XR n ds.length with h|h
   ·rw [Xq h,G1,Ez,ft,ih]
    have e:ctN (List.take n ds++[ds[n]]) k=ctN (List.take n ds) k+if ds[n].kind=k then 1 else 0:=by
     rw [ctN,ZW,aan];simp
    rw [e];by_cases hk:k=ds[n].kind
    ·subst hk
     rw [if_pos rfl,if_pos rfl];show I _=I _
     congr 1
    ·rw [if_neg (by simp;exact hk),if_neg (fun e=>hk e.symm),ih];rfl
   ·have e:ds.take (n+1)=ds.take n:=by rw [XB h,XB (by omega)]
    rw [e];exact ih k
 intro k;have:=key ds.length k
 rwa [XE] at this
theorem JC (ds:List Dec) (d:Dec):dx (ctE ds) (.i d.kind) (I ((ctN ds d.kind:Nat)+1))=ctE (ds++[d]):=by
 rw [G1,Ez,uF]
end Uw.Tryz
namespace Uw.Tryz
open Go Uw
def Bn:List Dec->List Dec->MS->MS
 | _,[],es=>es
 | pre,d::r,es=>Bn (pre++[d]) r (dx es (.s d.name) (.agg [I d.kind,I (ctN pre d.kind:Nat)]))
def tgE (ds:List Dec):MS:=Bn [] ds []
theorem CP (d:Dec):∀(l pre:List Dec) (es:MS),Bn pre (l++[d]) es=dx (Bn pre l es) (.s d.name) (.agg [I d.kind,I (ctN (pre++l) d.kind:Nat)])
 | [],pre,es=>by rw [Yb,Bn,Bn,Bn,X4]
 | e::l,pre,es=>by rw [Xv,Bn,CP d l,Bn,XH];rfl
theorem An (ds:List Dec) (d:Dec):tgE (ds++[d])=dx (tgE ds) (.s d.name) (.agg [I d.kind,I (ctN ds d.kind:Nat)]):=by rw [tgE,CP];rfl
theorem EA (s:Str):∀(n:Nat) (ds:List Dec),(∀(i:Nat) (h:i<ds.length),i<n->ds[i].name≠s)->aW (tgE (ds.take n)) (.s s)=none
 | 0,ds,_=>by simp [tgE,Bn,aW]
 | n+1,ds,h=>by
  rcases XR n ds.length with hn|hn
  ·rw [Xq hn,An,ft,if_neg (by simp;exact fun e=>h n hn (by omega) e.symm)]
   exact EA s n ds fun i hi hin=>h i hi (by omega)
  ·rw [show ds.take (n+1)=ds.take n by rw [XB (by omega),XB hn]]
   exact EA s n ds fun i hi hin=>h i hi (by omega)
theorem EB (s:Str) (ds:List Dec) (i:Nat) (hi:i<ds.length) (hs:ds[i].name=s) (hu:∀(j:Nat) (h:j<ds.length),ds[j].name=s->j=i):∀n,i<n->aW (tgE (ds.take n)) (.s s)=some (.agg [I ds[i].kind,I (ctN (ds.take i) ds[i].kind:Nat)])
 | 0,h=>by omega
 | n+1,h=>by
  rcases XR n ds.length with hn|hn
  ·rw [Xq hn,An,ft]
   by_cases e:n=i
   ·subst e
    rw [if_pos (by rw [hs])]
   ·rw [if_neg (by simp;exact fun e2=>e (hu n hn e2.symm))]
    exact EB s ds i hi hs hu n (by omega)
  ·rw [show ds.take (n+1)=ds.take n by rw [XB (by omega),XB hn]]
   exact EB s ds i hi hs hu n (by omega)
theorem S8 (p:Pg) (hn:(p.decls.map (·.name)).Nodup) (s:Str):aW (tgE p.decls) (.s s)=(bk p s).map fun k=>Dat.agg [I k,I (sb p s:Nat)]:=by
 have e:=XE (l:=p.decls);by_cases h:∃(i:Nat) (hi:i<p.decls.length),p.decls[i].name=s
 ·obtain ⟨i,hi,hs⟩:=h
  have hu:∀(j:Nat) (h:j<p.decls.length),p.decls[j].name=s->j=i:=fun j hj hjs=>sK hn (by simpa using hj) (by simpa using hi) (by simp [hjs,hs]);have h1:=EB s p.decls i hi hs hu p.decls.length hi;rw [e] at h1;have h2:bk p s=some p.decls[i].kind:=by rw [<- hs];exact Ih hn (XF hi)
  have h3:sb p s=ctN (p.decls.take i) p.decls[i].kind:=by
   have:(p.decls.findIdx? fun d=>decide (d.name=s))=some i:=X5.2 ⟨hi,by simpa using hs,fun j hj hjs=>by
    have:=hu j (by omega) (by simpa using hjs);omega⟩
   rw [sb,this,h2];rfl
  rw [h1,h2,h3];rfl
 ·have h1:=EA s p.decls.length p.decls fun i hi _ hs=>h ⟨i,hi,hs⟩
  rw [e] at h1;have h2:bk p s=none:=GK.2 fun d hd he=>by
   obtain ⟨j,hj,rfl⟩:=XQ.1 hd;exact h ⟨j,hj,he⟩
  rw [h1,h2];rfl
def fuE (fs:List Fu):MS:=fs.zipIdx.foldl (fun es y=>dx es (.s y.1.name) (I (y.2:Nat))) []
theorem Ao (fs:List Fu) (f:Fu):fuE (fs++[f])=dx (fuE fs) (.s f.name) (I (fs.length:Nat)):=by
 rw [fuE,List.zipIdx_append,Y0];simp [fuE]
theorem EC (s:Str):∀(n:Nat) (fs:List Fu),(∀(i:Nat) (h:i<fs.length),i<n->fs[i].name≠s)->aW (fuE (fs.take n)) (.s s)=none
 | 0,fs,_=>by simp [fuE,aW]
 | n+1,fs,h=>by
  rcases XR n fs.length with hn|hn
  ·rw [Xq hn,Ao,ft,if_neg (by simp;exact fun e=>h n hn (by omega) e.symm)]
   exact EC s n fs fun i hi hin=>h i hi (by omega)
  ·rw [show fs.take (n+1)=fs.take n by rw [XB (by omega),XB hn]]
   exact EC s n fs fun i hi hin=>h i hi (by omega)
theorem ED (s:Str) (fs:List Fu) (i:Nat) (hi:i<fs.length) (hs:fs[i].name=s) (hu:∀(j:Nat) (h:j<fs.length),fs[j].name=s->j=i):∀n,i<n->aW (fuE (fs.take n)) (.s s)=some (I (i:Nat))
 | 0,h=>by omega
 | n+1,h=>by
  rcases XR n fs.length with hn|hn
  ·rw [Xq hn,Ao,ft]
   by_cases e:n=i
   ·subst e
    rw [if_pos (by rw [hs]),XW,ZQ (by omega)]
   ·rw [if_neg (by simp;exact fun e2=>e (hu n hn e2.symm))]
    exact ED s fs i hi hs hu n (by omega)
  ·rw [show fs.take (n+1)=fs.take n by rw [XB (by omega),XB hn]]
   exact ED s fs i hi hs hu n (by omega)
theorem Ip (p:Pg) (hn:(p.ag.map (·.name)).Nodup) (s:Str):aW (fuE p.ag) (.s s)=(db p s).map fun (i:Nat)=>I (i:Nat):=by
 have e:=XE (l:=p.ag)
 cases h:db p s with
 | some i=>
  obtain ⟨hi,hs⟩:=sL h;have h1:=ED s p.ag i hi hs (fun j hj hjs=>sK hn (by simpa using hj) (by simpa using hi) (by simp [hjs,hs])) p.ag.length hi;rw [e] at h1;rw [h1];rfl
 | none=>
  have h1:=EC s p.ag.length p.ag fun i hi _ hs=>by
   rw [<- hs,KI hn hi] at h;cases h
  rw [e] at h1;rw [h1];rfl
def hpE (n:Nat) (l:List Str):MS:=l.zipIdx.foldl (fun es y=>dx es (.s y.1) (I ((n+y.2:Nat):Int))) []
theorem Ap (n:Nat) (l:List Str) (s:Str):hpE n (l++[s])=dx (hpE n l) (.s s) (I ((n+l.length:Nat):Int)):=by
 rw [hpE,List.zipIdx_append,Y0];simp [hpE]
theorem Iq (n:Nat) (s:Str):∀(l:List Str),l.Nodup->aW (hpE n l) (.s s)=(lV l s).map fun i=>I ((n:Nat)+i):=by
 intro l;have key:∀(k:Nat) (l:List Str),l.length=k->l.Nodup->aW (hpE n l) (.s s)=(lV l s).map fun i=>I ((n:Nat)+i):=by
  intro k
  induction k with
  | zero=>
   intro l hl _;have:l=[]:=XD hl;subst this;rfl
  | succ k ih=>
   intro l hl hd;have hne:l≠[]:=by intro e;subst e;cases hl
   obtain ⟨r,x,rfl⟩:∃r x,l=r++[x]:=⟨l.dropLast,l.getLast hne,(List.dropLast_concat_getLast hne).symm⟩
   rw [Zl] at hd;rw [Ap,ft];have ih:=ih r (by simpa using hl) hd.1;by_cases e:x=s
   ·subst e
    have hx:x∉r:=fun hm=>hd.2.2 x hm x (by simp) rfl;have hf:(r.findIdx? fun t=>decide (t=x))=none:=ZE.2 fun t ht=>by
     have:t≠x:=fun e=>hx (e ▸ ht);simpa using this
    rw [if_pos rfl,lV,ZT,hf];simp
   ·rw [if_neg (by simp;exact fun h=>e h.symm),ih,lV,lV,ZT]
    cases r.findIdx? fun t=>decide (t=s) with
    | some i=>rfl
    | none=>simp [e]
 exact key l.length l rfl
theorem kc (x:Nd):∀(r:List Nd) (l:List Str),fD (r++[x]) l=if x.kind=11/\x.name2∉fD r l then fD r l++[x.name2] else fD r l
 | [],l=>rfl
 | y::r,l=>by rw [Xv,fD,kc x r,fD]
theorem nY:∀(r:List Nd) (l:List Str),l.Nodup->(fD r l).Nodup
 | [],l,h=>h
 | x::r,l,h=>by
  rw [fD];refine nY r _ ?_
  split
  ·rename_i hx
   rw [Zl];exact ⟨h,by simp,fun a ha b hb=>by simp at hb;subst hb;exact fun e=>hx.2 (e ▸ ha)⟩
  ·exact h
theorem CQ {l:List Str} {s:Str}:(lV l s).isSome=decide (s∈l):=by
 rw [lV,Option.isSome_map];by_cases h:s∈l
 ·rw [decide_eq_true h]
  cases hf:l.findIdx? fun t=>decide (t=s) with
  | some i=>rfl
  | none=>
   have:=ZE.1 hf s h;simp at this
 ·rw [decide_eq_false h]
  cases hf:l.findIdx? fun t=>decide (t=s) with
  | none=>rfl
  | some i=>
   obtain ⟨h1,h2,_⟩:=X5.1 hf;simp at h2;exact absurd (h2 ▸ XF h1) h
end Uw.Tryz
namespace Uw.Tryz
open Go Uw
theorem Aq {g:Int->Nat->List In4} {y:In4}:∀(l:List Int) (a:Nat),y∈layAll g l a->∃k∈l,∃a,y∈g k a
 | [],_,h=>by simp [layAll] at h
 | k::r,a,h=>by
  rw [layAll,XG] at h
  rcases h with h|h
  ·exact ⟨k,by simp,a,h⟩
  ·obtain ⟨k2,h1,h2⟩:=Aq r _ h
   exact ⟨k2,by simp [h1],h2⟩
theorem lay_all {ns:List Nd} {N:Nms} {R:In4->Prop} (hL:Lays ns) (hJ:∀a:Int,R ⟨16,a,0,0⟩/\R ⟨15,a,0,0⟩) (D:Nat->Prop) (hD:∀(i:Nat) (h:i<ns.length),D i->∀j:Nat,(j:Int)∈ns[i].of->D j) (hO:∀(i:Nat) (h:i<ns.length),D i->∀y∈eS N ns[i],R y) (k:Nat):k<ns.length->D k->∀a:Nat,∀y∈lay ns N k a,R y:=by
 induction k using Nat.strongRecOn with
 | ind k ih=>
  intro hk hd a;have hc:∀c∈ns[k].of,∀a:Nat,∀y∈lay ns N c a,R y:=fun c hcm a=>by
   obtain ⟨h1,h2⟩:=hL.low k hk c hcm;obtain ⟨m,rfl⟩:∃m:Nat,c=(m:Int):=⟨c.toNat,by omega⟩
   exact ih m (by omega) (by omega) (hD k hk hd m hcm) a
  have h13:=hL.ifs k hk;have h14:=hL.xg k hk;have ho:=hO k hk hd;rw [Ab N hL k hk a];generalize ns[k]=x at *;intro y hy
  split at hy
  ·rename_i k13
   have h13:=h13 k13;have c0:=hc _ (getD_mem (show 0<x.of.length by omega));have c1:=hc _ (getD_mem (show 1<x.of.length by omega))
   split at hy
   ·simp only [XG,XA] at hy
    rcases hy with hy|rfl|hy
    ·exact c0 _ _ hy
    ·exact (hJ _).1
    ·exact c1 _ _ hy
   ·have c2:=hc _ (getD_mem (show 2<x.of.length by omega))
    simp only [XG,XA] at hy
    rcases hy with hy|rfl|hy|rfl|hy
    ·exact c0 _ _ hy
    ·exact (hJ _).1
    ·exact c1 _ _ hy
    ·exact (hJ _).2
    ·exact c2 _ _ hy
  ·split at hy
   ·rename_i k14
    have h14:=h14 k14;have c0:=hc _ (getD_mem (show 0<x.of.length by omega));have c1:=hc _ (getD_mem (show 1<x.of.length by omega));simp only [XG,XA,YJ,or_false] at hy
    rcases hy with hy|rfl|hy|rfl
    ·exact c0 _ _ hy
    ·exact (hJ _).1
    ·exact c1 _ _ hy
    ·exact (hJ _).2
   ·rcases XG.1 hy with hy|hy
    ·obtain ⟨c,h1,a2,h2⟩:=Aq _ _ hy
     exact hc c h1 a2 y h2
    ·exact ho y hy
theorem EE {l:List Str} {s:Str} (h:s∈l):∃i:Nat,lV l s=some (i:Int)/\i<l.length:=by
 have:=CQ (l:=l) (s:=s);rw [decide_eq_true h,lV,Option.isSome_map] at this
 cases hf:l.findIdx? fun t=>decide (t=s) with
 | none=>rw [hf] at this;cases this
 | some i=>exact ⟨i,by rw [lV,hf];rfl,(X5.1 hf).1⟩
theorem G2 {p:Pg} {f:Int} {s:Str}:∀(r:List (Nd×Int)) (l:List Str),(s∈l\/∃x,(x,f)∈r/\eX p x=true/\x.name=s)->s∈rZ p f r l
 | [],l,h=>by
  rcases h with h|⟨x,h,_⟩
  ·exact h
  ·simp at h
 | (y,o)::r,l,h=>by
  rw [rZ];refine G2 r _ ?_
  rcases h with h|⟨x,hx,h1,h2⟩
  ·refine .inl ?_
   split
   ·exact Zr _ h
   ·exact h
  ·rcases XA.1 hx with e|hx
   ·injection e with e1 e2
    subst e1 e2 h2;refine .inl ?_;by_cases hm:x.name∈l
    ·rw [if_neg (fun e=>e.2.2 hm)];exact hm
    ·rw [if_pos ⟨h1,rfl,hm⟩];simp
   ·exact .inr ⟨x,hx,h1,h2⟩
theorem NF {p:Pg} (i:Nat) (hi:i<p.nodes.length):(p.nodes[i],(aJ p).getD i 0)∈p.nodes.zip (aJ p):=by
 have hl:=cS p;refine XQ.2 ⟨i,by simp [hl,hi],?_⟩;rw [Zn,List.getD,Xw (by omega)];rfl
theorem NG {p:Pg} (h:May p) (i f:Nat) (hi:i<p.nodes.length) (hf:f<p.ag.length) (ho:(aJ p).getD i 0=(f:Int)) (hl:eX p p.nodes[i]=true):p.nodes[i].name∈(ak p).getD f []:=by
 rw [sa h.formed f hf];have:=NF i hi;rw [ho] at this;exact G2 _ _ (.inr ⟨_,this,hl,rfl⟩)
structure EF (p:Pg):Prop where
 decl:∀d∈p.decls,0<=d.n/\d.n<4294967296
 set:∀x∈p.nodes,x.kind=9->x.name≠[]
theorem EG {p:Pg} {s:Str} {k:Int} (h:bk p s=some k):sb p s<dG p.decls k:=by
 rw [bk,Xu] at h;obtain ⟨d,hd,rfl⟩:=h;have hne:∃x∈p.decls,x.name=s:=⟨d,aae hd,by simpa using List.find?_some hd⟩
 have hfind:∃i,(p.decls.findIdx? fun d=>decide (d.name=s))=some i:=by
  cases hf:p.decls.findIdx? fun d=>decide (d.name=s) with
  | some i=>exact ⟨i,rfl⟩
  | none=>
   obtain ⟨x,hx,hxs⟩:=hne;have:=ZE.1 hf x hx;simp [hxs] at this
 obtain ⟨i,hi⟩:=hfind;obtain ⟨h1,h2,h3⟩:=X5.1 hi;have hdi:p.decls[i]=d:=by
  have:p.decls.find? (fun d=>decide (d.name=s))=some p.decls[i]:=List.find?_eq_some_iff_getElem.2 ⟨h2,i,h1,rfl,fun j hj=>by simpa using h3 j hj⟩;rw [hd] at this;injection this with this;exact this.symm
 have hth:bk p s=some d.kind:=by rw [bk,hd];rfl
 rw [sb,hi,hth];show dG (p.decls.take i) d.kind<dG p.decls d.kind;have e:dG p.decls d.kind=dG (p.decls.take i++p.decls.drop i) d.kind:=by rw [YD]
 rw [e,dG,dG,ZW,XY h1,List.countP_cons,hdi];simp
theorem oQ (p:Pg):(Ij p).length=dG p.decls 0:=by
 rw [Ij,XJ,dG,List.countP_eq_length_filter]
theorem May.kinds {p:Pg} (h:May p):dG p.decls 0<=16/\dG p.decls 1<=8/\dG p.decls 2<=8/\dG p.decls 3<=8/\p.ag.length<=16:=by
 have:=h.bound;simp only [gg,X0,decide_eq_false_iff_not] at this;obtain ⟨⟨⟨⟨⟨⟨h1,h2⟩,h3⟩,h4⟩,h5⟩,_⟩,_⟩:=this;exact ⟨by rw [dG];omega,by rw [dG];omega,by rw [dG];omega,by rw [dG];omega,by omega⟩
theorem verbs {k:Int} {s:Str} {n:Int} (h:fr k s=some n):(k=1/\((lH s=1/\n=1)\/(lH s=3/\n=1)\/(lH s=2/\n=2)))\/(k=2/\((lH s=4/\n=1)\/(lH s=5/\n=0)))\/(k=3/\((lH s=6/\n=1)\/(lH s=7/\n=0))):=by
 rw [fr] at h
 split at h
 ·rename_i hk
  refine .inl ⟨hk,?_⟩
  split at h
  ·rename_i hs
   injection h with h
   rcases hs with rfl|rfl
   ·exact .inl ⟨rfl,h.symm⟩
   ·exact .inr (.inl ⟨rfl,h.symm⟩)
  ·split at h
   ·rename_i hs
    injection h with h;subst hs
    exact .inr (.inr ⟨rfl,h.symm⟩)
   ·cases h
 ·split at h
  ·rename_i hk
   refine .inr (.inl ⟨hk,?_⟩)
   split at h
   ·rename_i hs
    injection h with h;subst hs
    exact .inl ⟨rfl,h.symm⟩
   ·split at h
    ·rename_i hs
     injection h with h;subst hs
     exact .inr ⟨rfl,h.symm⟩
    ·cases h
  ·split at h
   ·rename_i hk
    refine .inr (.inr ⟨hk,?_⟩)
    split at h
    ·rename_i hs
     injection h with h;subst hs
     exact .inl ⟨rfl,h.symm⟩
    ·split at h
     ·rename_i hs
      injection h with h;subst hs
      exact .inr ⟨rfl,h.symm⟩
     ·cases h
   ·cases h
theorem eE {a b:Int} (h:0<=a) (h2:a<b):dT a b=true:=by rw [dT,decide_eq_true h,decide_eq_true h2];rfl
structure Named (p:Pg) (c:Cd):Prop where
 cells:c.cells.length=dG p.decls 0
 maps:c.maps=(dG p.decls 1:Nat)
 stacks:c.stacks=(dG p.decls 2:Nat)
 chans:c.chans=(dG p.decls 3:Nat)
 ag:∀(k:Nat) (h:k<p.ag.length),k<c.ag.length/\(c.ag.getD k default).args=(p.ag[k].args.length:Nat)
 helps:∀(k:Nat),k<(bL p).length->p.ag.length+k<c.ag.length/\(c.ag.getD (p.ag.length+k) default).args=2
theorem CU {s:Str}:∀(r:List Nd) (l:List Str),s∈fD r l<->s∈l\/∃x∈r,x.kind=11/\x.name2=s
 | [],l=>by simp [fD]
 | x::r,l=>by
  rw [fD,CU r]
  split
  ·rename_i h
   simp only [XG,List.mem_singleton,XA,YJ,or_false,exists_eq_or_imp];constructor
   ·rintro ((h1|rfl)|h1)
    ·exact .inl h1
    ·exact .inr (.inl ⟨h.1,rfl⟩)
    ·exact .inr (.inr h1)
   ·rintro (h1|⟨_,rfl⟩|h1)
    ·exact .inl (.inl h1)
    ·exact .inl (.inr rfl)
    ·exact .inr h1
  ·rename_i h
   simp only [XA,exists_eq_or_imp];constructor
   ·rintro (h1|h1)
    ·exact .inl h1
    ·exact .inr (.inr h1)
   ·rintro (h1|⟨h1,rfl⟩|h1)
    ·exact .inl h1
    ·refine .inl ?_
     by_cases hm:x.name2∈l
     ·exact hm
     ·exact absurd ⟨h1,hm⟩ h
    ·exact .inr h1
theorem sg {p:Pg} {s:Str}:s∈bL p<->∃x∈p.nodes,x.kind=11/\x.name2=s:=by rw [bL,CU];simp
theorem KP {p:Pg} (h:May p) (hr:EF p) {c:Cd} (hc:Named p c) (i f:Nat) (hi:i<p.nodes.length) (hf:f<p.ag.length) (ho:(aJ p).getD i 0=(f:Int)) (b:Bd) (hb:b.locals=(((ak p).getD f []).length:Nat)):∀y∈eS (fh p f) p.nodes[i],dU c b y=true:=by
 have hx:p.nodes[i]∈p.nodes:=XF hi;have hz:=NF i hi;have hln:=fun hl=>NG h i f hi hf ho hl;have hsh:=(jf h.formed i hi).2;have hcall:=h.call hx;have hread:=h.read hx;have hset:=hr.set _ hx;have hpar:p.nodes[i].kind=11->p.nodes[i].name2∈bL p:=fun e=>sg.2 ⟨_,hx,e,rfl⟩;have hname:nU p p.nodes[i] (f:Int)=false:=by
  have:=h.name;simp only [nameP,X0,X2] at this;have:=this.1.2 _ hz;rw [ho] at this;simpa using this
 have hsort:mW p p.nodes[i]=false:=by
  have:=h.sort;simp only [pu,X2] at this;simpa using this _ hx
 have Vi:manyN p p.nodes[i]=false:=by
  have:=h.many;simp only [lG,X0,X2] at this;simpa using this.2 _ hx
 generalize p.nodes[i]=x at *;obtain ⟨xk,xn,xs,xt,xo⟩:=x;simp only at hsh hcall hread hset hpar hln;have hloc:xs∈(ak p).getD f []->∃n:Nat,yl (fh p f) xs=(n:Int)/\(n:Int)<b.locals:=fun hm=>by
  obtain ⟨n,e,hn⟩:=EE hm;refine ⟨n,?_,by rw [hb];omega⟩;show (lV ((ak p).getD f []) xs).getD (-1)=_;rw [e];rfl
 have hth:(fh p f).things xs=(bk p xs).map fun k=>(k,((sb p xs:Nat):Int)):=rfl;intro y hy;by_cases k1:xk=1
 ·subst k1
  obtain rfl:y=⟨1,xn,0,0⟩:=by simpa [eS] using hy
  have:0<=xn/\xn<4294967296:=by simp [eR,nT] at hsh;exact ⟨hsh.1.2,hsh.2⟩
  exact eE this.1 this.2
 by_cases k2:xk=2
 ·subst k2
  cases ht:bk p xs with
  | none=>
   rw [ht] at hth;obtain rfl:y=⟨2,yl (fh p f) xs,0,0⟩:=by simpa [eS,hth] using hy
   have hm:xs∈(ak p).getD f []:=by simpa [nU,ht] using hname
   obtain ⟨n,e,hn⟩:=hloc hm;rw [e];exact eE (by show (0:Int)<=(n:Int);omega) hn
  | some k=>
   rw [ht] at hth;obtain rfl:y=⟨4,(sb p xs:Nat),0,0⟩:=by simpa [eS,hth] using hy
   obtain rfl:k=0:=by simpa [mW,ht] using hsort
   have:=EG ht;exact eE (by show (0:Int)<=(sb p xs:Int);omega) (by show ((sb p xs:Nat):Int)<(c.cells.length:Nat);rw [hc.cells];omega)
 by_cases kb:3<=xk/\xk<=7
 ·obtain rfl:y=⟨xk+3,0,0,0⟩:=by simpa [eS,k1,k2,kb] using hy
  rw [dU,if_neg (by simp;omega),if_neg (by simp;omega),if_neg (by simp;omega),if_neg (by simp;omega),if_neg (by simp;omega)]
 by_cases k8:xk=8
 ·subst k8
  obtain ⟨k,ht,_⟩:=hread.1 rfl;rw [ht] at hth;obtain rfl:y=⟨11,lH xt,(sb p xs:Nat),(xo.length:Nat)⟩:=by simpa [eS,hth] using hy
  have hnd:(fr k xt).isSome=true:=by simpa [mW,ht] using hsort
  have hlen:(xo.length:Int)=(fr k xt).getD 0:=by simpa [manyN,ht] using Vi
  have hlt:=EG ht
  cases hn:fr k xt with
  | none=>rw [hn] at hnd;cases hnd
  | some n=>
   rw [hn] at hlen;have hlen:(xo.length:Int)=n:=hlen;show Ep c ⟨11,lH xt,(sb p xs:Nat),(xo.length:Nat)⟩=true;rw [Ep,hlen];have hb2:∀m:Int,m=(dG p.decls k:Nat)->dT ((sb p xs:Nat):Int) m=true:=fun m hm=>eE (by omega) (by omega)
   rcases verbs hn with ⟨rfl,hv⟩|⟨rfl,hv⟩|⟨rfl,hv⟩
   ·have:=hb2 _ hc.maps
    rcases hv with ⟨e,rfl⟩|⟨e,rfl⟩|⟨e,rfl⟩<;>simp [e,this]
   ·have:=hb2 _ hc.stacks
    rcases hv with ⟨e,rfl⟩|⟨e,rfl⟩<;>simp [e,this]
   ·have:=hb2 _ hc.chans
    rcases hv with ⟨e,rfl⟩|⟨e,rfl⟩<;>simp [e,this]
 by_cases k9:xk=9
 ·subst k9
  cases ht:bk p xs with
  | none=>
   rw [ht] at hth;obtain rfl:y=⟨3,yl (fh p f) xs,0,0⟩:=by simpa [eS,hth] using hy
   have hm:xs∈(ak p).getD f []:=hln (by simp [eX,ht,hset rfl]);obtain ⟨n,e,hn⟩:=hloc hm;rw [e];exact eE (by show (0:Int)<=(n:Int);omega) hn
  | some k=>
   rw [ht] at hth;obtain rfl:y=⟨5,(sb p xs:Nat),0,0⟩:=by simpa [eS,hth] using hy
   obtain rfl:k=0:=by simpa [mW,ht] using hsort
   have:=EG ht;exact eE (by show (0:Int)<=(sb p xs:Int);omega) (by show ((sb p xs:Nat):Int)<(c.cells.length:Nat);rw [hc.cells];omega)
 have JD:(xk=10\/xk=11)->(decide (kN (fh p f) xs = -1)||dT (kN (fh p f) xs) b.locals)=true:=fun hk=>by
  by_cases q:xs=[]
  ·rw [kN,if_pos q];rfl
  ·have ht:bk p xs=none:=by
    have e:mW p ⟨xk,xn,xs,xt,xo⟩=(bk p xs).isSome:=by
     rw [mW,if_neg (by simp only;omega),if_pos hk]
    rw [e] at hsort;simpa using hsort
   have hm:xs∈(ak p).getD f []:=hln (by rcases hk with rfl|rfl<;>simp [eX,ht,q]);obtain ⟨n,e,hn⟩:=hloc hm;rw [kN,if_neg q,e,eE (by omega) hn,Bool.or_true]
 by_cases k10:xk=10
 ·subst k10
  obtain ⟨m,hm,hfm,ha,_⟩:=hcall (.inl rfl);have hfu:(fh p f).ag xt=((m:Nat):Int):=by show (((db p xt).getD 0:Nat):Int)=_;rw [hfm];rfl
  obtain rfl:y=⟨13,(m:Nat),(xo.length:Nat),kN (fh p f) xs⟩:=by simpa [eS,hfu] using hy
  obtain ⟨g1,g2⟩:=hc.ag m hm;show (dT ((m:Nat):Int) (c.ag.length:Nat)&&decide (((xo.length:Nat):Int)=(c.ag.getD m default).args)&&(decide (kN (fh p f) xs = -1)||dT (kN (fh p f) xs) b.locals))=true;rw [JD (.inl rfl),eE (by omega) (by omega),g2,decide_eq_true (by rw [ha rfl])];rfl
 by_cases k11:xk=11
 ·subst k11
  obtain ⟨n,e,hn⟩:=EE (hpar rfl);have hfu:(fh p f).helps xt=((p.ag.length+n:Nat):Int):=by
   show (match lV (bL p) xt with|some i=>(p.ag.length:Nat)+i|none=>0)=_;rw [e];simp
  obtain rfl:y=⟨13,(p.ag.length+n:Nat),2,kN (fh p f) xs⟩:=by simpa [eS,hfu] using hy
  obtain ⟨g1,g2⟩:=hc.helps n hn;show (dT ((p.ag.length+n:Nat):Int) (c.ag.length:Nat)&&decide (2=(c.ag.getD (p.ag.length+n) default).args)&&(decide (kN (fh p f) xs = -1)||dT (kN (fh p f) xs) b.locals))=true;rw [JD (.inr rfl),eE (by omega) (by omega),g2];rfl
 have hrest:y=⟨14,0,0,0⟩\/y=⟨17,0,0,0⟩\/y=⟨18,0,0,0⟩\/y=⟨12,0,0,0⟩:=by
  simp only [eS,if_neg k1,if_neg k2,if_neg kb,if_neg k8,if_neg k9,if_neg k10,if_neg k11] at hy
  split at hy
  ·simp at hy;exact .inl hy
  split at hy
  ·simp at hy;exact .inr (.inl hy)
  split at hy
  ·simp at hy;exact .inr (.inr (.inl hy))
  split at hy
  ·simp at hy;exact .inr (.inr (.inr hy))
  ·simp at hy
 rcases hrest with rfl|rfl|rfl|rfl<;>rfl
end Uw.Tryz
namespace Uw.Tryz
open Go Uw
def rd (l:List Tok) (k:Nat) (xs:List (List Dat)):List Blk:=[.var [.d (vd l),.d (I k),.ref 1 0 0 xs.length],.arr 5 xs]
theorem bM (l:List Tok) (k:Nat) (xs:List (List Dat)) (hk:k<=l.length):bh P0 lv [.ptr 0 0] (rd l k xs) (.d (.str (hd (l.drop k)))) (rd l k xs):=by
 have e1:(l.map rz).length=l.length:=by simp
 by_cases h:k<l.length
 ·have e:hd (l.drop k)=l[k].text:=by rw [XY h];rfl
  rw [e];refine aF kA rfl ?_
  repeat refine aw ?_
  exact aE 2 rfl rfl (by exact Uw.wW)
 ·have e:hd (l.drop k)=[]:=by rw [X8 (by omega)];rfl
  rw [e];refine aF kA rfl ?_
  repeat refine aw ?_
  exact aE 2 rfl rfl (by exact Uw.wW)
abbrev cP:Dat:=.iface Be (.agg [])
theorem bH (l:List Tok) (k:Nat) (xs:List (List Dat)) (hk:k<=l.length) (hl:l.length<1000000) (s:Str) (hs:s≠[]):bh P0 lA [.ptr 0 0,.d (.str s)] (rd l k xs) (.d (.bool (decide (hd (l.drop k)=s)))) (rd l (if hd (l.drop k)=s then k+1 else k) xs):=by
 have pk:=bM l k xs hk;by_cases h:hd (l.drop k)=s
 ·rw [if_pos h,decide_eq_true h]
  rw [h] at pk;have hkl:k<l.length:=by
   rcases XR k l.length with h1|h1
   ·exact h1
   ·rw [X8 h1] at h;exact absurd h.symm hs
  clear h;refine aF kE rfl ?_
  repeat refine aw ?_
  refine ae 2 [0,1] pk ?_
  repeat refine aw ?_
  exact aE 2 rfl rfl (by exact Uw.wW)
 ·rw [if_neg h,decide_eq_false h]
  generalize hd (l.drop k)=p at *;refine aF kE rfl ?_
  repeat refine aw ?_
  refine ae 2 [0,1] pk ?_
  repeat refine aw ?_
  exact aE 2 rfl rfl (by exact Uw.wW)
theorem aN (l:List Tok) (k:Nat) (xs:List (List Dat)) (hk:k<=l.length) (hl:l.length<1000000) (s:Str) (hs:s≠[]) (h:hd (l.drop k)=s):bh P0 iE [.ptr 0 0,.d (.str s)] (rd l k xs) (.tuple []) (rd l (k+1) xs):=by
 have hv:=bH l k xs hk hl s hs;rw [if_pos h,decide_eq_true h] at hv;refine aF kF rfl ?_
 repeat refine aw ?_
 refine ae 2 [0,1] hv ?_
 repeat refine aw ?_
 exact c9 2 rfl rfl (by exact Uw.wW)
theorem aY (l:List Tok) (k:Nat) (xs:List (List Dat)) (hk:k<=l.length) (hl:l.length<1000000) (s:Str) (hs:s≠[]) (h:hd (l.drop k)≠s):ku P0 iE [.ptr 0 0,.d (.str s)] (rd l k xs) cP:=by
 have hv:=bH l k xs hk hl s hs;rw [if_neg h,decide_eq_false h] at hv;refine aL kF rfl ?_
 repeat refine aw ?_
 refine ae 2 [0,1] hv ?_
 repeat refine aw ?_
 exact aM rfl
theorem fj (l:List Tok) (k:Nat) (xs:List (List Dat)) (hk:k<=l.length) (hl:l.length<1000000) (K:Int) (h:k<l.length) (hK:l[k].kind=K):bh P0 dY [.ptr 0 0,.d (I K)] (rd l k xs) (.agg ((rz l[k]).map V.d)) (rd l (k+1) xs):=by
 have e1:(l.map rz).length=l.length:=by simp
 have he:(l.map rz)[((k:Int)+1 - 1).toNat]? = some (rz l[k]):=by
  rw [show ((k:Int)+1 - 1).toNat=k by omega];exact DF _ _ _ h
 refine aF gP rfl ?_
 repeat refine aw ?_
 exact aE 2 rfl rfl (by exact Uw.wW)
theorem iH (l:List Tok) (k:Nat) (xs:List (List Dat)) (hk:k<=l.length) (hl:l.length<1000000) (K:Int) (h:∀(h:k<l.length),l[k].kind≠K):ku P0 dY [.ptr 0 0,.d (I K)] (rd l k xs) cP:=by
 have e1:(l.map rz).length=l.length:=by simp
 by_cases h1:k<l.length
 ·have h2:=h h1
  clear h;refine aL gP rfl ?_
  repeat refine aw ?_
  exact aM rfl
 ·clear h
  refine aL gP rfl ?_
  repeat refine aw ?_
  exact aM rfl
theorem tt (l:List Tok) (k:Nat) (xs:List (List Dat)) (hk:k<=l.length) (hl:l.length<1000000) (h:k<l.length) (hK:l[k].kind=1) (hw:wI l[k].text=false):bh P0 b9 [.ptr 0 0] (rd l k xs) (.d (.str l[k].text)) (rd l (k+1) xs):=by
 have wd:=fj l k xs hk hl 1 h hK;simp only [wI,X0,decide_eq_false_iff_not,FW,M1,zp,FX,iu,fX,pV,xI,sIf,xJ,uh,gi,nA] at hw;obtain ⟨⟨⟨⟨⟨⟨⟨⟨⟨⟨⟨⟨w1,w2⟩,w3⟩,w4⟩,w5⟩,w6⟩,w7⟩,w8⟩,w9⟩,w10⟩,w11⟩,w12⟩,w13⟩:=hw;refine aF gQ rfl ?_
 repeat' first|refine aw ?_|refine bw (fun _=>?_) fun _=>?_
 refine ae 2 [0,1] wd ?_
 repeat' first|refine aw ?_|refine bw (fun _=>?_) fun _=>?_
 exact aE 2 rfl rfl (by exact Uw.wW)
theorem iI (l:List Tok) (k:Nat) (xs:List (List Dat)) (hk:k<=l.length) (hl:l.length<1000000) (h:∀(h:k<l.length),l[k].kind≠1\/wI l[k].text=true):ku P0 b9 [.ptr 0 0] (rd l k xs) cP:=by
 by_cases h1:∃h1:k<l.length,l[k].kind=1
 ·obtain ⟨h1,h2⟩:=h1
  have h3:=(h h1).resolve_left (fun e=>e h2);clear h;have wd:=fj l k xs hk hl 1 h1 h2;generalize l[k]=t at *;simp only [wI,X6,decide_eq_true_eq,or_assoc] at h3
  rcases h3 with h3|h3|h3|h3|h3|h3|h3|h3|h3|h3|h3|h3|h3
  all_goals
   rw [rz,h3] at wd;refine aL gQ rfl ?_
   repeat refine aw ?_
   refine ae 2 [0,1] wd ?_
   repeat refine aw ?_
   exact aM rfl
 ·have wd:=iH l k xs hk hl 1 (fun h h2=>h1 ⟨h,h2⟩)
  refine aL gQ rfl ?_
  repeat refine aw ?_
  refine bg 2 [0,1] wd ?_;intro h n
  repeat refine aw ?_
  exact aM rfl
def ofD (kind:Int) (of:List Nat):Dat:=
 if kind=1\/kind=2\/kind=12 then .nil
 else if kind=8\/kind=10\/kind=11 then (if of=[] then .nil else .slice 1 (of.map fun (i:Nat)=>[I i]) false)
 else if kind=13\/kind=18 then .slice 1 (of.map fun (i:Nat)=>[I i]) false
 else .slice 1 (of.map fun (i:Nat)=>[I i]) true
def bR (x:Nod):List Dat:=[I x.kind,I x.n,.str x.name,.str x.name2,ofD x.kind x.of]
theorem uG (l:List Tok) (k:Nat) (xs:List (List Dat)) (hx:xs.length<1000000) (a b:Int) (c d:Str) (o:Dat) (ho:o = .nil\/∃ys z,o = .slice 1 ys z):bh P0 bB [.ptr 0 0,.agg [.d (I a),.d (I b),.d (.str c),.d (.str d),.d o]] (rd l k xs) (.d (I xs.length)) (rd l k (xs++[[I a,I b,.str c,.str d,o]])):=by
 have e0:((xs.length+1:Nat):Int) - 1=(xs.length:Nat):=by omega
 rcases ho with rfl|⟨ys,z,rfl⟩
 ·refine aF iF rfl ?_
  repeat refine aw ?_
  refine bW ⟨[(0,.ptr 0 0)],[(0,.var [.d (vd l),.d (I k),.ref 1 0 0 (xs.length+1)]),(1,.arr 5 (xs++[[I a,I b,.str c,.str d,.nil]]))],3,[],2⟩ ?_ ?_
  ·repeat refine aw ?_
   exact aX (.inl ⟨rfl,by exact Uw.wW⟩)
  ·repeat refine aw ?_
   exact aE 2 rfl rfl (by exact Uw.wW)
 ·refine aF iF rfl ?_
  repeat refine aw ?_
  refine bW ⟨[(0,.ptr 0 0)],[(0,.var [.d (vd l),.d (I k),.ref 1 0 0 (xs.length+1)]),(1,.arr 5 (xs++[[I a,I b,.str c,.str d,.slice 1 ys z]]))],3,[],2⟩ ?_ ?_
  ·repeat refine aw ?_
   exact aX (.inl ⟨rfl,by exact Uw.wW⟩)
  ·repeat refine aw ?_
   exact aE 2 rfl rfl (by exact Uw.wW)
end Uw.Tryz
namespace Uw.Tryz
open Go Uw
def rdN (l:List Tok) (k:Nat) (ns:List Nod):List Blk:=rd l k (ns.map bR)
inductive Out where
 | ok (v:V) (bs:List Blk)
 | bad
 | out
def cT (f:FuncId) (vs:List V) (bs:List Blk) (x:Out):Prop:=
 match x with
 | .ok v bs'=>bh P0 f vs bs v bs'
 | .bad=>ku P0 f vs bs cP
 | .out=>True
def OQ (b:Nat) (res:List gB) (x:Out):aB->St->Prop:=
 match x with
 | .ok v bs'=>EQ b res v bs'
 | .bad=>PQ res cP
 | .out=>fun _ _=>True
theorem sQ {f:FuncId} {m:bD} {vs:List V} {bs:List Blk} {x:Out} (hf:aQ P0 f m) (hn:Nat.ble vs.length m.n=true) (hx:x≠.out) (hw:WT P0 (OQ bs.length m.res x) (exec m.code ⟨ez 0 vs,bn 0 bs,bs.length,[],bs.length⟩ Tree.done)):cT f vs bs x:=by
 cases x with
 | ok v bs'=>exact aF hf hn hw
 | bad=>exact aL hf hn hw
 | out=>exact absurd rfl hx
theorem wb (b:Nat) {res:List gB} {x:Out} {v:V} {bs' : List Blk} {vs' : List V} {st:St} (hx:x = .ok v bs') (hd:st.defers=[]) (hr:resV st res=some vs') (hw:Weak ⟨[(0,mD vs')],st.heap,st.next,[],b⟩ ⟨[(0,v)],bn 0 bs',bs'.length,[],b⟩):WT P0 (OQ b res x) (.done .ret st):=by
 subst hx;exact aE b hd hr hw
theorem lW (b:Nat) {res:List gB} {x:Out} {st:St} (hx:x = .bad) (hd:st.defers=[]):WT P0 (OQ b res x) (.done (.panic cP) st):=by
 subst hx;exact aM hd
def G3 (l:List Tok) (ns:List Nod) (x:R Ex):Out:=
 match x with
 | .ok e r=>.ok (.d (I ((ns.length+e.sz - 1:Nat)))) (rdN l (l.length - r.length) (ns++e.flat ns.length))
 | .bad=>.bad
 | .out=>.out
abbrev OkE (f:FuncId) (l:List Tok) (k:Nat) (ns:List Nod) (x:R Ex):Prop:=cT f [.ptr 0 0] (rdN l k ns) (G3 l ns x)
theorem JE {l:List Tok} {ns:List Nod} {x:R Ex} (h:x≠.out):G3 l ns x≠.out:=by cases x<;>first|exact absurd rfl h|(intro h;cases h)
theorem NH (k:Int) (of:List Nat):ofD k of = .nil\/∃ys z,ofD k of = .slice 1 ys z:=by
 unfold ofD
 repeat' split
 all_goals first|exact .inl rfl|exact .inr ⟨_,_,rfl⟩
theorem qu (l:List Tok) (k:Nat) (ns ms:List Nod) (nd:Nod) (hms:ms=ns++[nd]) (p:Nat) (hp:p=ns.length) (hx:ns.length<1000000) :
  bh P0 bB [.ptr 0 0,.agg [.d (I nd.kind),.d (I nd.n),.d (.str nd.name),.d (.str nd.name2),.d (ofD nd.kind nd.of)]] (rdN l k ns) (.d (I p)) (rdN l k ms):=by
 subst hms hp;have:=uG l k (ns.map bR) (by simpa using hx) nd.kind nd.n nd.name nd.name2 (ofD nd.kind nd.of) (NH _ _);have e:(ns++[nd]).map bR=ns.map bR++[[I nd.kind,I nd.n,.str nd.name,.str nd.name2,ofD nd.kind nd.of]]:=by simp [bR]
 rw [rdN,rdN,e];simpa using this
theorem d6 {l:List Tok} {k:Nat} {s:Str} (h:hd (l.drop k)=s) (hs:s≠[]):k<l.length:=by
 rcases XR k l.length with h1|h1
 ·exact h1
 ·rw [X8 h1] at h;exact absurd h.symm hs
theorem len_drop {l:List Tok} {k:Nat} (h:k<=l.length):l.length - (l.drop k).length=k:=by simp;omega
theorem si {l r:List Tok} {k s:Nat} (h:Suf (l.drop k) r s) (hk:k<=l.length):∃k',k'<=l.length/\r=l.drop k'/\k+s<=k':=by
 obtain ⟨j,h1,rfl,h3⟩:=h;simp at h1;exact ⟨k+j,by omega,by rw [YU],by omega⟩
def Exs.Ar (es:Exs) (b:Nat):Dat:=ofD 8 (es.places b)
def outA (l:List Tok) (ns:List Nod) (x:R Exs):Out:=
 match x with
 | .ok es r=>.ok (.d (es.Ar ns.length)) (rdN l (l.length - r.length) (ns++es.flat ns.length))
 | .bad=>.bad
 | .out=>.out
def NI (l:List Tok) (ns:List Nod) (s:Str) (x:R (Str×Exs)):Out:=
 match x with
 | .ok y r=>.ok (.d (I ((ns.length+(Ex.call s y.1 y.2).sz - 1:Nat)))) (rdN l (l.length - r.length) (ns++(Ex.call s y.1 y.2).flat ns.length))
 | .bad=>.bad
 | .out=>.out
structure CE (l:List Tok) (n:Nat):Prop where
 args:∀k ns,k<=l.length->ns.length<=k->cT eW [.ptr 0 0] (rdN l k ns) (outA l ns (fB n (l.drop k)))
 call:∀s k ns,k<=l.length->ns.length<=k->cT cO [.ptr 0 0,.d (.str s)] (rdN l k ns) (NI l ns s (fR n s (l.drop k)))
 oe:∀k ns,k<=l.length->ns.length<=k->OkE fM l k ns (iw n (l.drop k))
 prod:∀k ns,k<=l.length->ns.length<=k->OkE fL l k ns (gj n (l.drop k))
 sum:∀k ns,k<=l.length->ns.length<=k->OkE iY l k ns (lQ n (l.drop k))
 expr:∀k ns,k<=l.length->ns.length<=k->OkE bP l k ns (df n (l.drop k))
theorem xh {f:FuncId} {l:List Tok} {k:Nat} {ns:List Nod} {x:R Ex} (h:OkE f l k ns x) (hk:k<=l.length) (hs:∀e r,x = .ok e r->Suf (l.drop k) r e.sz) :
  x = .out\/(x = .bad/\ku P0 f [.ptr 0 0] (rdN l k ns) cP)\/∃e k',x = .ok e (l.drop k')/\k'<=l.length/\k+e.sz<=k'/\bh P0 f [.ptr 0 0] (rdN l k ns) (.d (I ((ns.length+e.sz - 1:Nat)))) (rdN l k' (ns++e.flat ns.length)):=by
 cases x with
 | out=>exact .inl rfl
 | bad=>exact .inr (.inl ⟨rfl,h⟩)
 | ok e r=>
  obtain ⟨k',h1,rfl,h2⟩:=si (hs e r rfl) hk;refine .inr (.inr ⟨e,k',rfl,h1,h2,?_⟩);have h:bh P0 f [.ptr 0 0] (rdN l k ns) (.d (I ((ns.length+e.sz - 1:Nat)))) (rdN l (l.length - (l.drop k').length) (ns++e.flat ns.length)):=h;rw [len_drop h1] at h;exact h
theorem NJ (ns:List Nod) (k:Int) (x y:Ex):ns++(Ex.bin k x y).flat ns.length=ns++x.flat ns.length++y.flat (ns++x.flat ns.length).length++[⟨k,0,[],[],[ns.length+x.sz - 1,(ns++x.flat ns.length).length+y.sz - 1]⟩]:=by
 simp [Ex.flat,Ex.az]
theorem wc (l:List Tok) (k:Nat) (ns:List Nod) (K:Int) (x y:Ex) (hx:(ns++x.flat ns.length++y.flat (ns++x.flat ns.length).length).length<1000000) (hK:3<=K/\K<=7) :
  bh P0 bB [.ptr 0 0,.agg [.d (I K),.d (I 0),.d (.str []),.d (.str []),.d (.slice 1 [[I ((ns.length+x.sz - 1:Nat))],[I (((ns++x.flat ns.length).length+y.sz - 1:Nat))]] true)]] (rdN l k (ns++x.flat ns.length++y.flat (ns++x.flat ns.length).length)) (.d (I ((ns.length+(Ex.bin K x y).sz - 1:Nat)))) (rdN l k (ns++(Ex.bin K x y).flat ns.length)):=by
 have:=qu l k _ _ _ (NJ ns K x y) (ns.length+(Ex.bin K x y).sz - 1) (by simp [Ex.sz,Ex.az];try omega) hx;have e:ofD K [ns.length+x.sz - 1,(ns++x.flat ns.length).length+y.sz - 1] = .slice 1 [[I ((ns.length+x.sz - 1:Nat))],[I (((ns++x.flat ns.length).length+y.sz - 1:Nat))]] true:=by
  unfold ofD;rw [if_neg (by omega),if_neg (by omega),if_neg (by omega)];rfl
 simp only [e] at this;exact this
theorem S9 (l:List Tok) (hl:l.length<1000000) (n:Nat) (ih:∀m,m<=n->CE l m) (k:Nat) (ns:List Nod) (hk:k<=l.length) (hn:ns.length<=k):OkE fL l k ns (gj (n+1) (l.drop k)):=by
 rw [gj]
 rcases xh ((ih n (Xn _)).oe k ns hk hn) hk (fun e r h=>(eD n).oe _ _ _ h) with h0|⟨h0,h1⟩|⟨e,k1,h0,hk1,nc,h1⟩
 ·rw [h0];exact trivial
 ·rw [h0]
  refine aL je rfl ?_
  repeat refine aw ?_
  refine bg 2 [0,1] h1 ?_;intro h m
  repeat refine aw ?_
  exact aM rfl
 ·rw [h0]
  show OkE _ _ _ _ (dQ n e (l.drop k1));by_cases hout:dQ n e (l.drop k1) = .out
  ·rw [hout];exact trivial
  generalize hR:dQ n e (l.drop k1)=R at hout;refine sQ je rfl (JE hout) ?_
  repeat refine aw ?_
  refine ae 2 [0,1] h1 ?_
  repeat refine aw ?_
  refine dK (fun ((e,k1,m):Ex×Nat×Nat)=>⟨[(3,.d (I ↑(ns.length+e.sz - 1))),(0,.ptr 0 0)],bn 0 (rdN l k1 (ns++e.flat ns.length)),2,[],2⟩) (fun (e,k1,m)=>dQ m e (l.drop k1)=R/\m<=n/\k1<=l.length/\k+e.sz<=k1) (fun (_,_,m)=>m) (e,k1,n) (by exact Uw.wW) ⟨hR,Xn _,hk1,nc⟩ ?_;clear hR h0 h1 hk1 nc;rintro ⟨e,k1,m⟩ ⟨hR,hm,hk1,hk2⟩
  cases m with
  | zero=>rw [dQ] at hR;exact absurd hR.symm hout
  | succ m=>
   rw [dQ] at hR;have pk:=bM l k1 ((ns++e.flat ns.length).map bR) hk1;have hfl:(ns++e.flat ns.length).length=ns.length+e.sz:=by simp [Ex.az]
   by_cases hs:hd (l.drop k1)=[42]
   ·have hlt:=d6 hs (by simp)
    rw [if_pos hs,XC] at hR;rw [hs] at pk
    rcases xh ((ih m (by omega)).oe (k1+1) (ns++e.flat ns.length) (by omega) (by omega)) (by omega) (fun e r h=>(eD m).oe _ _ _ h) with h0|⟨h0,h1⟩|⟨y,k2,h0,hk3,G4,h1⟩
    ·rw [h0] at hR;exact absurd hR.symm hout
    ·rw [h0] at hR
     have hb:G3 l ns R = .bad:=by rw [<- hR];rfl
     clear ih hR hout hs
     repeat refine aw ?_
     refine ae 2 [0,1] pk ?_
     repeat refine aw ?_
     refine dr bS rfl ?_
     repeat refine aw ?_
     refine bg 2 [0,1] h1 ?_;intro h q
     repeat refine aw ?_
     refine ny rfl ?_
     repeat refine aw ?_
     exact mF (lW 2 hb rfl)
    ·rw [h0] at hR
     have hR:dQ m (.bin 5 e y) (l.drop k2)=R:=hR;have hp:=wc l k2 ns 5 e y (by simp [Ex.az];omega) (by omega);clear ih hout hs
     repeat refine aw ?_
     refine ae 2 [0,1] pk ?_
     repeat refine aw ?_
     refine dr bS rfl ?_
     repeat refine aw ?_
     refine ae 2 [0,1] h1 ?_
     repeat refine aw ?_
     refine ae 2 [0,1] hp ?_
     repeat refine aw ?_
     refine dJ rfl rfl ?_
     repeat refine aw ?_
     exact cM (.bin 5 e y,k2,m) ⟨hR,by omega,hk3,by rw [Ex.sz];omega⟩ (by simp only;omega) (by exact Uw.wW)
   ·rw [if_neg hs] at hR
    have hb:G3 l ns R = .ok (.d (I ((ns.length+e.sz - 1:Nat)))) (rdN l k1 (ns++e.flat ns.length)):=by rw [<- hR];show Out.ok _ (rdN l (l.length - (l.drop k1).length) _)=_;rw [len_drop hk1]
    generalize hd (l.drop k1)=p at *;clear ih hR hout
    repeat refine aw ?_
    refine ae 2 [0,1] pk ?_
    repeat refine aw ?_
    exact wb 2 hb rfl rfl (by exact Uw.wW)
end Uw.Tryz
namespace Uw.Tryz
open Go Uw
theorem Vj (l:List Tok) (hl:l.length<1000000) (n:Nat) (ih:∀m,m<=n->CE l m) (k:Nat) (ns:List Nod) (hk:k<=l.length) (hn:ns.length<=k):OkE iY l k ns (lQ (n+1) (l.drop k)):=by
 rw [lQ]
 rcases xh ((ih n (Xn _)).prod k ns hk hn) hk (fun e r h=>(eD n).prod _ _ _ h) with h0|⟨h0,h1⟩|⟨e,k1,h0,hk1,nc,h1⟩
 ·rw [h0];exact trivial
 ·rw [h0]
  refine aL lE rfl ?_
  repeat refine aw ?_
  refine bg 2 [0,1] h1 ?_;intro h m
  repeat refine aw ?_
  exact aM rfl
 ·rw [h0]
  show OkE _ _ _ _ (eZ n e (l.drop k1));by_cases hout:eZ n e (l.drop k1) = .out
  ·rw [hout];exact trivial
  generalize hR:eZ n e (l.drop k1)=R at hout;refine sQ lE rfl (JE hout) ?_
  repeat refine aw ?_
  refine ae 2 [0,1] h1 ?_
  repeat refine aw ?_
  refine dK (fun ((e,k1,m):Ex×Nat×Nat)=>⟨[(3,.d (I ↑(ns.length+e.sz - 1))),(0,.ptr 0 0)],bn 0 (rdN l k1 (ns++e.flat ns.length)),2,[],2⟩) (fun (e,k1,m)=>eZ m e (l.drop k1)=R/\m<=n/\k1<=l.length/\k+e.sz<=k1) (fun (_,_,m)=>m) (e,k1,n) (by exact Uw.wW) ⟨hR,Xn _,hk1,nc⟩ ?_;clear hR h0 h1 hk1 nc;rintro ⟨e,k1,m⟩ ⟨hR,hm,hk1,hk2⟩
  cases m with
  | zero=>rw [eZ] at hR;exact absurd hR.symm hout
  | succ m=>
   rw [eZ] at hR;have pk:=bM l k1 ((ns++e.flat ns.length).map bR) hk1;have hfl:(ns++e.flat ns.length).length=ns.length+e.sz:=by simp [Ex.az]
   by_cases hs:hd (l.drop k1)=[43]\/hd (l.drop k1)=[45]
   ·have hlt:k1<l.length:=by rcases hs with hs|hs<;>exact d6 hs (by simp)
    rcases xh ((ih m (by omega)).prod (k1+1) (ns++e.flat ns.length) (by omega) (by omega)) (by omega) (fun e r h=>(eD m).prod _ _ _ h) with h0|⟨h0,h1⟩|⟨y,k2,h0,hk3,G4,h1⟩
    ·exfalso
     rcases hs with hs|hs
     ·rw [if_pos hs,XC,h0] at hR;exact hout hR.symm
     ·rw [if_neg (by rw [hs];decide),if_pos hs,XC,h0] at hR;exact hout hR.symm
    ·have hb:G3 l ns R = .bad:=by
      rcases hs with hs|hs
      ·rw [if_pos hs,XC,h0] at hR;rw [<- hR];rfl
      ·rw [if_neg (by rw [hs];decide),if_pos hs,XC,h0] at hR;rw [<- hR];rfl
     clear ih hR hout
     rcases hs with hs|hs
     all_goals
      rw [hs] at pk;clear hs
      repeat refine aw ?_
      refine ae 2 [0,1] pk ?_
      repeat refine aw ?_
      refine dr bS rfl ?_
      repeat refine aw ?_
      refine bg 2 [0,1] h1 ?_;intro h q
      repeat refine aw ?_
      refine ny rfl ?_
      repeat refine aw ?_
      exact mF (lW 2 hb rfl)
    ·rcases hs with hs|hs
     ·have hR:eZ m (.bin 3 e y) (l.drop k2)=R:=by rw [if_pos hs,XC,h0] at hR;exact hR
      have hp:=wc l k2 ns 3 e y (by simp [Ex.az];omega) (by omega);rw [hs] at pk;clear ih hout hs
      repeat refine aw ?_
      refine ae 2 [0,1] pk ?_
      repeat refine aw ?_
      refine dr bS rfl ?_
      repeat refine aw ?_
      refine ae 2 [0,1] h1 ?_
      repeat refine aw ?_
      refine ae 2 [0,1] hp ?_
      repeat refine aw ?_
      refine dJ rfl rfl ?_
      repeat refine aw ?_
      exact cM (.bin 3 e y,k2,m) ⟨hR,by omega,hk3,by rw [Ex.sz];omega⟩ (by simp only;omega) (by exact Uw.wW)
     ·have hR:eZ m (.bin 4 e y) (l.drop k2)=R:=by rw [if_neg (by rw [hs];decide),if_pos hs,XC,h0] at hR;exact hR
      have hp:=wc l k2 ns 4 e y (by simp [Ex.az];omega) (by omega);rw [hs] at pk;clear ih hout hs
      repeat refine aw ?_
      refine ae 2 [0,1] pk ?_
      repeat refine aw ?_
      refine dr bS rfl ?_
      repeat refine aw ?_
      refine ae 2 [0,1] h1 ?_
      repeat refine aw ?_
      refine ae 2 [0,1] hp ?_
      repeat refine aw ?_
      refine dJ rfl rfl ?_
      repeat refine aw ?_
      exact cM (.bin 4 e y,k2,m) ⟨hR,by omega,hk3,by rw [Ex.sz];omega⟩ (by simp only;omega) (by exact Uw.wW)
   ·rw [if_neg (fun h=>hs (.inl h)),if_neg (fun h=>hs (.inr h))] at hR
    have hb:G3 l ns R = .ok (.d (I ((ns.length+e.sz - 1:Nat)))) (rdN l k1 (ns++e.flat ns.length)):=by rw [<- hR];show Out.ok _ (rdN l (l.length - (l.drop k1).length) _)=_;rw [len_drop hk1]
    generalize hd (l.drop k1)=p at *;have hs1:¬p=[43]:=fun h=>hs (.inl h);have hs2:¬p=[45]:=fun h=>hs (.inr h);clear ih hR hout hs
    repeat refine aw ?_
    refine ae 2 [0,1] pk ?_
    repeat refine aw ?_
    exact bK (wb 2 hb rfl rfl (by exact Uw.wW))
theorem Ta (l:List Tok) (hl:l.length<1000000) (n:Nat) (ih:∀m,m<=n->CE l m) (k:Nat) (ns:List Nod) (hk:k<=l.length) (hn:ns.length<=k):OkE bP l k ns (df (n+1) (l.drop k)):=by
 rw [df]
 rcases xh ((ih n (Xn _)).sum k ns hk hn) hk (fun e r h=>(eD n).sum _ _ _ h) with h0|⟨h0,h1⟩|⟨e,k1,h0,hk1,nc,h1⟩
 ·rw [h0];exact trivial
 ·rw [h0]
  refine aL ca rfl ?_
  repeat refine aw ?_
  refine bg 2 [0,1] h1 ?_;intro h m
  repeat refine aw ?_
  exact aM rfl
 ·rw [h0]
  have pk:=bM l k1 ((ns++e.flat ns.length).map bR) hk1;have hfl:(ns++e.flat ns.length).length=ns.length+e.sz:=by simp [Ex.az]
  show OkE _ _ _ _ (if hd (l.drop k1)=[60] then _ else _);by_cases hs:hd (l.drop k1)=[60]\/hd (l.drop k1)=[61,61]
  ·have hlt:k1<l.length:=by rcases hs with hs|hs<;>exact d6 hs (by simp)
   rcases xh ((ih n (Xn _)).sum (k1+1) (ns++e.flat ns.length) (by omega) (by omega)) (by omega) (fun e r h=>(eD n).sum _ _ _ h) with h2|⟨h2,h3⟩|⟨y,k2,h2,hk3,G4,h3⟩
   ·rcases hs with hs|hs
    ·rw [if_pos hs,XC,h2];exact trivial
    ·rw [if_neg (by rw [hs];decide),if_pos hs,XC,h2];exact trivial
   ·rcases hs with hs|hs
    ·rw [if_pos hs,XC,h2]
     rw [hs] at pk;clear hs ih;refine aL ca rfl ?_
     repeat refine aw ?_
     refine ae 2 [0,1] h1 ?_
     repeat refine aw ?_
     refine ae 2 [0,1] pk ?_
     repeat refine aw ?_
     refine dr bS rfl ?_
     repeat refine aw ?_
     refine bg 2 [0,1] h3 ?_;intro h q
     repeat refine aw ?_
     refine ny rfl ?_
     repeat refine aw ?_
     exact aM rfl
    ·rw [if_neg (by rw [hs];decide),if_pos hs,XC,h2]
     rw [hs] at pk;clear hs ih;refine aL ca rfl ?_
     repeat refine aw ?_
     refine ae 2 [0,1] h1 ?_
     repeat refine aw ?_
     refine ae 2 [0,1] pk ?_
     repeat refine aw ?_
     refine dr bS rfl ?_
     repeat refine aw ?_
     refine bg 2 [0,1] h3 ?_;intro h q
     repeat refine aw ?_
     refine ny rfl ?_
     repeat refine aw ?_
     exact aM rfl
   ·rcases hs with hs|hs
    ·rw [if_pos hs,XC,h2]
     have hp:=wc l k2 ns 6 e y (by simp [Ex.az];omega) (by omega);rw [hs] at pk;show bh _ _ _ _ _ (rdN l (l.length - (l.drop k2).length) _);rw [len_drop hk3];clear hs ih;refine aF ca rfl ?_
     repeat refine aw ?_
     refine ae 2 [0,1] h1 ?_
     repeat refine aw ?_
     refine ae 2 [0,1] pk ?_
     repeat refine aw ?_
     refine dr bS rfl ?_
     repeat refine aw ?_
     refine ae 2 [0,1] h3 ?_
     repeat refine aw ?_
     refine ae 2 [0,1] hp ?_
     repeat refine aw ?_
     refine dJ rfl rfl ?_
     repeat refine aw ?_
     exact aE 2 rfl rfl (by exact Uw.wW)
    ·rw [if_neg (by rw [hs];decide),if_pos hs,XC,h2]
     have hp:=wc l k2 ns 7 e y (by simp [Ex.az];omega) (by omega);rw [hs] at pk;show bh _ _ _ _ _ (rdN l (l.length - (l.drop k2).length) _);rw [len_drop hk3];clear hs ih;refine aF ca rfl ?_
     repeat refine aw ?_
     refine ae 2 [0,1] h1 ?_
     repeat refine aw ?_
     refine ae 2 [0,1] pk ?_
     repeat refine aw ?_
     refine dr bS rfl ?_
     repeat refine aw ?_
     refine ae 2 [0,1] h3 ?_
     repeat refine aw ?_
     refine ae 2 [0,1] hp ?_
     repeat refine aw ?_
     refine dJ rfl rfl ?_
     repeat refine aw ?_
     exact aE 2 rfl rfl (by exact Uw.wW)
  ·rw [if_neg (fun h=>hs (.inl h)),if_neg (fun h=>hs (.inr h))]
   show bh _ _ _ _ _ (rdN l (l.length - (l.drop k1).length) _);rw [len_drop hk1];generalize hd (l.drop k1)=p at *;have hs1:¬p=[60]:=fun h=>hs (.inl h);have hs2:¬p=[61,61]:=fun h=>hs (.inr h);clear ih hs;refine aF ca rfl ?_
   repeat refine aw ?_
   refine ae 2 [0,1] h1 ?_
   repeat refine aw ?_
   refine ae 2 [0,1] pk ?_
   repeat refine aw ?_
   exact aE 2 rfl rfl (by exact Uw.wW)
end Uw.Tryz
namespace Uw.Tryz
open Go Uw
def Exs.app:Exs->Exs->Exs
 | .nil,b=>b
 | .cons e r,b=>.cons e (r.app b)
theorem Exs.As:∀(a b:Exs),(a.app b).sz=a.sz+b.sz
 | .nil,b=>by simp [Exs.app,Exs.sz]
 | .cons e r,b=>by rw [Exs.app,Exs.sz,Exs.sz,Exs.As r b];omega
theorem Exs.sj:∀(a b:Exs) (n:Nat),(a.app b).flat n=a.flat n++b.flat (n+a.sz)
 | .nil,b,n=>by simp [Exs.app,Exs.flat,Exs.sz]
 | .cons e r,b,n=>by rw [Exs.app,Exs.flat,Exs.flat,Exs.sj r b,Exs.sz,XH,Yj]
theorem Exs.ng:∀(a b:Exs) (n:Nat),(a.app b).places n=a.places n++b.places (n+a.sz)
 | .nil,b,n=>by simp [Exs.app,Exs.places,Exs.sz]
 | .cons e r,b,n=>by rw [Exs.app,Exs.places,Exs.places,Exs.ng r b,Exs.sz,Xv,Yj]
theorem Exs.we:∀(a:Exs),a.app .nil=a
 | .nil=>rfl
 | .cons e r=>by rw [Exs.app,Exs.we r]
theorem Exs.pz:∀(a b c:Exs),(a.app b).app c=a.app (b.app c)
 | .nil,b,c=>rfl
 | .cons e r,b,c=>by rw [Exs.app,Exs.app,Exs.app,Exs.pz r b c]
def eG (ys:List Nat):List (List Dat):=ys.map fun (i:Nat)=>[I i]
theorem Bo (l:List Tok) (k k' : Nat) (ns ms:List Nod) (p:Nat) (h:bh P0 bP [.ptr 0 0] (rdN l k ns) (.d (I p)) (rdN l k' ms)) :
  bh P0 cb [.ptr 3 0,.ptr 2 0] (rdN l k ns++[.var [.ptr 0 0],.var [.d .nil]]) (.tuple []) (rdN l k' ms++[.var [.ptr 0 0],.var [.ref 4 0 0 (eG [p]).length],.arr 1 (eG [p])]):=by
 refine aF da rfl ?_;refine bW ⟨[],bn 0 (rdN l k' ms++[.var [.ptr 0 0],.var [.ref 4 0 0 (eG [p]).length],.arr 1 (eG [p])]),5,[],4⟩ ?_ ?_
 ·repeat refine aw ?_
  refine ae 4 [0,1] h ?_
  repeat refine aw ?_
  exact aX (.inl ⟨rfl,by exact Uw.wW⟩)
 ·repeat refine aw ?_
  exact c9 4 rfl rfl (by exact Uw.wW)
theorem EH (l:List Tok) (k k' : Nat) (ns ms:List Nod) (ys:List Nat) (p:Nat) (hy:ys.length<1000000) (h:bh P0 bP [.ptr 0 0] (rdN l k ns) (.d (I p)) (rdN l k' ms)) :
  bh P0 cb [.ptr 3 0,.ptr 2 0] (rdN l k ns++[.var [.ptr 0 0],.var [.ref 4 0 0 (eG ys).length],.arr 1 (eG ys)]) (.tuple []) (rdN l k' ms++[.var [.ptr 0 0],.var [.ref 4 0 0 (eG (ys++[p])).length],.arr 1 (eG (ys++[p]))]):=by
 have e:eG (ys++[p])=eG ys++[[I p]]:=by simp [eG]
 have hy' : (eG ys).length<1000000:=by simpa [eG] using hy
 rw [e];generalize eG ys=zs at *;refine aF da rfl ?_;refine bW ⟨[],bn 0 (rdN l k' ms++[.var [.ptr 0 0],.var [.ref 4 0 0 (zs++[[I p]]).length],.arr 1 (zs++[[I p]])]),5,[],5⟩ ?_ ?_
 ·repeat refine aw ?_
  refine ae 5 [0,1] h ?_
  repeat refine aw ?_
  exact aX (.inl ⟨rfl,by exact Uw.wW⟩)
 ·repeat refine aw ?_
  exact c9 5 rfl rfl (by exact Uw.wW)
theorem Bq (l:List Tok) (k:Nat) (ns:List Nod) (h:ku P0 bP [.ptr 0 0] (rdN l k ns) cP) :
  ku P0 cb [.ptr 3 0,.ptr 2 0] (rdN l k ns++[.var [.ptr 0 0],.var [.d .nil]]) cP:=by
 refine aL da rfl ?_;refine oS ?_
 repeat refine aw ?_
 refine bg 4 [0,1] h ?_;intro H n
 repeat refine aw ?_
 exact aX ⟨cP,rfl,aM rfl⟩
theorem EI (l:List Tok) (k:Nat) (ns:List Nod) (ys:List Nat) (h:ku P0 bP [.ptr 0 0] (rdN l k ns) cP) :
  ku P0 cb [.ptr 3 0,.ptr 2 0] (rdN l k ns++[.var [.ptr 0 0],.var [.ref 4 0 0 (eG ys).length],.arr 1 (eG ys)]) cP:=by
 generalize eG ys=zs at *;refine aL da rfl ?_;refine oS ?_
 repeat refine aw ?_
 refine bg 5 [0,1] h ?_;intro H n
 repeat refine aw ?_
 exact aX ⟨cP,rfl,aM rfl⟩
theorem Tc {l:List Tok} {k:Nat} {ns:List Nod} {f:FuncId} {x:R Exs} (h:cT f [.ptr 0 0] (rdN l k ns) (outA l ns x)) (hk:k<=l.length) (hs:∀e r,x = .ok e r->Suf (l.drop k) r (e.sz+1)) :
  x = .out\/(x = .bad/\ku P0 f [.ptr 0 0] (rdN l k ns) cP)\/∃e k',x = .ok e (l.drop k')/\k'<=l.length/\k+(e.sz+1)<=k'/\bh P0 f [.ptr 0 0] (rdN l k ns) (.d (e.Ar ns.length)) (rdN l k' (ns++e.flat ns.length)):=by
 cases x with
 | out=>exact .inl rfl
 | bad=>exact .inr (.inl ⟨rfl,h⟩)
 | ok e r=>
  obtain ⟨k',h1,rfl,h2⟩:=si (hs e r rfl) hk;refine .inr (.inr ⟨e,k',rfl,h1,h2,?_⟩);have h:bh P0 f [.ptr 0 0] (rdN l k ns) (.d (e.Ar ns.length)) (rdN l (l.length - (l.drop k').length) (ns++e.flat ns.length)):=h;rw [len_drop h1] at h;exact h
theorem Qd {l:List Tok} {ns:List Nod} {x:R Exs} (h:x≠.out):outA l ns x≠.out:=by cases x<;>first|exact absurd rfl h|(intro h;cases h)
theorem Td (l:List Tok) (hl:l.length<1000000) (n:Nat) (ih:∀m,m<=n->CE l m) (k:Nat) (ns:List Nod) (hk:k<=l.length) (hn:ns.length<=k):cT eW [.ptr 0 0] (rdN l k ns) (outA l ns (fB (n+1) (l.drop k))):=by
 rw [fB];by_cases h0:hd (l.drop k)=[40]
 ·have hlt:=d6 h0 (by simp)
  have w0:=aN l k (ns.map bR) hk hl [40] (by simp) h0;have hv:=bH l (k+1) (ns.map bR) hlt hl [41] (by simp);rw [want,if_pos h0,XC];show cT _ _ _ (outA l ns (if hd (l.drop (k+1))=[41] then _ else _));by_cases h1:hd (l.drop (k+1))=[41]
  ·have hlt1:=d6 h1 (by simp)
   rw [if_pos h1,XC];rw [if_pos h1,decide_eq_true h1] at hv;show bh _ _ _ _ (.d .nil) (rdN l (l.length - (l.drop (k+1+1)).length) (ns++[]));rw [len_drop (by omega),X4];clear ih h0 h1;refine aF du rfl ?_
   repeat' first|refine aw ?_|refine bw (fun _=>?_) fun _=>?_
   refine dr cw rfl ?_
   repeat' first|refine aw ?_|refine bw (fun _=>?_) fun _=>?_
   refine ae 4 [0,1] w0 ?_
   repeat' first|refine aw ?_|refine bw (fun _=>?_) fun _=>?_
   refine ae 4 [0,1] hv ?_
   repeat' first|refine aw ?_|refine bw (fun _=>?_) fun _=>?_
   refine dJ rfl rfl ?_
   repeat' first|refine aw ?_|refine bw (fun _=>?_) fun _=>?_
   exact aE 2 rfl rfl (by exact Uw.wW)
  ·rw [if_neg h1]
   rw [if_neg h1,decide_eq_false h1] at hv
   rcases xh ((ih n (Xn _)).expr (k+1) ns hlt (by omega)) hlt (fun e r h=>(eD n).expr _ _ _ h) with h2|⟨h2,h3⟩|⟨e,k1,h2,hk1,nc,h3⟩
   ·rw [h2];exact trivial
   ·rw [h2]
    have a1:=Bq l (k+1) ns h3;clear ih h0 h1;refine aL du rfl ?_
    repeat' first|refine aw ?_|refine bw (fun _=>?_) fun _=>?_
    refine dr cw rfl ?_
    repeat' first|refine aw ?_|refine bw (fun _=>?_) fun _=>?_
    refine ae 4 [0,1] w0 ?_
    repeat' first|refine aw ?_|refine bw (fun _=>?_) fun _=>?_
    refine ae 4 [0,1] hv ?_
    repeat' first|refine aw ?_|refine bw (fun _=>?_) fun _=>?_
    refine bg 4 [0,1,2,3] a1 ?_;intro H q
    repeat' first|refine aw ?_|refine bw (fun _=>?_) fun _=>?_
    refine ny rfl ?_
    repeat' first|refine aw ?_|refine bw (fun _=>?_) fun _=>?_
    exact aM rfl
   ·rw [h2]
    show cT _ _ _ (outA l ns ((dt n (l.drop k1)).bind fun es r=>.ok (.cons e es) r));have hf1:ns++e.flat ns.length=ns++(Exs.cons e .nil).flat ns.length:=by simp [Exs.flat]
    have a1:=Bo l (k+1) k1 ns (ns++e.flat ns.length) _ h3;rw [hf1] at a1;have hz1:(Exs.cons e .nil).sz=e.sz:=rfl;generalize hR:(dt n (l.drop k1)).bind (fun es r=>R.ok (Exs.cons e es) r)=Rr;by_cases hout:Rr = .out
    ·rw [hout];exact trivial
    refine sQ du rfl (Qd hout) ?_
    repeat' first|refine aw ?_|refine bw (fun _=>?_) fun _=>?_
    refine dr cw rfl ?_
    repeat' first|refine aw ?_|refine bw (fun _=>?_) fun _=>?_
    refine ae 4 [0,1] w0 ?_
    repeat' first|refine aw ?_|refine bw (fun _=>?_) fun _=>?_
    refine ae 4 [0,1] hv ?_
    repeat' first|refine aw ?_|refine bw (fun _=>?_) fun _=>?_
    refine ae 4 [0,1,2,3] a1 ?_
    repeat' first|refine aw ?_|refine bw (fun _=>?_) fun _=>?_
    refine dK (fun ((d,k1,m):Exs×Nat×Nat)=>⟨[(0,.ptr 0 0),(1,V.func cb [] [V.ptr 3 0,V.ptr 2 0])],bn 0 (rdN l k1 (ns++d.flat ns.length)++[.var [.ptr 0 0],.var [.ref 4 0 0 (eG (d.places ns.length)).length],.arr 1 (eG (d.places ns.length))]),5,[],4⟩)
     (fun (d,k1,m)=>(dt m (l.drop k1)).bind (fun es r=>R.ok (d.app es) r)=Rr/\m<=n/\k1<=l.length/\k+d.sz+1<=k1/\d.places ns.length≠[]) (fun (_,_,m)=>m) (.cons e .nil,k1,n) (by exact Uw.wW) ⟨hR,Xn _,hk1,by omega,by simp [Exs.places]⟩ ?_
    clear hR h0 h1 h2 h3 hk1 nc a1 hf1 hz1 w0 hv;rintro ⟨d,k1,m⟩ ⟨hR,hm,hk1,hk2,hd0⟩
    cases m with
    | zero=>rw [dt] at hR;exact absurd hR.symm hout
    | succ m=>
     rw [dt] at hR;have hfl:(ns++d.flat ns.length).length=ns.length+d.sz:=by simp [Exs.az]
     have hv:=bH l k1 ((ns++d.flat ns.length).map bR) hk1 hl [44] (by simp);by_cases hs:hd (l.drop k1)=[44]
     ·have hlt:=d6 hs (by simp)
      rw [if_pos hs,XC] at hR;rw [if_pos hs,decide_eq_true hs] at hv
      rcases xh ((ih m (by omega)).expr (k1+1) (ns++d.flat ns.length) (by omega) (by omega)) (by omega) (fun e r h=>(eD m).expr _ _ _ h) with h0|⟨h0,h1⟩|⟨y,k2,h0,hk3,G4,h1⟩
      ·rw [h0] at hR;exact absurd hR.symm hout
      ·rw [h0] at hR
       have hb:outA l ns Rr = .bad:=by rw [<- hR];rfl
       have a1:=EI l (k1+1) _ (d.places ns.length) h1;clear ih hR hout hs h0 h1 hd0
       repeat' first|refine aw ?_|refine bw (fun _=>?_) fun _=>?_
       refine ae 5 [0,1] hv ?_
       repeat' first|refine aw ?_|refine bw (fun _=>?_) fun _=>?_
       refine bg 5 [0,1,2,3,4] a1 ?_;intro h q
       repeat' first|refine aw ?_|refine bw (fun _=>?_) fun _=>?_
       refine mF (ny rfl ?_)
       repeat' first|refine aw ?_|refine bw (fun _=>?_) fun _=>?_
       exact lW 2 hb rfl
      ·rw [h0] at hR
       have hR:(dt m (l.drop k2)).bind (fun es r=>R.ok ((d.app (.cons y .nil)).app es) r)=Rr:=by
        rw [<- hR];show _=((dt m (l.drop k2)).bind fun es r=>R.ok (Exs.cons y es) r).bind fun es r=>R.ok (d.app es) r
        cases dt m (l.drop k2) with
        | ok es r=>show R.ok _ _=R.ok _ _;rw [Exs.pz];rfl
        | bad=>rfl
        | out=>rfl
       have a1:=EH l (k1+1) k2 _ _ (d.places ns.length) _ (by
        have:∀(d:Exs) (b:Nat),(d.places b).length<=d.sz:=by
         intro d
         induction d using Exs.rec (motive_1:=fun _=>True) with
         | nil=>simp [Exs.places]
         | cons e r _ ih=>intro b;have:=ih (b+e.sz);have:=e.iz;simp [Exs.places,Exs.sz];omega
         | _=>trivial
        have:=this d ns.length;omega) h1
       have hpl:d.places ns.length++[(ns++d.flat ns.length).length+y.sz - 1]=(d.app (.cons y .nil)).places ns.length:=by rw [Exs.ng,hfl];rfl
       have hff:ns++d.flat ns.length++y.flat (ns++d.flat ns.length).length=ns++(d.app (.cons y .nil)).flat ns.length:=by rw [Exs.sj,hfl];simp [Exs.flat]
       have hsz:(d.app (.cons y .nil)).sz=d.sz+y.sz:=by rw [Exs.As];rfl
       have hd1:(d.app (.cons y .nil)).places ns.length≠[]:=by rw [<- hpl];simp
       rw [hpl,hff] at a1;clear ih hout hs h0 h1 hd0 hpl hff
       repeat' first|refine aw ?_|refine bw (fun _=>?_) fun _=>?_
       refine ae 5 [0,1] hv ?_
       repeat' first|refine aw ?_|refine bw (fun _=>?_) fun _=>?_
       refine ae 5 [0,1,2,3,4] a1 ?_
       repeat' first|refine aw ?_|refine bw (fun _=>?_) fun _=>?_
       exact cM (d.app (.cons y .nil),k2,m) ⟨hR,by omega,hk3,by omega,hd1⟩ (by simp only;omega) (by exact Uw.wW)
     ·rw [if_neg hs] at hR
      rw [if_neg hs,decide_eq_false hs] at hv;by_cases hw:hd (l.drop k1)=[41]
      ·have hlt:=d6 hw (by simp)
       have w1:=aN l k1 ((ns++d.flat ns.length).map bR) hk1 hl [41] (by simp) hw;have hb:outA l ns Rr = .ok (.d (.slice 1 (eG (d.places ns.length)) false)) (rdN l (k1+1) (ns++d.flat ns.length)):=by
        rw [want,if_pos hw,XC] at hR;have hR:R.ok (d.app .nil) (l.drop (k1+1))=Rr:=hR;rw [<- hR,Exs.we];show Out.ok (.d (ofD 8 (d.places ns.length))) (rdN l (l.length - (l.drop (k1+1)).length) _)=_;rw [len_drop (by omega)];have:ofD 8 (d.places ns.length) = .slice 1 (eG (d.places ns.length)) false:=by
         unfold ofD;rw [if_neg (by omega),if_pos (by omega),if_neg hd0];rfl
        rw [this]
       have hfz:((eG (d.places ns.length)).drop 0).take (eG (d.places ns.length)).length=eG (d.places ns.length):=by simp
       clear ih hR hout hs hw hd0
       repeat' first|refine aw ?_|refine bw (fun _=>?_) fun _=>?_
       refine ae 5 [0,1] hv ?_
       repeat' first|refine aw ?_|refine bw (fun _=>?_) fun _=>?_
       refine aH ?_;refine ae 5 [0,1] w1 ?_
       repeat' first|refine aw ?_|refine bw (fun _=>?_) fun _=>?_
       refine u4 rfl rfl ?_
       repeat' first|refine aw ?_|refine bw (fun _=>?_) fun _=>?_
       exact wb 2 hb rfl rfl (by exact Uw.wW)
      ·have w1:=aY l k1 ((ns++d.flat ns.length).map bR) hk1 hl [41] (by simp) hw
       have hb:outA l ns Rr = .bad:=by
        rw [want,if_neg hw] at hR;rw [<- hR];rfl
       clear ih hR hout hs hw hd0
       repeat' first|refine aw ?_|refine bw (fun _=>?_) fun _=>?_
       refine ae 5 [0,1] hv ?_
       repeat' first|refine aw ?_|refine bw (fun _=>?_) fun _=>?_
       refine aH ?_;refine bg 5 [0,1] w1 ?_;intro h q
       repeat' first|refine aw ?_|refine bw (fun _=>?_) fun _=>?_
       refine ny rfl ?_
       repeat' first|refine aw ?_|refine bw (fun _=>?_) fun _=>?_
       exact lW 2 hb rfl
 ·rw [want,if_neg h0]
  have w0:=aY l k (ns.map bR) hk hl [40] (by simp) h0;clear ih h0;refine aL du rfl ?_
  repeat' first|refine aw ?_|refine bw (fun _=>?_) fun _=>?_
  refine dr cw rfl ?_
  repeat' first|refine aw ?_|refine bw (fun _=>?_) fun _=>?_
  refine bg 4 [0,1] w0 ?_;intro H q
  repeat' first|refine aw ?_|refine bw (fun _=>?_) fun _=>?_
  refine ny rfl ?_
  repeat' first|refine aw ?_|refine bw (fun _=>?_) fun _=>?_
  exact aM rfl
end Uw.Tryz
namespace Uw.Tryz
open Go Uw
theorem dV (l:List Tok) (k:Nat) (xs:List (List Dat)) (hk:k<=l.length) (hl:l.length<1000000) :
  (dW (l.drop k) = .bad/\ku P0 b9 [.ptr 0 0] (rd l k xs) cP)\/∃s,dW (l.drop k) = .ok s (l.drop (k+1))/\k<l.length/\bh P0 b9 [.ptr 0 0] (rd l k xs) (.d (.str s)) (rd l (k+1) xs):=by
 by_cases h:k<l.length
 ·have hd:l.drop k=l[k]::l.drop (k+1):=XY h
  by_cases h1:l[k].kind=1
  ·have hw:eY 1 (l.drop k) = .ok l[k] (l.drop (k+1)):=by rw [hd,eY,if_pos h1]
   cases h2:wI l[k].text with
   | true=>
    refine .inl ⟨?_,iI l k xs hk hl (fun _=>.inr h2)⟩;rw [dW,hw];show (if wI l[k].text=true then _ else _)=_;rw [if_pos h2]
   | false=>
    refine .inr ⟨l[k].text,?_,h,tt l k xs hk hl h h1 h2⟩;rw [dW,hw];show (if wI l[k].text=true then _ else _)=_;rw [if_neg (by rw [h2];decide)]
  ·refine .inl ⟨?_,iI l k xs hk hl (fun _=>.inl h1)⟩
   rw [dW,hd,eY,if_neg h1];rfl
 ·refine .inl ⟨?_,iI l k xs hk hl (fun h'=>absurd h' h)⟩
  rw [dW,X8 (by omega),eY];rfl
theorem sR (es:Exs) (b:Nat):es.Ar b = .nil\/es.Ar b = .slice 1 (eG (es.places b)) false:=by
 unfold Exs.Ar ofD;rw [if_neg (by omega),if_pos (by omega)]
 split
 ·exact .inl rfl
 ·exact .inr rfl
theorem c_call (l:List Tok) (hl:l.length<1000000) (n:Nat) (ih:∀m,m<=n->CE l m) (s:Str) (k:Nat) (ns:List Nod) (hk:k<=l.length) (hn:ns.length<=k):cT cO [.ptr 0 0,.d (.str s)] (rdN l k ns) (NI l ns s (fR (n+1) s (l.drop k))):=by
 rw [fR];by_cases h0:hd (l.drop k)=[46]
 ·have hlt:=d6 h0 (by simp)
  have w0:=aN l k (ns.map bR) hk hl [46] (by simp) h0;rw [want,if_pos h0,XC];show cT _ _ _ (NI l ns s ((dW (l.drop (k+1))).bind _))
  rcases dV l (k+1) (ns.map bR) hlt hl with ⟨h1,h2⟩|⟨v,h1,hlt1,h2⟩
  ·rw [h1]
   clear ih h0;refine aL eQ rfl ?_
   repeat refine aw ?_
   refine ae 2 [0,1] w0 ?_
   repeat refine aw ?_
   refine bg 2 [0,1] h2 ?_;intro H q
   repeat refine aw ?_
   exact aM rfl
  ·rw [h1]
   show cT _ _ _ (NI l ns s ((fB n (l.drop (k+1+1))).bind _))
   rcases Tc ((ih n (Xn _)).args (k+1+1) ns (by omega) (by omega)) (by omega) (fun e r h=>(eD n).args _ _ _ h) with h3|⟨h3,h4⟩|⟨es,k1,h3,hk1,nc,h4⟩
   ·rw [h3];exact trivial
   ·rw [h3]
    clear ih h0;refine aL eQ rfl ?_
    repeat refine aw ?_
    refine ae 2 [0,1] w0 ?_
    repeat refine aw ?_
    refine ae 2 [0,1] h2 ?_
    repeat refine aw ?_
    refine bg 3 [0,1] h4 ?_;intro H q
    repeat refine aw ?_
    exact aM rfl
   ·rw [h3]
    show bh _ _ _ _ (.d (I ((ns.length+(Ex.call s v es).sz - 1:Nat)))) (rdN l (l.length - (l.drop k1).length) (ns++(Ex.call s v es).flat ns.length));rw [len_drop hk1];have hp:=qu l k1 (ns++es.flat ns.length) (ns++(Ex.call s v es).flat ns.length) ⟨8,0,s,v,es.places ns.length⟩ (by simp [Ex.flat]) (ns.length+(Ex.call s v es).sz - 1) (by simp [Ex.sz,Exs.az];try omega) (by simp [Exs.az];omega);have hp:bh P0 bB [.ptr 0 0,.agg [.d (I 8),.d (I 0),.d (.str s),.d (.str v),.d (es.Ar ns.length)]] (rdN l k1 (ns++es.flat ns.length)) (.d (I ((ns.length+(Ex.call s v es).sz - 1:Nat)))) (rdN l k1 (ns++(Ex.call s v es).flat ns.length)):=hp;clear ih h0
    rcases sR es ns.length with e|e
    all_goals
     rw [e] at hp h4;refine aF eQ rfl ?_
     repeat refine aw ?_
     refine ae 2 [0,1] w0 ?_
     repeat refine aw ?_
     refine ae 2 [0,1] h2 ?_
     repeat refine aw ?_
     refine ae 3 [0,1] h4 ?_
     repeat refine aw ?_
     refine ae 3 [0,1] hp ?_
     repeat refine aw ?_
     exact aE 2 rfl rfl (by exact Uw.wW)
 ·rw [want,if_neg h0]
  have w0:=aY l k (ns.map bR) hk hl [46] (by simp) h0;clear ih h0;refine aL eQ rfl ?_
  repeat refine aw ?_
  refine bg 2 [0,1] w0 ?_;intro H q
  repeat refine aw ?_
  exact aM rfl
theorem Vk {l:List Tok} {k:Nat} {ns:List Nod} {s:Str} {x:R (Str×Exs)} (h:cT cO [.ptr 0 0,.d (.str s)] (rdN l k ns) (NI l ns s x)) (hk:k<=l.length) (hs:∀e r,x = .ok e r->Suf (l.drop k) r (e.2.sz+1)) :
  x = .out\/(x = .bad/\ku P0 cO [.ptr 0 0,.d (.str s)] (rdN l k ns) cP)\/∃v e k',x = .ok (v,e) (l.drop k')/\k'<=l.length/\k+(e.sz+1)<=k'/\bh P0 cO [.ptr 0 0,.d (.str s)] (rdN l k ns) (.d (I ((ns.length+(Ex.call s v e).sz - 1:Nat)))) (rdN l k' (ns++(Ex.call s v e).flat ns.length)):=by
 cases x with
 | out=>exact .inl rfl
 | bad=>exact .inr (.inl ⟨rfl,h⟩)
 | ok e r=>
  obtain ⟨v,e⟩:=e;obtain ⟨k',h1,rfl,h2⟩:=si (hs _ r rfl) hk;refine .inr (.inr ⟨v,e,k',rfl,h1,h2,?_⟩);have h:bh P0 cO [.ptr 0 0,.d (.str s)] (rdN l k ns) (.d (I ((ns.length+(Ex.call s v e).sz - 1:Nat)))) (rdN l (l.length - (l.drop k').length) (ns++(Ex.call s v e).flat ns.length)):=h;rw [len_drop h1] at h;exact h
theorem NK {l:List Tok} {k:Nat} (h:isNum (l.drop k)=true):∃h:k<l.length,l[k].kind=2/\numOf (l.drop k)=l[k].n:=by
 rcases XR k l.length with h1|h1
 ·rw [XY h1] at h ⊢
  exact ⟨h1,by simpa [isNum] using h,rfl⟩
 ·rw [X8 h1] at h;cases h
theorem Tf (l:List Tok) (hl:l.length<1000000) (n:Nat) (ih:∀m,m<=n->CE l m) (k:Nat) (ns:List Nod) (hk:k<=l.length) (hn:ns.length<=k):OkE fM l k ns (iw (n+1) (l.drop k)):=by
 have e1:(l.map rz).length=l.length:=by simp
 rw [iw];have hv:=bH l k (ns.map bR) hk hl [40] (by simp);by_cases h0:hd (l.drop k)=[40]
 ·have hlt:=d6 h0 (by simp)
  rw [if_pos h0,decide_eq_true h0] at hv;rw [if_pos h0,XC]
  rcases xh ((ih n (Xn _)).expr (k+1) ns hlt (by omega)) hlt (fun e r h=>(eD n).expr _ _ _ h) with h2|⟨h2,h3⟩|⟨e,k1,h2,hk1,nc,h3⟩
  ·rw [h2];exact trivial
  ·rw [h2]
   clear ih h0;refine aL bF rfl ?_
   repeat' first|refine aw ?_|refine bw (fun _=>?_) fun _=>?_
   refine ae 2 [0,1] hv ?_
   repeat' first|refine aw ?_|refine bw (fun _=>?_) fun _=>?_
   refine bg 2 [0,1] h3 ?_;intro H q
   repeat' first|refine aw ?_|refine bw (fun _=>?_) fun _=>?_
   exact aM rfl
  ·rw [h2]
   show cT _ _ _ (G3 l ns ((want [41] (l.drop k1)).bind _));by_cases h4:hd (l.drop k1)=[41]
   ·have hlt1:=d6 h4 (by simp)
    have w1:=aN l k1 ((ns++e.flat ns.length).map bR) hk1 hl [41] (by simp) h4;rw [want,if_pos h4,XC];show bh _ _ _ _ (.d (I ((ns.length+e.sz - 1:Nat)))) (rdN l (l.length - (l.drop (k1+1)).length) _);rw [len_drop hlt1];clear ih h0 h4;refine aF bF rfl ?_
    repeat' first|refine aw ?_|refine bw (fun _=>?_) fun _=>?_
    refine ae 2 [0,1] hv ?_
    repeat' first|refine aw ?_|refine bw (fun _=>?_) fun _=>?_
    refine ae 2 [0,1] h3 ?_
    repeat' first|refine aw ?_|refine bw (fun _=>?_) fun _=>?_
    refine ae 2 [0,1] w1 ?_
    repeat' first|refine aw ?_|refine bw (fun _=>?_) fun _=>?_
    exact aE 2 rfl rfl (by exact Uw.wW)
   ·have w1:=aY l k1 ((ns++e.flat ns.length).map bR) hk1 hl [41] (by simp) h4
    rw [want,if_neg h4];clear ih h0 h4;refine aL bF rfl ?_
    repeat' first|refine aw ?_|refine bw (fun _=>?_) fun _=>?_
    refine ae 2 [0,1] hv ?_
    repeat' first|refine aw ?_|refine bw (fun _=>?_) fun _=>?_
    refine ae 2 [0,1] h3 ?_
    repeat' first|refine aw ?_|refine bw (fun _=>?_) fun _=>?_
    refine bg 2 [0,1] w1 ?_;intro H q
    repeat' first|refine aw ?_|refine bw (fun _=>?_) fun _=>?_
    exact aM rfl
 ·rw [if_neg h0,decide_eq_false h0] at hv
  rw [if_neg h0]
  cases hnum:isNum (l.drop k) with
  | true=>
   rw [if_pos rfl,XC];obtain ⟨hlt,hkd,hno⟩:=NK hnum;rw [hno];have wd:=fj l k (ns.map bR) hk hl 2 hlt hkd;have hp:=qu l (k+1) ns (ns++(Ex.num l[k].n).flat ns.length) ⟨1,l[k].n,[],[],[]⟩ rfl (ns.length+(Ex.num l[k].n).sz - 1) (by simp [Ex.sz]) (by omega);have hp:bh P0 bB [.ptr 0 0,.agg [.d (I 1),.d (I l[k].n),.d (.str []),.d (.str []),.d .nil]] (rdN l (k+1) ns) (.d (I ((ns.length+(Ex.num l[k].n).sz - 1:Nat)))) (rdN l (k+1) (ns++(Ex.num l[k].n).flat ns.length)):=hp;show bh _ _ _ _ (.d (I ((ns.length+(Ex.num l[k].n).sz - 1:Nat)))) (rdN l (l.length - (l.drop (k+1)).length) _);rw [len_drop hlt];clear ih h0 hnum hno;refine aF bF rfl ?_
   repeat' first|refine aw ?_|refine bw (fun _=>?_) fun _=>?_
   refine ae 2 [0,1] hv ?_
   repeat' first|refine aw ?_|refine bw (fun _=>?_) fun _=>?_
   refine ae 2 [0,1] wd ?_
   repeat' first|refine aw ?_|refine bw (fun _=>?_) fun _=>?_
   refine ae 2 [0,1] hp ?_
   repeat' first|refine aw ?_|refine bw (fun _=>?_) fun _=>?_
   exact aE 2 rfl rfl (by exact Uw.wW)
  | false=>
   rw [if_neg (by decide)];have hkd:∀(h:k<l.length),¬l[k].kind=2:=by
    intro h h2;rw [XY h] at hnum;simp [isNum,h2] at hnum
   rcases dV l k (ns.map bR) hk hl with ⟨h1,h2⟩|⟨s,h1,hlt,h2⟩
   ·rw [h1]
    clear ih h0 hnum h1;by_cases hlt:k<l.length
    ·have hkd:=hkd hlt
     refine aL bF rfl ?_
     repeat' first|refine aw ?_|refine bw (fun _=>?_) fun _=>?_
     refine ae 2 [0,1] hv ?_
     repeat' first|refine aw ?_|refine bw (fun _=>?_) fun _=>?_
     refine bg 2 [0,1] h2 ?_;intro H q
     repeat' first|refine aw ?_|refine bw (fun _=>?_) fun _=>?_
     exact aM rfl
    ·clear hkd
     refine aL bF rfl ?_
     repeat' first|refine aw ?_|refine bw (fun _=>?_) fun _=>?_
     refine ae 2 [0,1] hv ?_
     repeat' first|refine aw ?_|refine bw (fun _=>?_) fun _=>?_
     refine bg 2 [0,1] h2 ?_;intro H q
     repeat' first|refine aw ?_|refine bw (fun _=>?_) fun _=>?_
     exact aM rfl
   ·rw [h1]
    have hkd:=hkd hlt;have pk:=bM l (k+1) (ns.map bR) hlt;show cT _ _ _ (G3 l ns (if hd (l.drop (k+1))=[46] then _ else _));by_cases h3:hd (l.drop (k+1))=[46]
    ·rw [if_pos h3]
     rw [h3] at pk
     rcases Vk ((ih n (Xn _)).call s (k+1) ns hlt (by omega)) hlt (fun e r h=>(eD n).call _ _ _ _ h) with h4|⟨h4,h5⟩|⟨v,es,k1,h4,hk1,nc,h5⟩
     ·rw [h4];exact trivial
     ·rw [h4]
      clear ih h0 hnum h1;refine aL bF rfl ?_
      repeat' first|refine aw ?_|refine bw (fun _=>?_) fun _=>?_
      refine ae 2 [0,1] hv ?_
      repeat' first|refine aw ?_|refine bw (fun _=>?_) fun _=>?_
      refine ae 2 [0,1] h2 ?_
      repeat' first|refine aw ?_|refine bw (fun _=>?_) fun _=>?_
      refine ae 2 [0,1] pk ?_
      repeat' first|refine aw ?_|refine bw (fun _=>?_) fun _=>?_
      refine bg 2 [0,1] h5 ?_;intro H q
      repeat' first|refine aw ?_|refine bw (fun _=>?_) fun _=>?_
      exact aM rfl
     ·rw [h4]
      show bh _ _ _ _ (.d (I ((ns.length+(Ex.call s v es).sz - 1:Nat)))) (rdN l (l.length - (l.drop k1).length) _);rw [len_drop hk1];clear ih h0 hnum h1;refine aF bF rfl ?_
      repeat' first|refine aw ?_|refine bw (fun _=>?_) fun _=>?_
      refine ae 2 [0,1] hv ?_
      repeat' first|refine aw ?_|refine bw (fun _=>?_) fun _=>?_
      refine ae 2 [0,1] h2 ?_
      repeat' first|refine aw ?_|refine bw (fun _=>?_) fun _=>?_
      refine ae 2 [0,1] pk ?_
      repeat' first|refine aw ?_|refine bw (fun _=>?_) fun _=>?_
      refine ae 2 [0,1] h5 ?_
      repeat' first|refine aw ?_|refine bw (fun _=>?_) fun _=>?_
      exact aE 2 rfl rfl (by exact Uw.wW)
    ·rw [if_neg h3]
     have hp:=qu l (k+1) ns (ns++(Ex.name s).flat ns.length) ⟨2,0,s,[],[]⟩ rfl (ns.length+(Ex.name s).sz - 1) (by simp [Ex.sz]) (by omega);have hp:bh P0 bB [.ptr 0 0,.agg [.d (I 2),.d (I 0),.d (.str s),.d (.str []),.d .nil]] (rdN l (k+1) ns) (.d (I ((ns.length+(Ex.name s).sz - 1:Nat)))) (rdN l (k+1) (ns++(Ex.name s).flat ns.length)):=hp;show bh _ _ _ _ (.d (I ((ns.length+(Ex.name s).sz - 1:Nat)))) (rdN l (l.length - (l.drop (k+1)).length) _);rw [len_drop hlt];generalize hd (l.drop (k+1))=p at *;clear ih h0 hnum h1;refine aF bF rfl ?_
     repeat' first|refine aw ?_|refine bw (fun _=>?_) fun _=>?_
     refine ae 2 [0,1] hv ?_
     repeat' first|refine aw ?_|refine bw (fun _=>?_) fun _=>?_
     refine ae 2 [0,1] h2 ?_
     repeat' first|refine aw ?_|refine bw (fun _=>?_) fun _=>?_
     refine ae 2 [0,1] pk ?_
     repeat' first|refine aw ?_|refine bw (fun _=>?_) fun _=>?_
     refine ae 2 [0,1] hp ?_
     repeat' first|refine aw ?_|refine bw (fun _=>?_) fun _=>?_
     exact aE 2 rfl rfl (by exact Uw.wW)
theorem ce (l:List Tok) (hl:l.length<1000000):∀n,∀m,m<=n->CE l m
 | 0,m,hm=>by
  obtain rfl:m=0:=by omega
  refine ⟨?_,?_,?_,?_,?_,?_⟩
  ·intro k ns _ _;rw [fB];exact trivial
  ·intro s k ns _ _;rw [fR];exact trivial
  ·intro k ns _ _;rw [iw];exact trivial
  ·intro k ns _ _;rw [gj];exact trivial
  ·intro k ns _ _;rw [lQ];exact trivial
  ·intro k ns _ _;rw [df];exact trivial
 | n+1,m,hm=>by
  have ih:=ce l hl n;by_cases h:m<=n
  ·exact ih m h
  ·obtain rfl:m=n+1:=by omega
   exact ⟨fun k ns=>Td l hl n ih k ns,fun s k ns=>c_call l hl n ih s k ns,fun k ns=>Tf l hl n ih k ns,fun k ns=>S9 l hl n ih k ns,fun k ns=>Vj l hl n ih k ns,fun k ns=>Ta l hl n ih k ns⟩
end Uw.Tryz
namespace Uw.Tryz
open Go Uw
def oD (l:List Tok) (ns:List Nod) (x:R Stm):Out:=
 match x with
 | .ok s r=>.ok (.d (I ((ns.length+s.sz - 1:Nat)))) (rdN l (l.length - r.length) (ns++s.flat ns.length))
 | .bad=>.bad
 | .out=>.out
theorem KQ {f:FuncId} {vs:List V} {l:List Tok} {k:Nat} {ns:List Nod} {x:R Stm} (h:cT f vs (rdN l k ns) (oD l ns x)) (hk:k<=l.length) (hs:∀e r,x = .ok e r->Suf (l.drop k) r e.sz) :
  x = .out\/(x = .bad/\ku P0 f vs (rdN l k ns) cP)\/∃e k',x = .ok e (l.drop k')/\k'<=l.length/\k+e.sz<=k'/\bh P0 f vs (rdN l k ns) (.d (I ((ns.length+e.sz - 1:Nat)))) (rdN l k' (ns++e.flat ns.length)):=by
 cases x with
 | out=>exact .inl rfl
 | bad=>exact .inr (.inl ⟨rfl,h⟩)
 | ok e r=>
  obtain ⟨k',h1,rfl,h2⟩:=si (hs e r rfl) hk;refine .inr (.inr ⟨e,k',rfl,h1,h2,?_⟩);have h:bh P0 f vs (rdN l k ns) (.d (I ((ns.length+e.sz - 1:Nat)))) (rdN l (l.length - (l.drop k').length) (ns++e.flat ns.length)):=h;rw [len_drop h1] at h;exact h
theorem uH:∀(d:Exs) (b:Nat),(d.places b).length=d.length
 | .nil,b=>rfl
 | .cons e r,b=>by rw [Exs.places,Xt,uH r,Exs.length]
theorem JF (l:List Tok) (hl:l.length<1000000) (n:Nat) (to:Str) (k:Nat) (ns:List Nod) (hk:k<=l.length) (hn:ns.length<=k):cT gV [.ptr 0 0,.d (.str to)] (rdN l k ns) (oD l ns (fJ n to (l.drop k))):=by
 rw [fJ];have hv:=bH l k (ns.map bR) hk hl fX (by decide)
 -- behind the word
 have tail:∀(par:Bool) (k1:Nat),k1<=l.length->k+1<=k1->
   (∀{x:Out},cT gV [.ptr 0 0,.d (.str to)] (rdN l k ns) x->True)->True:=fun _ _ _ _ _=>trivial
 clear tail;by_cases h0:hd (l.drop k)=fX
 ·have hlt:=d6 h0 (by decide)
  rw [if_pos h0,decide_eq_true h0] at hv;rw [if_pos h0,XC];show cT _ _ _ (oD l ns ((dW (l.drop (k+1))).bind _))
  rcases dV l (k+1) (ns.map bR) hlt hl with ⟨h1,h2⟩|⟨f,h1,hlt1,h2⟩
  ·rw [h1]
   clear h0;refine aL bZ rfl ?_
   repeat refine aw ?_
   refine ae 2 [0,1] hv ?_
   repeat refine aw ?_
   refine bg 2 [0,1] h2 ?_;intro H q
   repeat refine aw ?_
   exact aM rfl
  ·rw [h1]
   show cT _ _ _ (oD l ns ((fB n (l.drop (k+1+1))).bind _))
   rcases Tc ((ce l hl n n (Xn _)).args (k+1+1) ns (by omega) (by omega)) (by omega) (fun e r h=>(eD n).args _ _ _ h) with h3|⟨h3,h4⟩|⟨es,k1,h3,hk1,nc,h4⟩
   ·rw [h3];exact trivial
   ·rw [h3]
    clear h0;refine aL bZ rfl ?_
    repeat refine aw ?_
    refine ae 2 [0,1] hv ?_
    repeat refine aw ?_
    refine ae 2 [0,1] h2 ?_
    repeat refine aw ?_
    refine bg 3 [0,1] h4 ?_;intro H q
    repeat refine aw ?_
    exact aM rfl
   ·rw [h3]
    show cT _ _ _ (oD l ns (if false=true/\es.length≠2 then .bad else .ok (.task false to f es) (l.drop k1)));rw [if_neg (by rintro ⟨q,_⟩;cases q)];show bh _ _ _ _ (.d (I ((ns.length+(Stm.task false to f es).sz - 1:Nat)))) (rdN l (l.length - (l.drop k1).length) (ns++(Stm.task false to f es).flat ns.length));rw [len_drop hk1];have hp:=qu l k1 (ns++es.flat ns.length) (ns++(Stm.task false to f es).flat ns.length) ⟨10,0,to,f,es.places ns.length⟩ (by simp [Stm.flat]) (ns.length+(Stm.task false to f es).sz - 1) (by simp [Stm.sz,Exs.az]) (by simp [Exs.az];omega);have hp:bh P0 bB [.ptr 0 0,.agg [.d (I 10),.d (I 0),.d (.str to),.d (.str f),.d (es.Ar ns.length)]] (rdN l k1 (ns++es.flat ns.length)) (.d (I ((ns.length+(Stm.task false to f es).sz - 1:Nat)))) (rdN l k1 (ns++(Stm.task false to f es).flat ns.length)):=hp;clear h0
    rcases sR es ns.length with e|e
    all_goals
     rw [e] at hp h4;refine aF bZ rfl ?_
     repeat refine aw ?_
     refine ae 2 [0,1] hv ?_
     repeat refine aw ?_
     refine ae 2 [0,1] h2 ?_
     repeat refine aw ?_
     refine ae 3 [0,1] h4 ?_
     repeat refine aw ?_
     refine ae 3 [0,1] hp ?_
     repeat refine aw ?_
     exact aE 2 rfl rfl (by exact Uw.wW)
 ·rw [if_neg h0,decide_eq_false h0] at hv
  rw [if_neg h0];by_cases hp0:hd (l.drop k)=pV
  ·have hlt:=d6 hp0 (by decide)
   have w0:=aN l k (ns.map bR) hk hl pV (by decide) hp0;rw [want,if_pos hp0,XC];show cT _ _ _ (oD l ns ((dW (l.drop (k+1))).bind _))
   rcases dV l (k+1) (ns.map bR) hlt hl with ⟨h1,h2⟩|⟨f,h1,hlt1,h2⟩
   ·rw [h1]
    clear h0 hp0;refine aL bZ rfl ?_
    repeat refine aw ?_
    refine ae 2 [0,1] hv ?_
    repeat refine aw ?_
    refine ae 2 [0,1] w0 ?_
    repeat refine aw ?_
    refine bg 2 [0,1] h2 ?_;intro H q
    repeat refine aw ?_
    exact aM rfl
   ·rw [h1]
    show cT _ _ _ (oD l ns ((fB n (l.drop (k+1+1))).bind _))
    rcases Tc ((ce l hl n n (Xn _)).args (k+1+1) ns (by omega) (by omega)) (by omega) (fun e r h=>(eD n).args _ _ _ h) with h3|⟨h3,h4⟩|⟨es,k1,h3,hk1,nc,h4⟩
    ·rw [h3];exact trivial
    ·rw [h3]
     clear h0 hp0;refine aL bZ rfl ?_
     repeat refine aw ?_
     refine ae 2 [0,1] hv ?_
     repeat refine aw ?_
     refine ae 2 [0,1] w0 ?_
     repeat refine aw ?_
     refine ae 2 [0,1] h2 ?_
     repeat refine aw ?_
     refine bg 3 [0,1] h4 ?_;intro H q
     repeat refine aw ?_
     exact aM rfl
    ·rw [h3]
     show cT _ _ _ (oD l ns (if true=true/\es.length≠2 then .bad else .ok (.task true to f es) (l.drop k1)));have hlen:(eG (es.places ns.length)).length=es.length:=by rw [eG,XJ,uH]
     by_cases h2' : es.length=2
     ·rw [if_neg (by rintro ⟨_,q⟩;exact q h2')]
      show bh _ _ _ _ (.d (I ((ns.length+(Stm.task true to f es).sz - 1:Nat)))) (rdN l (l.length - (l.drop k1).length) (ns++(Stm.task true to f es).flat ns.length));rw [len_drop hk1];have hp:=qu l k1 (ns++es.flat ns.length) (ns++(Stm.task true to f es).flat ns.length) ⟨11,0,to,f,es.places ns.length⟩ (by simp [Stm.flat]) (ns.length+(Stm.task true to f es).sz - 1) (by simp [Stm.sz,Exs.az]) (by simp [Exs.az];omega);have hp:bh P0 bB [.ptr 0 0,.agg [.d (I 11),.d (I 0),.d (.str to),.d (.str f),.d (es.Ar ns.length)]] (rdN l k1 (ns++es.flat ns.length)) (.d (I ((ns.length+(Stm.task true to f es).sz - 1:Nat)))) (rdN l k1 (ns++(Stm.task true to f es).flat ns.length)):=hp;have e:es.Ar ns.length = .slice 1 (eG (es.places ns.length)) false:=by
       rcases sR es ns.length with e|e
       ·exfalso
        have hne:es.places ns.length≠[]:=by intro h;have:=uH es ns.length;rw [h] at this;simp at this;omega
        unfold Exs.Ar ofD at e;rw [if_neg (by omega),if_pos (by omega),if_neg hne] at e
        cases e
       ·exact e
      rw [e] at hp h4;clear h0 hp0;refine aF bZ rfl ?_
      repeat refine aw ?_
      refine ae 2 [0,1] hv ?_
      repeat refine aw ?_
      refine ae 2 [0,1] w0 ?_
      repeat refine aw ?_
      refine ae 2 [0,1] h2 ?_
      repeat refine aw ?_
      refine ae 3 [0,1] h4 ?_
      repeat refine aw ?_
      refine ae 3 [0,1] hp ?_
      repeat refine aw ?_
      exact aE 2 rfl rfl (by exact Uw.wW)
     ·rw [if_pos ⟨rfl,h2'⟩]
      clear h0 hp0
      rcases sR es ns.length with e|e
      all_goals
       rw [e] at h4;refine aL bZ rfl ?_
       repeat refine aw ?_
       refine ae 2 [0,1] hv ?_
       repeat refine aw ?_
       refine ae 2 [0,1] w0 ?_
       repeat refine aw ?_
       refine ae 2 [0,1] h2 ?_
       repeat refine aw ?_
       refine ae 3 [0,1] h4 ?_
       repeat refine aw ?_
       exact aM rfl
  ·have w0:=aY l k (ns.map bR) hk hl pV (by decide) hp0
   rw [want,if_neg hp0];clear h0 hp0;refine aL bZ rfl ?_
   repeat refine aw ?_
   refine ae 2 [0,1] hv ?_
   repeat refine aw ?_
   refine bg 2 [0,1] w0 ?_;intro H q
   repeat refine aw ?_
   exact aM rfl
end Uw.Tryz
namespace Uw.Tryz
open Go Uw
theorem EJ (l:List Tok) (k:Nat) (ns:List Nod) (K:Int) (s:Str) (e:Ex) (ms:List Nod) (hms:ms=ns++e.flat ns.length++[⟨K,0,s,[],[ns.length+e.sz - 1]⟩]) (p:Nat) (hp:p=ns.length+e.sz) (hx:(ns++e.flat ns.length).length<1000000) (hK:K=9\/K=15\/K=16\/K=17) :
  bh P0 bB [.ptr 0 0,.agg [.d (I K),.d (I 0),.d (.str s),.d (.str []),.d (.slice 1 [[I ((ns.length+e.sz - 1:Nat))]] true)]] (rdN l k (ns++e.flat ns.length)) (.d (I p)) (rdN l k ms):=by
 have:=qu l k _ _ _ hms p (by rw [hp];simp [Ex.az]) hx;have e:ofD K [ns.length+e.sz - 1] = .slice 1 [[I ((ns.length+e.sz - 1:Nat))]] true:=by
  unfold ofD;rw [if_neg (by omega),if_neg (by omega),if_neg (by omega)];rfl
 simp only [e] at this;exact this
theorem Vl (l:List Tok) (hl:l.length<1000000) (n:Nat) (K:Int) (hK:K=15\/K=16) (k:Nat) (ns:List Nod) (hk:k<l.length) (hn:ns.length<=k):cT mQ [.ptr 0 0,.d (I K)] (rdN l k ns) (oD l ns ((df n (l.drop (k+1))).bind fun e r=>.ok (.one K e) r)):=by
 rcases xh ((ce l hl n n (Xn _)).expr (k+1) ns hk (by omega)) hk (fun e r h=>(eD n).expr _ _ _ h) with h2|⟨h2,h3⟩|⟨e,k1,h2,hk1,nc,h3⟩
 ·rw [h2];exact trivial
 ·rw [h2]
  refine aL lF rfl ?_
  repeat refine aw ?_
  refine bg 2 [0,1] h3 ?_;intro H q
  repeat refine aw ?_
  exact aM rfl
 ·rw [h2]
  have hz:(Stm.one K e).sz=e.sz+1:=rfl;have hp:=EJ l k1 ns K [] e (ns++(Stm.one K e).flat ns.length) (by simp [Stm.flat]) (ns.length+(Stm.one K e).sz - 1) (by omega) (by simp [Ex.az];omega) (by omega);show bh _ _ _ _ (.d (I ((ns.length+(Stm.one K e).sz - 1:Nat)))) (rdN l (l.length - (l.drop k1).length) _);rw [len_drop hk1];refine aF lF rfl ?_
  repeat refine aw ?_
  refine ae 2 [0,1] h3 ?_
  repeat refine aw ?_
  refine ae 2 [0,1] hp ?_
  repeat refine aw ?_
  exact aE 2 rfl rfl (by exact Uw.wW)
theorem NL (l:List Tok) (hl:l.length<1000000) (n:Nat) (k:Nat) (ns:List Nod) (hk:k<=l.length) (hn:ns.length<=k):cT gd [.ptr 0 0] (rdN l k ns) (oD l ns (gk n (l.drop k))):=by
 rw [gk];have pk:=bM l k (ns.map bR) hk;by_cases h0:hd (l.drop k)=fX\/hd (l.drop k)=pV
 ·rw [if_pos h0]
  rcases KQ (JF l hl n [] k ns hk hn) hk (fun e r h=>oZ h) with h2|⟨h2,h3⟩|⟨s,k1,h2,hk1,nc,h3⟩
  ·rw [h2];exact trivial
  ·rw [h2]
   rcases h0 with h0|h0
   all_goals
    rw [h0] at pk;clear h0;refine aL aR rfl ?_
    repeat' first|refine aw ?_|refine bw (fun _=>?_) fun _=>?_
    refine ae 2 [0,1] pk ?_
    repeat' first|refine aw ?_|refine bw (fun _=>?_) fun _=>?_
    refine bg 2 [0,1] h3 ?_;intro H q
    repeat' first|refine aw ?_|refine bw (fun _=>?_) fun _=>?_
    exact aM rfl
  ·rw [h2]
   show bh _ _ _ _ (.d (I ((ns.length+s.sz - 1:Nat)))) (rdN l (l.length - (l.drop k1).length) _);rw [len_drop hk1]
   rcases h0 with h0|h0
   all_goals
    rw [h0] at pk;clear h0;refine aF aR rfl ?_
    repeat' first|refine aw ?_|refine bw (fun _=>?_) fun _=>?_
    refine ae 2 [0,1] pk ?_
    repeat' first|refine aw ?_|refine bw (fun _=>?_) fun _=>?_
    refine ae 2 [0,1] h3 ?_
    repeat' first|refine aw ?_|refine bw (fun _=>?_) fun _=>?_
    exact aE 2 rfl rfl (by exact Uw.wW)
 ·rw [if_neg h0]
  by_cases h1:hd (l.drop k)=xI
  ·have hlt:=d6 h1 (by decide)
   rw [if_pos h1,XC];have w0:=aN l k (ns.map bR) hk hl xI (by decide) h1;rw [h1] at pk;have hp:=qu l (k+1) ns (ns++(Stm.sync).flat ns.length) ⟨12,0,[],[],[]⟩ rfl (ns.length+(Stm.sync).sz - 1) (by simp [Stm.sz]) (by omega);have hp:bh P0 bB [.ptr 0 0,.agg [.d (I 12),.d (I 0),.d (.str []),.d (.str []),.d .nil]] (rdN l (k+1) ns) (.d (I ((ns.length+(Stm.sync).sz - 1:Nat)))) (rdN l (k+1) (ns++(Stm.sync).flat ns.length)):=hp;show bh _ _ _ _ (.d (I ((ns.length+(Stm.sync).sz - 1:Nat)))) (rdN l (l.length - (l.drop (k+1)).length) _);rw [len_drop hlt];clear h0 h1;refine aF aR rfl ?_
   repeat' first|refine aw ?_|refine bw (fun _=>?_) fun _=>?_
   refine ae 2 [0,1] pk ?_
   repeat' first|refine aw ?_|refine bw (fun _=>?_) fun _=>?_
   refine ae 2 [0,1] w0 ?_
   repeat' first|refine aw ?_|refine bw (fun _=>?_) fun _=>?_
   refine ae 2 [0,1] hp ?_
   repeat' first|refine aw ?_|refine bw (fun _=>?_) fun _=>?_
   exact aE 2 rfl rfl (by exact Uw.wW)
  ·rw [if_neg h1]
   have one:∀(K:Int) (w:Str),(K=15/\w=gi)\/(K=16/\w=nA)->hd (l.drop k)=w->cT gd [.ptr 0 0] (rdN l k ns) (oD l ns ((df n (l.drop (k+1))).bind fun e r=>.ok (.one K e) r)):=by
    intro K w hw hh;have hlt:=d6 hh (by rcases hw with ⟨_,rfl⟩|⟨_,rfl⟩<;>decide);rw [hh] at pk;clear h0 h1 hh
    rcases KQ (Vl l hl n K (by omega) k ns hlt hn) hk (fun e r h=>by
     obtain ⟨e1,r1,h1,h2⟩:=bind_ok.1 h;injection h2 with e2 e3
     subst e2 e3;have:=(eD n).expr _ _ _ h1;obtain ⟨j,j1,j2,j3⟩:=this;simp at j1;exact ⟨j+1,by simp;omega,by rw [j2,YU,YU];congr 1;omega,by rw [Stm.sz];omega⟩) with h2|⟨h2,h3⟩|⟨s,k1,h2,hk1,nc,h3⟩
    ·rw [h2];exact trivial
    ·rw [h2]
     rcases hw with ⟨rfl,rfl⟩|⟨rfl,rfl⟩
     all_goals
      refine aL aR rfl ?_
      repeat' first|refine aw ?_|refine bw (fun _=>?_) fun _=>?_
      refine ae 2 [0,1] pk ?_
      repeat' first|refine aw ?_|refine bw (fun _=>?_) fun _=>?_
      refine bg 2 [0,1] h3 ?_;intro H q
      repeat' first|refine aw ?_|refine bw (fun _=>?_) fun _=>?_
      exact aM rfl
    ·rw [h2]
     show bh _ _ _ _ (.d (I ((ns.length+s.sz - 1:Nat)))) (rdN l (l.length - (l.drop k1).length) _);rw [len_drop hk1]
     rcases hw with ⟨rfl,rfl⟩|⟨rfl,rfl⟩
     all_goals
      refine aF aR rfl ?_
      repeat' first|refine aw ?_|refine bw (fun _=>?_) fun _=>?_
      refine ae 2 [0,1] pk ?_
      repeat' first|refine aw ?_|refine bw (fun _=>?_) fun _=>?_
      refine ae 2 [0,1] h3 ?_
      repeat' first|refine aw ?_|refine bw (fun _=>?_) fun _=>?_
      exact aE 2 rfl rfl (by exact Uw.wW)
   by_cases h2:hd (l.drop k)=gi
   ·rw [if_pos h2,XC]
    exact one 15 _ (.inl ⟨rfl,rfl⟩) h2
   ·rw [if_neg h2]
    by_cases h3:hd (l.drop k)=nA
    ·rw [if_pos h3,XC]
     exact one 16 _ (.inr ⟨rfl,rfl⟩) h3
    ·rw [if_neg h3]
     clear one;generalize hd (l.drop k)=p at *;have q1:¬p=fX:=fun h=>h0 (.inl h);have q2:¬p=pV:=fun h=>h0 (.inr h);clear h0;unfold fX at q1;unfold pV at q2;unfold xI at h1;unfold gi at h2;unfold nA at h3
     rcases dV l k (ns.map bR) hk hl with ⟨h4,h5⟩|⟨s,h4,hlt,h5⟩
     ·rw [h4]
      refine aL aR rfl ?_
      repeat' first|refine aw ?_|refine bw (fun _=>?_) fun _=>?_
      refine ae 2 [0,1] pk ?_
      repeat' first|refine aw ?_|refine bw (fun _=>?_) fun _=>?_
      refine bg 2 [0,1] h5 ?_;intro H q
      repeat' first|refine aw ?_|refine bw (fun _=>?_) fun _=>?_
      exact aM rfl
     ·rw [h4]
      clear h4;have pk2:=bM l (k+1) (ns.map bR) hlt;show cT _ _ _ (oD l ns (if hd (l.drop (k+1))=[46] then _ else _));by_cases h6:hd (l.drop (k+1))=[46]
      ·rw [if_pos h6]
       rw [h6] at pk2;clear h6
       rcases Vk ((ce l hl n n (Xn _)).call s (k+1) ns hlt (by omega)) hlt (fun e r h=>(eD n).call _ _ _ _ h) with h7|⟨h7,h8⟩|⟨v,es,k1,h7,hk1,nc,h8⟩
       ·rw [h7];exact trivial
       ·rw [h7]
        refine aL aR rfl ?_
        repeat' first|refine aw ?_|refine bw (fun _=>?_) fun _=>?_
        refine ae 2 [0,1] pk ?_
        repeat' first|refine aw ?_|refine bw (fun _=>?_) fun _=>?_
        refine ae 2 [0,1] h5 ?_
        repeat' first|refine aw ?_|refine bw (fun _=>?_) fun _=>?_
        refine ae 2 [0,1] pk2 ?_
        repeat' first|refine aw ?_|refine bw (fun _=>?_) fun _=>?_
        refine bg 2 [0,1] h8 ?_;intro H q
        repeat' first|refine aw ?_|refine bw (fun _=>?_) fun _=>?_
        exact aM rfl
       ·rw [h7]
        show bh _ _ _ _ (.d (I ((ns.length+(Stm.act s v es).sz - 1:Nat)))) (rdN l (l.length - (l.drop k1).length) (ns++(Stm.act s v es).flat ns.length));rw [len_drop hk1];have hz:(Ex.call s v es).sz=es.sz+1:=rfl;have hp:=EJ l k1 ns 17 [] (.call s v es) (ns++(Stm.act s v es).flat ns.length) (by simp [Stm.flat,Ex.flat,Ex.sz];try omega) (ns.length+(Stm.act s v es).sz - 1) (by simp [Stm.sz,Ex.sz];try omega) (by simp [Ex.az];omega) (by omega);refine aF aR rfl ?_
        repeat' first|refine aw ?_|refine bw (fun _=>?_) fun _=>?_
        refine ae 2 [0,1] pk ?_
        repeat' first|refine aw ?_|refine bw (fun _=>?_) fun _=>?_
        refine ae 2 [0,1] h5 ?_
        repeat' first|refine aw ?_|refine bw (fun _=>?_) fun _=>?_
        refine ae 2 [0,1] pk2 ?_
        repeat' first|refine aw ?_|refine bw (fun _=>?_) fun _=>?_
        refine ae 2 [0,1] h8 ?_
        repeat' first|refine aw ?_|refine bw (fun _=>?_) fun _=>?_
        refine ae 2 [0,1] hp ?_
        repeat' first|refine aw ?_|refine bw (fun _=>?_) fun _=>?_
        exact aE 2 rfl rfl (by exact Uw.wW)
      ·rw [if_neg h6]
       by_cases h7:hd (l.drop (k+1))=[61]
       ·have hlt2:=d6 h7 (by simp)
        have w1:=aN l (k+1) (ns.map bR) hlt hl [61] (by simp) h7;rw [want,if_pos h7,XC];rw [h7] at pk2;clear h6 h7;have pk3:=bM l (k+1+1) (ns.map bR) hlt2;show cT _ _ _ (oD l ns (if hd (l.drop (k+1+1))=fX\/hd (l.drop (k+1+1))=pV then _ else _));by_cases h8:hd (l.drop (k+1+1))=fX\/hd (l.drop (k+1+1))=pV
        ·rw [if_pos h8]
         rcases KQ (JF l hl n s (k+1+1) ns hlt2 (by omega)) hlt2 (fun e r h=>oZ h) with h9|⟨h9,h10⟩|⟨s2,k1,h9,hk1,nc,h10⟩
         ·rw [h9];exact trivial
         ·rw [h9]
          rcases h8 with h8|h8
          ·rw [h8] at pk3
           clear h8;refine aL aR rfl ?_
           repeat' first|refine aw ?_|refine bw (fun _=>?_) fun _=>?_
           refine ae 2 [0,1] pk ?_
           repeat' first|refine aw ?_|refine bw (fun _=>?_) fun _=>?_
           refine ae 2 [0,1] h5 ?_
           repeat' first|refine aw ?_|refine bw (fun _=>?_) fun _=>?_
           refine ae 2 [0,1] pk2 ?_
           repeat' first|refine aw ?_|refine bw (fun _=>?_) fun _=>?_
           refine ae 2 [0,1] w1 ?_
           repeat' first|refine aw ?_|refine bw (fun _=>?_) fun _=>?_
           refine ae 2 [0,1] pk3 ?_
           repeat' first|refine aw ?_|refine bw (fun _=>?_) fun _=>?_
           refine bg 2 [0,1] h10 ?_;intro H q
           repeat' first|refine aw ?_|refine bw (fun _=>?_) fun _=>?_
           exact aM rfl
          ·rw [h8] at pk3
           clear h8;refine aL aR rfl ?_
           repeat' first|refine aw ?_|refine bw (fun _=>?_) fun _=>?_
           refine ae 2 [0,1] pk ?_
           repeat' first|refine aw ?_|refine bw (fun _=>?_) fun _=>?_
           refine ae 2 [0,1] h5 ?_
           repeat' first|refine aw ?_|refine bw (fun _=>?_) fun _=>?_
           refine ae 2 [0,1] pk2 ?_
           repeat' first|refine aw ?_|refine bw (fun _=>?_) fun _=>?_
           refine ae 2 [0,1] w1 ?_
           repeat' first|refine aw ?_|refine bw (fun _=>?_) fun _=>?_
           refine ae 2 [0,1] pk3 ?_
           repeat' first|refine aw ?_|refine bw (fun _=>?_) fun _=>?_
           refine ae 2 [0,1] pk3 ?_
           repeat' first|refine aw ?_|refine bw (fun _=>?_) fun _=>?_
           refine bg 2 [0,1] h10 ?_;intro H q
           repeat' first|refine aw ?_|refine bw (fun _=>?_) fun _=>?_
           exact aM rfl
         ·rw [h9]
          show bh _ _ _ _ (.d (I ((ns.length+s2.sz - 1:Nat)))) (rdN l (l.length - (l.drop k1).length) _);rw [len_drop hk1]
          rcases h8 with h8|h8
          ·rw [h8] at pk3
           clear h8;refine aF aR rfl ?_
           repeat' first|refine aw ?_|refine bw (fun _=>?_) fun _=>?_
           refine ae 2 [0,1] pk ?_
           repeat' first|refine aw ?_|refine bw (fun _=>?_) fun _=>?_
           refine ae 2 [0,1] h5 ?_
           repeat' first|refine aw ?_|refine bw (fun _=>?_) fun _=>?_
           refine ae 2 [0,1] pk2 ?_
           repeat' first|refine aw ?_|refine bw (fun _=>?_) fun _=>?_
           refine ae 2 [0,1] w1 ?_
           repeat' first|refine aw ?_|refine bw (fun _=>?_) fun _=>?_
           refine ae 2 [0,1] pk3 ?_
           repeat' first|refine aw ?_|refine bw (fun _=>?_) fun _=>?_
           refine ae 2 [0,1] h10 ?_
           repeat' first|refine aw ?_|refine bw (fun _=>?_) fun _=>?_
           exact aE 2 rfl rfl (by exact Uw.wW)
          ·rw [h8] at pk3
           clear h8;refine aF aR rfl ?_
           repeat' first|refine aw ?_|refine bw (fun _=>?_) fun _=>?_
           refine ae 2 [0,1] pk ?_
           repeat' first|refine aw ?_|refine bw (fun _=>?_) fun _=>?_
           refine ae 2 [0,1] h5 ?_
           repeat' first|refine aw ?_|refine bw (fun _=>?_) fun _=>?_
           refine ae 2 [0,1] pk2 ?_
           repeat' first|refine aw ?_|refine bw (fun _=>?_) fun _=>?_
           refine ae 2 [0,1] w1 ?_
           repeat' first|refine aw ?_|refine bw (fun _=>?_) fun _=>?_
           refine ae 2 [0,1] pk3 ?_
           repeat' first|refine aw ?_|refine bw (fun _=>?_) fun _=>?_
           refine ae 2 [0,1] pk3 ?_
           repeat' first|refine aw ?_|refine bw (fun _=>?_) fun _=>?_
           refine ae 2 [0,1] h10 ?_
           repeat' first|refine aw ?_|refine bw (fun _=>?_) fun _=>?_
           exact aE 2 rfl rfl (by exact Uw.wW)
        ·rw [if_neg h8]
         generalize hd (l.drop (k+1+1))=p3 at *;have q3:¬p3=fX:=fun h=>h8 (.inl h);have q4:¬p3=pV:=fun h=>h8 (.inr h);clear h8;unfold fX at q3;unfold pV at q4
         rcases xh ((ce l hl n n (Xn _)).expr (k+1+1) ns hlt2 (by omega)) hlt2 (fun e r h=>(eD n).expr _ _ _ h) with h9|⟨h9,h10⟩|⟨e,k1,h9,hk1,nc,h10⟩
         ·rw [h9];exact trivial
         ·rw [h9]
          refine aL aR rfl ?_
          repeat' first|refine aw ?_|refine bw (fun _=>?_) fun _=>?_
          refine ae 2 [0,1] pk ?_
          repeat' first|refine aw ?_|refine bw (fun _=>?_) fun _=>?_
          refine ae 2 [0,1] h5 ?_
          repeat' first|refine aw ?_|refine bw (fun _=>?_) fun _=>?_
          refine ae 2 [0,1] pk2 ?_
          repeat' first|refine aw ?_|refine bw (fun _=>?_) fun _=>?_
          refine ae 2 [0,1] w1 ?_
          repeat' first|refine aw ?_|refine bw (fun _=>?_) fun _=>?_
          refine ae 2 [0,1] pk3 ?_
          repeat' first|refine aw ?_|refine bw (fun _=>?_) fun _=>?_
          refine ae 2 [0,1] pk3 ?_
          repeat' first|refine aw ?_|refine bw (fun _=>?_) fun _=>?_
          refine bg 2 [0,1] h10 ?_;intro H q
          repeat' first|refine aw ?_|refine bw (fun _=>?_) fun _=>?_
          exact aM rfl
         ·rw [h9]
          have hz:(Stm.set s e).sz=e.sz+1:=rfl;have hp:=EJ l k1 ns 9 s e (ns++(Stm.set s e).flat ns.length) (by simp [Stm.flat]) (ns.length+(Stm.set s e).sz - 1) (by omega) (by simp [Ex.az];omega) (by omega);show bh _ _ _ _ (.d (I ((ns.length+(Stm.set s e).sz - 1:Nat)))) (rdN l (l.length - (l.drop k1).length) _);rw [len_drop hk1];refine aF aR rfl ?_
          repeat' first|refine aw ?_|refine bw (fun _=>?_) fun _=>?_
          refine ae 2 [0,1] pk ?_
          repeat' first|refine aw ?_|refine bw (fun _=>?_) fun _=>?_
          refine ae 2 [0,1] h5 ?_
          repeat' first|refine aw ?_|refine bw (fun _=>?_) fun _=>?_
          refine ae 2 [0,1] pk2 ?_
          repeat' first|refine aw ?_|refine bw (fun _=>?_) fun _=>?_
          refine ae 2 [0,1] w1 ?_
          repeat' first|refine aw ?_|refine bw (fun _=>?_) fun _=>?_
          refine ae 2 [0,1] pk3 ?_
          repeat' first|refine aw ?_|refine bw (fun _=>?_) fun _=>?_
          refine ae 2 [0,1] pk3 ?_
          repeat' first|refine aw ?_|refine bw (fun _=>?_) fun _=>?_
          refine ae 2 [0,1] h10 ?_
          repeat' first|refine aw ?_|refine bw (fun _=>?_) fun _=>?_
          refine ae 2 [0,1] hp ?_
          repeat' first|refine aw ?_|refine bw (fun _=>?_) fun _=>?_
          exact aE 2 rfl rfl (by exact Uw.wW)
       ·have w1:=aY l (k+1) (ns.map bR) hlt hl [61] (by simp) h7
        rw [want,if_neg h7];generalize hd (l.drop (k+1))=p2 at *;clear h7;refine aL aR rfl ?_
        repeat' first|refine aw ?_|refine bw (fun _=>?_) fun _=>?_
        refine ae 2 [0,1] pk ?_
        repeat' first|refine aw ?_|refine bw (fun _=>?_) fun _=>?_
        refine ae 2 [0,1] h5 ?_
        repeat' first|refine aw ?_|refine bw (fun _=>?_) fun _=>?_
        refine ae 2 [0,1] pk2 ?_
        repeat' first|refine aw ?_|refine bw (fun _=>?_) fun _=>?_
        refine bg 2 [0,1] w1 ?_;intro H q
        repeat' first|refine aw ?_|refine bw (fun _=>?_) fun _=>?_
        exact aM rfl
end Uw.Tryz
namespace Uw.Tryz
open Go Uw
theorem EK (l:List Tok) (k:Nat) (ns ms:List Nod) (nd:Nod) (hms:ms=ns++[nd]) (p:Nat) (hp:p=ns.length) (hx:ns.length<1000000) (hof:ofD nd.kind nd.of = .slice 1 (eG nd.of) false) :
  bh P0 bB [.ptr 0 0,.agg [.d (I nd.kind),.d (I nd.n),.d (.str nd.name),.d (.str nd.name2),.ref 2 0 0 (eG nd.of).length]] (rdN l k ns++[.arr 1 (eG nd.of)]) (.d (I p)) (rdN l k ms++[.arr 1 (eG nd.of)]):=by
 subst hms hp;obtain ⟨a,b,c,d,of⟩:=nd;simp only at hof ⊢;have e:(ns++[(⟨a,b,c,d,of⟩:Nod)]).map bR=ns.map bR++[[I a,I b,.str c,.str d,.slice 1 (eG of) false]]:=by simp [bR,hof]
 have hxs:(ns.map bR).length<1000000:=by simpa using hx
 have hxe:(ns.map bR).length=ns.length:=by simp
 have hfz:((eG of).drop 0).take (eG of).length=eG of:=by simp
 rw [rdN,rdN,e];generalize ns.map bR=xs at *;generalize eG of=ys at *;have e2:xs++[[I a,I b,.str c,.str d,.slice 1 ((ys.drop 0).take ys.length) false]]=xs++[[I a,I b,.str c,.str d,.slice 1 ys false]]:=by rw [hfz]
 refine aF iF rfl ?_
 repeat refine aw ?_
 refine bW ⟨[(0,.ptr 0 0)],[(0,.var [.d (vd l),.d (I k),.ref 1 0 0 (xs.length+1)]),(1,.arr 5 (xs++[[I a,I b,.str c,.str d,.slice 1 ys false]])),(2,.arr 1 ys)],4,[],3⟩ ?_ ?_
 ·repeat refine aw ?_
  exact aX (.inl ⟨rfl,by exact Uw.wW⟩)
 ·repeat refine aw ?_
  exact aE 3 rfl rfl (by exact Uw.wW)
def Ir (l:List Tok) (ns:List Nod) (x:R Bl):Out:=
 match x with
 | .ok s r=>.ok (.d (I ((ns.length+s.sz:Nat)))) (rdN l (l.length - r.length) (ns++s.all ns.length))
 | .bad=>.bad
 | .out=>.out
theorem Qe {l:List Tok} {ns:List Nod} {x:R Bl} (h:x≠R.out):Ir l ns x≠Out.out:=by
 cases x with
 | out=>exact absurd rfl h
 | bad=>intro h;cases h
 | ok e r=>intro h;cases h
theorem Qf {f:FuncId} {vs:List V} {l:List Tok} {k:Nat} {ns:List Nod} {x:R Bl} (h:cT f vs (rdN l k ns) (Ir l ns x)) (hk:k<=l.length) (hs:∀e r,x = .ok e r->Suf (l.drop k) r (e.sz+1)) :
  x = .out\/(x = .bad/\ku P0 f vs (rdN l k ns) cP)\/∃e k',x = .ok e (l.drop k')/\k'<=l.length/\k+(e.sz+1)<=k'/\bh P0 f vs (rdN l k ns) (.d (I ((ns.length+e.sz:Nat)))) (rdN l k' (ns++e.all ns.length)):=by
 cases x with
 | out=>exact .inl rfl
 | bad=>exact .inr (.inl ⟨rfl,h⟩)
 | ok e r=>
  obtain ⟨k',h1,rfl,h2⟩:=si (hs e r rfl) hk;refine .inr (.inr ⟨e,k',rfl,h1,h2,?_⟩);have h:bh P0 f vs (rdN l k ns) (.d (I ((ns.length+e.sz:Nat)))) (rdN l (l.length - (l.drop k').length) (ns++e.all ns.length)):=h;rw [len_drop h1] at h;exact h
structure CS (l:List Tok) (n:Nat):Prop where
 stmt:∀k ns,k<=l.length->ns.length<=k->cT eV [.ptr 0 0] (rdN l k ns) (oD l ns (gl n (l.drop k)))
 block:∀k ns,k<=l.length->ns.length<=k->cT gR [.ptr 0 0] (rdN l k ns) (Ir l ns (ck n (l.drop k)))
def Bl.app:Bl->Bl->Bl
 | .nil,b=>b
 | .cons e r,b=>.cons e (r.app b)
theorem Bl.As:∀(a b:Bl),(a.app b).sz=a.sz+b.sz
 | .nil,b=>by simp [Bl.app,Bl.sz]
 | .cons e r,b=>by rw [Bl.app,Bl.sz,Bl.sz,Bl.As r b];omega
theorem Bl.sj:∀(a b:Bl) (n:Nat),(a.app b).flat n=a.flat n++b.flat (n+a.sz)
 | .nil,b,n=>by simp [Bl.app,Bl.flat,Bl.sz]
 | .cons e r,b,n=>by rw [Bl.app,Bl.flat,Bl.flat,Bl.sj r b,Bl.sz,XH,Yj]
theorem Bl.ng:∀(a b:Bl) (n:Nat),(a.app b).places n=a.places n++b.places (n+a.sz)
 | .nil,b,n=>by simp [Bl.app,Bl.places,Bl.sz]
 | .cons e r,b,n=>by rw [Bl.app,Bl.places,Bl.places,Bl.ng r b,Bl.sz,Xv,Yj]
theorem Bl.we:∀(a:Bl),a.app .nil=a
 | .nil=>rfl
 | .cons e r=>by rw [Bl.app,Bl.we r]
theorem Bl.pz:∀(a b c:Bl),(a.app b).app c=a.app (b.app c)
 | .nil,b,c=>rfl
 | .cons e r,b,c=>by rw [Bl.app,Bl.app,Bl.app,Bl.pz r b c]
theorem Bl.CV:∀(d:Bl) (b:Nat),(d.places b).length<=d.sz
 | .nil,b=>by simp [Bl.places]
 | .cons s r,b=>by have:=Bl.CV r (b+s.sz);have:=s.iz;simp [Bl.places,Bl.sz];omega
theorem Qg (l:List Tok) (hl:l.length<1000000) (n:Nat) (ih:∀m,m<=n->CS l m) (k:Nat) (ns:List Nod) (hk:k<=l.length) (hn:ns.length<=k):cT gR [.ptr 0 0] (rdN l k ns) (Ir l ns (ck (n+1) (l.drop k))):=by
 rw [ck];by_cases h0:hd (l.drop k)=[123]
 ·have hlt:=d6 h0 (by simp)
  have w0:=aN l k (ns.map bR) hk hl [123] (by simp) h0;rw [want,if_pos h0,XC];show cT _ _ _ (Ir l ns (cg n (l.drop (k+1))));by_cases hout:cg n (l.drop (k+1)) = .out
  ·rw [hout];exact trivial
  generalize hR:cg n (l.drop (k+1))=Rr at hout;refine sQ jO rfl (Qe hout) ?_
  repeat refine aw ?_
  refine ae 2 [0,1] w0 ?_
  repeat refine aw ?_
  refine dK (fun ((d,k1,m):Bl×Nat×Nat)=>⟨[(3,.ref 2 0 0 (eG (d.places ns.length)).length),(0,.ptr 0 0)],bn 0 (rdN l k1 (ns++d.flat ns.length)++[.arr 1 (eG (d.places ns.length))]),3,[],2⟩)
   (fun (d,k1,m)=>(cg m (l.drop k1)).bind (fun es r=>R.ok (d.app es) r)=Rr/\m<=n/\k1<=l.length/\k+d.sz+1<=k1) (fun (_,_,m)=>m) (.nil,k+1,n) (by
    have e:ns=ns++Bl.nil.flat ns.length:=by simp [Bl.flat]
    have e1:(ns.map bR).length=((ns++Bl.nil.flat ns.length).map bR).length:=by rw [<- e]
    have e2:ns.map bR=(ns++Bl.nil.flat ns.length).map bR:=by rw [<- e]
    exact Uw.wW) ⟨by rw [<- hR];cases cg n (l.drop (k+1))<;>rfl,Xn _,hlt,by simp [Bl.sz]⟩ ?_
  clear hR w0 h0;rintro ⟨d,k1,m⟩ ⟨hR,hm,hk1,hk2⟩
  cases m with
  | zero=>rw [cg] at hR;exact absurd hR.symm hout
  | succ m=>
   rw [cg] at hR;have hfl:(ns++d.flat ns.length).length=ns.length+d.sz:=by simp [Bl.az]
   have hv:=bH l k1 ((ns++d.flat ns.length).map bR) hk1 hl [125] (by simp);have hpy:(eG (d.places ns.length)).length<1000000:=by have:=d.CV ns.length;simp [eG];omega
   by_cases hs:hd (l.drop k1)=[125]
   ·have hlt:=d6 hs (by simp)
    rw [if_pos hs,XC] at hR;rw [if_pos hs,decide_eq_true hs] at hv;have hR:R.ok (d.app .nil) (l.drop (k1+1))=Rr:=hR;have hb:Ir l ns Rr = .ok (.d (I ((ns.length+d.sz:Nat)))) (rdN l (k1+1) (ns++d.all ns.length)):=by
     rw [<- hR,Bl.we];show Out.ok _ (rdN l (l.length - (l.drop (k1+1)).length) _)=_;rw [len_drop (by omega)]
    have hp:=EK l (k1+1) (ns++d.flat ns.length) (ns++d.all ns.length) ⟨18,0,[],[],d.places ns.length⟩ (by simp [Bl.all]) (ns.length+d.sz) (by simp [Bl.az]) (by simp [Bl.az];omega) rfl;clear ih hR hout hs
    repeat refine aw ?_
    refine ae 3 [0,1] hv ?_
    repeat refine aw ?_
    refine aH ?_
    repeat refine aw ?_
    refine ae 3 [0,1,2] hp ?_
    repeat refine aw ?_
    exact wb 2 hb rfl rfl (by exact Uw.wW)
   ·rw [if_neg hs] at hR
    rw [if_neg hs,decide_eq_false hs] at hv
    rcases KQ ((ih m (by omega)).stmt k1 (ns++d.flat ns.length) hk1 (by omega)) hk1 (fun e r h=>(o4 m).stmt _ _ _ h) with h0|⟨h0,h1⟩|⟨y,k2,h0,hk3,G4,h1⟩
    ·rw [h0] at hR;exact absurd hR.symm hout
    ·rw [h0] at hR
     have hb:Ir l ns Rr = .bad:=by rw [<- hR];rfl
     clear ih hR hout hs h0
     repeat refine aw ?_
     refine ae 3 [0,1] hv ?_
     repeat refine aw ?_
     refine bg 3 [0,1] h1 ?_;intro h q
     repeat refine aw ?_
     exact mF (lW 2 hb rfl)
    ·rw [h0] at hR
     have hR:(cg m (l.drop k2)).bind (fun es r=>R.ok ((d.app (.cons y .nil)).app es) r)=Rr:=by
      rw [<- hR];show _=((cg m (l.drop k2)).bind fun es r=>R.ok (Bl.cons y es) r).bind fun es r=>R.ok (d.app es) r
      cases cg m (l.drop k2) with
      | ok es r=>show R.ok _ _=R.ok _ _;rw [Bl.pz];rfl
      | bad=>rfl
      | out=>rfl
     have hpl:d.places ns.length++[(ns++d.flat ns.length).length+y.sz - 1]=(d.app (.cons y .nil)).places ns.length:=by rw [Bl.ng,hfl];rfl
     have hpr:eG (d.places ns.length)++[[I (((ns++d.flat ns.length).length+y.sz - 1:Nat))]]=eG ((d.app (.cons y .nil)).places ns.length):=by rw [<- hpl];simp [eG]
     have hpn:(eG (d.places ns.length)).length+1=(eG ((d.app (.cons y .nil)).places ns.length)).length:=by rw [<- hpr];simp
     have hff:ns++d.flat ns.length++y.flat (ns++d.flat ns.length).length=ns++(d.app (.cons y .nil)).flat ns.length:=by rw [Bl.sj,hfl];simp [Bl.flat]
     have hsz:(d.app (.cons y .nil)).sz=d.sz+y.sz:=by rw [Bl.As];rfl
     rw [hff] at h1;clear ih hout hs h0 hff hpl
     repeat refine aw ?_
     refine ae 3 [0,1] hv ?_
     repeat refine aw ?_
     refine ae 3 [0,1] h1 ?_
     repeat refine aw ?_
     exact cM (d.app (.cons y .nil),k2,m) ⟨hR,by omega,hk3,by omega⟩ (by simp only;omega) (by exact Uw.wW)
 ·rw [want,if_neg h0]
  have w0:=aY l k (ns.map bR) hk hl [123] (by simp) h0;clear ih h0;refine aL jO rfl ?_
  repeat refine aw ?_
  refine bg 2 [0,1] w0 ?_;intro H q
  repeat refine aw ?_
  exact aM rfl
end Uw.Tryz
