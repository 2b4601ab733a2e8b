/- M4: Uzb Uzc Uzk Uzl Uzm Uzd (merged by merge2.py from the working texts). -/
import Derived.Test.YtkmkjfkpnmhaiaaGreatDoorM3
set_option linter.unusedSimpArgs false
set_option linter.unnecessarySimpa false
set_option linter.unusedVariables false
set_option linter.unusedSectionVars false
namespace Uw
open Go
variable [Glob]
def LJ (ρ:Nat->Nat) (H h0:Heap):Nat->List Blk->Prop
 | _,[]=>True
 | i,b'::r=>((∃b,look H (ρ i)=some b/\m8 ρ H h0 b b')\/(look H (ρ i)=none/\jf b'))/\LJ ρ H h0 (i+1) r
theorem Om {ρ:Nat->Nat} {H h0:Heap}:∀{bs:List Blk} {i:Nat},LJ ρ H h0 i bs->∀j b',look (bu i bs) j=some b'->(∃b,look H (ρ j)=some b/\m8 ρ H h0 b b')\/(look H (ρ j)=none/\jf b')
 | [],_,_,j,b',h=>by simp [bu,look] at h
 | b0::r,i,⟨h1,h2⟩,j,b',h=>by
  rw [bu,ai] at h;by_cases e:i=j
  ·subst e
   rw [if_pos rfl] at h;injection h with h;subst h;exact h1
  ·rw [if_neg e] at h
   exact Om h2 j b' h
theorem Oo {P:Program} {Q:aG->St->Prop} {f:FuncId} {vs vs0:List V} {H:Heap} {nx:Nat} {k:Res->Heap->Nat->Tree} {bs:List Blk} {R0:Res->Heap->Nat->Prop} (ids:List Nat) (hs:lh P f vs0 (bu 0 bs) bs.length R0)
  (hm:Nat.ble ids.length bs.length=true) (BI:(ids.all fun a=>Nat.blt a nx)=true) (hnd:ud ids=true) (hfit:LJ (nameOf ids nx) H (bu 0 bs) 0 bs) (hvs:VWL (nameOf ids nx) H (bu 0 bs) vs vs0)
  (h2:∀r0 h0 n0,R0 r0 h0 n0->WT P Q (k (r0.ren (nameOf ids nx)) (uc (nameOf ids nx) h0++H) (nx+(n0 - ids.length)))):WT P Q (.sub f vs H nx k):=by
 refine N1 (lh.frame hs ids (Y6 hm) (fun a ha=>by have:=Y1.1 BI a ha;simpa using this) (Du hnd) (Om hfit) hvs) ?_;rintro r h n ⟨r0,h0,n0,h1,rfl,rfl,rfl⟩;exact h2 r0 h0 n0 h1
def bm (P:Program) (f:FuncId) (vs:List V) (bs:List Blk) (r:V) (bs' : List Blk):Prop:=lh P f vs (bu 0 bs) bs.length fun r' h n=>r' = .val r/\h=bu 0 bs'/\n=bs'.length
def kH (P:Program) (f:FuncId) (vs:List V) (bs:List Blk) (d:Dat):Prop:=lh P f vs (bu 0 bs) bs.length fun r' h n=>r' = .pan d
section
variable {P : Program} {Q : aG -> St -> Prop} {f : FuncId} {vs vs0 : List V} {H : Heap} {k : Res -> Heap -> Nat -> Tree} {bs bs' : List Blk} {v : V} {d : Dat}
theorem ag (nx:Nat) (ids:List Nat) (hs:bm P f vs0 bs v bs')
  (h2:WT P Q (k (.val (v.ren (nameOf ids nx))) (uc (nameOf ids nx) (bu 0 bs')++H) (nx+(bs'.length - ids.length))))
  (hm:Nat.ble ids.length bs.length=true:=by rfl) (BI:(ids.all fun a=>Nat.blt a nx)=true:=by rfl) (hnd:ud ids=true:=by rfl)
  (hfit:LJ (nameOf ids nx) H (bu 0 bs) 0 bs:=by
   repeat' first
    | exact trivial
    | refine And.intro (Or.inl ⟨_,rfl,⟨rfl,rfl⟩⟩) ?_
    | refine And.intro (Or.inl ⟨_,rfl,⟨rfl,rfl,rfl⟩⟩) ?_
    | refine And.intro (Or.inl ⟨_,rfl,?_⟩) ?_
    | refine And.intro (Or.inr ⟨rfl,rfl⟩) ?_
    | refine And.intro (Or.inr ⟨rfl,rfl,rfl⟩) ?_
    | exact cT (by first|with_reducible rfl|assumption|omega)
    | exact zp (by first|with_reducible rfl|assumption|omega|(simp;done)|(simp;omega)) rfl rfl
    | exact Or.inl ⟨rfl,rfl⟩
    | exact Or.inr (Or.inl ⟨rfl,by first|exact ⟨_,_,rfl,rfl,Or.inl rfl⟩|exact ⟨_,_,rfl,rfl,Or.inr rfl⟩⟩)
    | refine And.intro ?_ ?_)
  (hvs:VWL (nameOf ids nx) H (bu 0 bs) vs vs0:=by
   repeat' first
    | exact trivial
    | refine And.intro (cT (by first|with_reducible rfl|assumption|omega)) ?_
    | refine And.intro (Or.inl ⟨rfl,rfl⟩) ?_
    | refine And.intro (Or.inr (Or.inl ⟨rfl,by first|exact ⟨_,_,rfl,rfl,Or.inl rfl⟩|exact ⟨_,_,rfl,rfl,Or.inr rfl⟩⟩)) ?_):WT P Q (.sub f vs H nx k):=by
 refine Oo ids hs hm BI hnd hfit hvs ?_;rintro r0 h0 n0 ⟨rfl,rfl,rfl⟩;exact h2
theorem bk (nx:Nat) (ids:List Nat) (hs:kH P f vs0 bs d) (h2:∀h n,WT P Q (k (.pan d) h n))
  (hm:Nat.ble ids.length bs.length=true:=by rfl) (BI:(ids.all fun a=>Nat.blt a nx)=true:=by rfl) (hnd:ud ids=true:=by rfl)
  (hfit:LJ (nameOf ids nx) H (bu 0 bs) 0 bs:=by
   repeat' first
    | exact trivial
    | refine And.intro (Or.inl ⟨_,rfl,⟨rfl,rfl⟩⟩) ?_
    | refine And.intro (Or.inl ⟨_,rfl,⟨rfl,rfl,rfl⟩⟩) ?_
    | refine And.intro (Or.inl ⟨_,rfl,?_⟩) ?_
    | refine And.intro (Or.inr ⟨rfl,rfl⟩) ?_
    | refine And.intro (Or.inr ⟨rfl,rfl,rfl⟩) ?_
    | exact cT (by first|with_reducible rfl|assumption|omega)
    | exact zp (by first|with_reducible rfl|assumption|omega|(simp;done)|(simp;omega)) rfl rfl
    | exact Or.inl ⟨rfl,rfl⟩
    | exact Or.inr (Or.inl ⟨rfl,by first|exact ⟨_,_,rfl,rfl,Or.inl rfl⟩|exact ⟨_,_,rfl,rfl,Or.inr rfl⟩⟩)
    | refine And.intro ?_ ?_)
  (hvs:VWL (nameOf ids nx) H (bu 0 bs) vs vs0:=by
   repeat' first
    | exact trivial
    | refine And.intro (cT (by first|with_reducible rfl|assumption|omega)) ?_
    | refine And.intro (Or.inl ⟨rfl,rfl⟩) ?_
    | refine And.intro (Or.inr (Or.inl ⟨rfl,by first|exact ⟨_,_,rfl,rfl,Or.inl rfl⟩|exact ⟨_,_,rfl,rfl,Or.inr rfl⟩⟩)) ?_):WT P Q (.sub f vs H nx k):=by
 refine Oo ids hs hm BI hnd hfit hvs ?_;rintro r0 h0 n0 rfl;exact h2 _ _
theorem lh.Wu {P:Program} {f:FuncId} {vs:List V} {h:Heap} {nx:Nat} {R0 R:Res->Heap->Nat->Prop} (hs:lh P f vs h nx R0)
  (hq:∀r h0 n0,R0 r h0 n0->∃v v' h1 n1,r = .val v/\Weak ⟨[(0,v)],h0,n0,[],nx⟩ ⟨[(0,v')],h1,n1,[],nx⟩/\R (.val v') h1 n1):lh P f vs h nx R:=by
 refine ⟨hs.1,fun c w0 F gvs h1 h2 h3 h4 h5=>(hs.2 c w0 F gvs h1 h2 h3 h4 h5).mono ?_⟩;rintro e w' ⟨c',r,nx',e1,e2,e3,e4,e5,e6,e7,e8⟩;obtain ⟨v,v',h1',n1,rfl,hw,hr⟩:=hq _ _ _ e8
 cases e with
 | returned gv=>
  have r0:Rel c' w0 1 F ⟨[(0,v)],c'.heap,nx',[],nx⟩ { tmps:=#[gv],defers:=[] }:=by
   refine ⟨rfl,e4,rfl,?_,e6,h3,e5,rfl⟩;intro i u hu;rw [ai] at hu;by_cases hi:0=i
   ·subst hi
    rw [if_pos rfl] at hu;injection hu with hu;subst hu
    exact e7
   ·rw [if_neg hi] at hu;simp [look] at hu
  obtain ⟨c2,k1,k2,k3,k4,k5⟩:=r0.weak hw;refine ⟨c2,.val v',n1,k1.trans e1,k2.trans e2,k3.trans e3,k5.hrel,k5.base,k5.frames,?_,by rw [k5.heap];exact hr⟩;have:=k5.regs 0 v' (by simp [ai]);show aC c2 v' gv;simpa using this
 | panicked ch=>exact e7.elim
 | outgrown=>exact e7.elim
def EQ (b:Nat) (res:List gI) (v:V) (bs' : List Blk) (e:aG) (st:St):Prop:=(e = .normal\/e = .ret)/\st.defers=[]/\∃vs,resV st res=some vs/\Weak ⟨[(0,mE vs)],st.heap,st.next,[],b⟩ ⟨[(0,v)],bu 0 bs',bs'.length,[],b⟩
def PQ (res:List gI) (d:Dat) (e:aG) (st:St):Prop:=∃st',(st' = st\/Weak st st')/\He res (fun r' h n=>r' = .pan d) e st'
theorem aJ {m:bp} (hf:aM P f m) (hn:Nat.ble vs.length m.n=true) (hw:WT P (EQ bs.length m.res v bs') (exec m.code ⟨eK 0 vs,bu 0 bs,bs.length,[],bs.length⟩ Tree.done)):bm P f vs bs v bs':=by
 refine lh.Wu (R0:=fun r h n=>∃u,r = .val u/\Weak ⟨[(0,u)],h,n,[],bs.length⟩ ⟨[(0,v)],bu 0 bs',bs'.length,[],bs.length⟩) (pI hf hn (WT.mono ?_ _ hw)) ?_
 ·rintro e st ⟨he,hd,vs,hr,hw⟩
  refine ⟨st,.inl rfl,?_⟩
  rcases he with rfl|rfl<;>exact ⟨hd,vs,hr,_,rfl,hw⟩
 ·rintro r h0 n0 ⟨u,rfl,hw⟩
  exact ⟨u,v,_,_,rfl,hw,rfl,rfl,rfl⟩
theorem aP {m:bp} (hf:aM P f m) (hn:Nat.ble vs.length m.n=true) (hw:WT P (PQ m.res d) (exec m.code ⟨eK 0 vs,bu 0 bs,bs.length,[],bs.length⟩ Tree.done)):kH P f vs bs d:=pI hf hn hw
theorem aI (b:Nat) {res:List gI} {vs' : List V} {st:St} (hd:st.defers=[]) (hr:resV st res=some vs') (hw:Weak ⟨[(0,mE vs')],st.heap,st.next,[],b⟩ ⟨[(0,v)],bu 0 bs',bs'.length,[],b⟩):WT P (EQ b res v bs') (.done .ret st):=⟨.inr rfl,hd,vs',hr,hw⟩
theorem dr (b:Nat) {res:List gI} {vs' : List V} {st:St} (hd:st.defers=[]) (hr:resV st res=some vs') (hw:Weak ⟨[(0,mE vs')],st.heap,st.next,[],b⟩ ⟨[(0,v)],bu 0 bs',bs'.length,[],b⟩):WT P (EQ b res v bs') (.done .normal st):=⟨.inl rfl,hd,vs',hr,hw⟩
theorem aQ {res:List gI} {st:St} (hd:st.defers=[]):WT P (PQ res d) (.done (.panic d) st):=⟨st,.inl rfl,hd,rfl⟩
end
end Uw
namespace Uw
open Go Go.RowKit
variable [Glob]
theorem Jf {ids:List Nat} {nx j:Nat} (hj:j<nx) (hn:ids.contains j=false) (i:Nat):nameOf ids nx i≠j:=by
 intro e
 rcases Zg i ids.length with h|h
 ·have:=u5 (nx:=nx) h
  rw [e] at this;rw [List.contains_eq_mem] at hn;simp at hn;exact hn this
 ·rw [lQ h] at e
  omega
theorem Weak.rest {ids:List Nat} {nx:Nat} {h0 H H' : Heap} {n n' : Nat} {regs S5 : fw} {ds:List V} {b:Nat} (hR:∀p∈S5,look regs p.1=some p.2/\p.2.closed H' = true/\p.2=p.2.ren (dm [])) (hH:∀p∈H',p.1<n'/\p.1<nx/\ids.contains p.1=false/\look H p.1=look H' p.1/\p.2.closed H' = true/\p.2=p.2.ren (dm []))
  (hc:cF H' ds=true) (hd:ds=fK (dm []) ds) (hb:b=0):Weak ⟨regs,uc (nameOf ids nx) h0++H,n,ds,b⟩ ⟨S5,H',n',ds,b⟩:=by
 have hl:∀{α:Type} (l:List (Nat×α)) (i:Nat) (x:α),look l i=some x->(i,x)∈l:=by
  intro α l
  induction l with
  | nil=>intro i x h;simp [look] at h
  | cons p l ih=>
   intro i x h;obtain ⟨j,y⟩:=p;rw [ai] at h;by_cases e:j=i
   ·subst e;rw [if_pos rfl] at h;injection h with h;subst h;exact ZY ..
   ·rw [if_neg e] at h;exact ZH _ (ih i x h)
 refine ⟨dm [],?_,?_,?_,rfl,?_,?_,fun _ _ _ _ e=>e,hc,?_⟩
 ·intro i v' h
  obtain ⟨h1,h2,h3⟩:=hR _ (hl _ _ _ h);exact ⟨v',h1,.inl ⟨h3,h2⟩⟩
 ·intro id b' h
  obtain ⟨_,h2,h3,h4,h5,h6⟩:=hH _ (hl _ _ _ h);refine .inl ⟨b',?_,dX h6 h5⟩;show look (uc (nameOf ids nx) h0++H) id=_;rw [kG,jC (Jf h2 h3)];show look H id=_;rw [h4,h]
 ·intro id x h
  exact (hH _ (hl _ _ _ h)).1
 ·subst hb;exact ZP _
 ·subst hb;intro id h;exact absurd h (Z9 _)
 ·exact hd
section
variable {P : Program} {Q : aG -> St -> Prop} {f : FuncId} {vs vs0 : List V} {H : Heap} {k : Res -> Heap -> Nat -> Tree} {bs bs' : List Blk} {v : V} {d : Dat}
theorem Q0 (nx:Nat) (ids:List Nat) (hs:kH P f vs0 bs d) (h2:∀h0 n0,WT P Q (k (.pan d) (uc (nameOf ids nx) h0++H) (nx+(n0 - ids.length))))
  (hm:Nat.ble ids.length bs.length=true:=by rfl) (BI:(ids.all fun a=>Nat.blt a nx)=true:=by rfl) (hnd:ud ids=true:=by rfl)
  (hfit:LJ (nameOf ids nx) H (bu 0 bs) 0 bs:=by
   repeat' first
    | exact trivial
    | refine And.intro (Or.inl ⟨_,rfl,⟨rfl,rfl⟩⟩) ?_
    | refine And.intro (Or.inl ⟨_,rfl,⟨rfl,rfl,rfl⟩⟩) ?_
    | refine And.intro (Or.inl ⟨_,rfl,?_⟩) ?_
    | refine And.intro (Or.inr ⟨rfl,rfl⟩) ?_
    | refine And.intro (Or.inr ⟨rfl,rfl,rfl⟩) ?_
    | exact cT (by first|with_reducible rfl|assumption|omega)
    | exact zp (by first|with_reducible rfl|assumption|omega|(simp;done)|(simp;omega)) rfl rfl
    | exact Or.inl ⟨rfl,rfl⟩
    | exact Or.inr (Or.inl ⟨rfl,by first|exact ⟨_,_,rfl,rfl,Or.inl rfl⟩|exact ⟨_,_,rfl,rfl,Or.inr rfl⟩⟩)
    | refine And.intro ?_ ?_)
  (hvs:VWL (nameOf ids nx) H (bu 0 bs) vs vs0:=by
   repeat' first
    | exact trivial
    | refine And.intro (cT (by first|with_reducible rfl|assumption|omega)) ?_
    | refine And.intro (Or.inl ⟨rfl,rfl⟩) ?_
    | refine And.intro (Or.inr (Or.inl ⟨rfl,by first|exact ⟨_,_,rfl,rfl,Or.inl rfl⟩|exact ⟨_,_,rfl,rfl,Or.inr rfl⟩⟩)) ?_):WT P Q (.sub f vs H nx k):=by
 refine Oo ids hs hm BI hnd hfit hvs ?_;rintro r0 h0 n0 rfl;exact h2 _ _
end
end Uw
namespace Uw
open Go Go.RowKit
variable [Glob]
section
variable {c : Cx} {w0 : World} {nx : Nat} {J : Nat -> Nat -> Prop} (hh : c8 c w0 nx) (hk : Keeps c.w c.w (Imm c) J)
include hh hk
theorem UT {id ver off len k:Nat} {xs:List (List Dat)} {gv:Value} (hl:look c.heap id=some (.mt k ver xs)) (hnew:0<(c.pl id).cap->∀o,J (c.pl id).gb o) (h:aC c (.ref id ver off len) gv):aK c.w J (.slice k ((xs.drop off).take len) false) gv:=by
 simp only [aC,hl] at h;obtain ⟨_,_,h⟩:=h;obtain ⟨h1,h2⟩:=h rfl;have hlen:((xs.drop off).take len).length=len:=by simp;omega
 rcases h2 with ⟨h2,h3,_⟩|⟨b,o,h2,h3⟩
 ·exact .inl ⟨⟨_,h2,by simp⟩,Y2 (by omega)⟩
 ·obtain ⟨b3,b4,bb⟩:=hh.blk id _ hl
  refine .inr ⟨b,o,(c.pl id).cap - off,by rw [hlen];exact h2,by rw [hlen];omega,by simp,?_⟩;by_cases hl0:len=0
  ·subst hl0;simp [cv]
  ·obtain ⟨vs,e,g1,g2,g3,g4⟩:=bb (by omega)
   obtain ⟨rfl,rfl⟩:=h3 (by omega);have hfl:=mq b4 off len (by omega);refine cv.of_flat (us:=((vs.toList.take (xs.length * k)).drop (off * k)).take (len * k)) (fun x hx=>b4 x (Z1 (Zs hx))) ?_ ?_
   ·rw [hfl];exact aS.keep hk _ _ ((g3.drop _).take _)
   ·intro j v hv
    refine ⟨?_,hnew (by omega) _,g4 v (Z1 (Zs (Y4 hv)))⟩;rw [YV] at hv
    split at hv
    ·rw [ZD,YV] at hv
     split at hv
     ·rw [bY g1];simpa using hv
     ·simp at hv
    ·simp at hv
def frz (h h' : Heap):List V->Option (List Dat)
 | []=>some []
 | .d x::r=>(frz h h' r).map (x::·)
 | .ref id ver off len::r=>match look h id,look h' id,frz h h' r with
  | some (.arr k xs),_,some l=>some (.slice k ((xs.drop off).take len) false::l)
  | some (.mt k dF xs),none,some l=>match Nat.beq ver dF with
   | true=>some (.slice k ((xs.drop off).take len) false::l)
   | false=>none
  | _,_,_=>none
 | _=>none
theorem yK {h' : Heap} (hnew:∀id k ver xs,look c.heap id=some (.mt k ver xs)->look h' id=none->0<(c.pl id).cap->∀o,J (c.pl id).gb o):∀{vs:List V} {ds:List Dat} {us:List Value},frz c.heap h' vs=some ds->aB c vs us->aS c.w J ds us
 | [],ds,us,h,r=>by simp [frz] at h;subst h;simpa [aS,aB] using r
 | v::vs,ds,us,h,r=>by
  obtain ⟨u,us',rfl,r1,r2⟩:=r;unfold frz at h
  split at h
  ·rename_i heq;simp at heq
  ·rename_i x rr heq
   simp only [ZI] at heq;obtain ⟨rfl,rfl⟩:=heq;rw [YS] at h;obtain ⟨l,hl,rfl⟩:=h;exact ⟨u,us',rfl,aK.keep hk _ _ r1,yK hnew hl r2⟩
  ·rename_i id ver off len rr heq
   simp only [ZI] at heq;obtain ⟨rfl,rfl⟩:=heq
   split at h
   ·rename_i k xs _ l hl1 hl2
    simp at h;subst h;exact ⟨u,us',rfl,aK.keep hk _ _ (sk hl1 r1),yK hnew hl2 r2⟩
   ·rename_i k dF xs l hl1 hl2 hl3
    split at h
    ·rename_i hb
     simp at h;subst h;have hb:=YO hb;subst hb;exact ⟨u,us',rfl,UT hh hk hl1 (hnew _ _ _ _ hl1 hl2) r1,yK hnew hl3 r2⟩
    ·simp at h
   ·simp at h
  ·simp at h
end
mutual
theorem Oq:∀v:V,v.ren (dm [])=v
 | .ptr id o=>rfl
 | .mc id v i c=>rfl
 | .ref id v o l=>rfl
 | .agg cs=>by rw [V.ren,l9 cs]
 | .func f fs cs=>by rw [V.ren,l9 fs,l9 cs]
 | .tuple cs=>by rw [V.ren,l9 cs]
 | .d x=>rfl
 | .ro cs o=>rfl
 | .hnd id=>rfl
 | .row id len=>rfl
 | .undef=>rfl
theorem l9:∀l:List V,fK (dm []) l=l
 | []=>rfl
 | v::r=>by rw [fK,Oq v,l9 r]
end
theorem lh.freeze {P:Program} {f:FuncId} {vs:List V} {h:Heap} {nx:Nat} {R0 R:Res->Heap->Nat->Prop} (hs:lh P f vs h nx R0)
  (hq:∀r h0 n0,R0 r h0 n0->∃cs ds h1 n1,r = .val (.agg cs)/\frz h0 h1 cs=some ds/\(∀id x,look h1 id=some x->look h0 id=some x/\x.closed h1=true/\id<n1)/\nx<=n1/\(∀id,id<nx->(look h0 id).isSome=true->(look h1 id).isSome=true)/\R (.val (.agg (ds.map V.d))) h1 n1):lh P f vs h nx R:=by
 refine ⟨hs.1,fun c w0 F gvs h1 h2 h3 h4 h5=>(hs.2 c w0 F gvs h1 h2 h3 h4 h5).mono ?_⟩;rintro e w' ⟨c',r,nx',e1,e2,e3,e4,e5,e6,e7,e8⟩;obtain ⟨cs,ds,h1',n1,rfl,hd,hw,hn1,hkp,hr⟩:=hq _ _ _ e8
 cases e with
 | returned gv=>
  obtain ⟨us,rfl,e7⟩:=e7;have r0:Rel c' w0 0 F ⟨[],c'.heap,nx',[],nx⟩ { tmps:=#[],defers:=[] }:=
   ⟨rfl,e4,rfl,fun i v hv=>by simp [look] at hv,e6,h3,e5,rfl⟩
  have hwr:xI (dm []) ⟨[],c'.heap,nx',[],nx⟩ ⟨[],h1',n1,[],nx⟩:=by
   refine ⟨fun i v hv=>by simp [look] at hv,fun i x hx=>.inl ⟨x,(hw i x hx).1,dX ?_ (hw i x hx).2.1⟩,fun i x hx=>(hw i x hx).2.2,rfl,hn1,fun id hid=>⟨rfl,hkp id hid⟩,fun id id' _ _ he=>he,rfl,rfl⟩
   cases x with
   | var cs=>show Blk.var cs=Blk.var (fK (dm []) cs);rw [l9]
   | _=>rfl
  have r1:=r0.NT hwr;have hs' : ∀id b',look h1' id=some b'->(∃b,look c'.heap (dm [] id)=some b/\m8 (dm []) c'.heap h1' b b')\/(look c'.heap (dm [] id)=none/\jf b'):=hwr.heap;refine ⟨c'.weak (dm []) h1',.val (.agg (ds.map V.d)),n1,e1,e2,e3,r1.hrel,hn1,r1.frames,?_,hr⟩;refine ⟨us,rfl,aB.ofL ?_⟩;refine yK (c:=c') e4 (iZ hs') ?_ hd e7;intro id k ver xs hl hl1 hcap o;refine .inr ⟨e4.ge id _ hl hcap,e4.jy hl hcap,fun id2 UU g1 g2 g3=>?_⟩;exfalso;obtain ⟨k1,_,_⟩:=hw id2 UU g1;have hp:(c'.weak (dm []) h1').pl id2=c'.pl id2:=fU hs' k1;rw [hp] at g2 g3;have:=e4.inj id2 id UU _ k1 hl g2 hcap g3;subst this;have g1:look h1' id2=some UU:=g1;rw [hl1] at g1;cases g1
 | panicked ch=>exact e7.elim
 | outgrown=>exact e7.elim
end Uw
namespace Uw
open Go
noncomputable def runT (res:List gI) (t:Tree):List Dat->Option (List (FuncId×List Dat)×Dat):=
 Tree.rec (motive:=fun _=>List Dat->Option (List (FuncId×List Dat)×Dat))
  (fun e st _=>match e with
   | .ret=>match st.defers,resV st res with
    | [],some vs=>match dQ st.heap vs,wv st.heap vs with
     | some ds,true=>some ([],jX ds)
     | _,_=>none
    | _,_=>none
   | _=>none)
  (fun _=>none)
  (fun b _ _ y n as=>match b with|true=>y as|false=>n as)
  (fun _ _ _ _ _=>none)
  (fun _ _ _ _ _=>none)
  (fun xs i _ k as=>match xs[i]? with|some x=>k x as|none=>none)
  (fun s i _ k as=>match s[i]? with|some x=>k x as|none=>none)
  (fun o _ k as=>match o with|some x=>k x as|none=>none)
  (fun o _ k as=>match o with|some x=>k x as|none=>none)
  (fun o _ k as=>match o with|some x=>k x as|none=>none)
  (fun h _ k as=>k h as)
  (fun f ds _ k as=>match as with|r::rs=>(match k r rs with|some (cs,d)=>some ((f,ds)::cs,d)|none=>none)|[]=>none)
  (fun _ _ _ _ _ _ _=>none)
  (fun _ _ _ _ _=>none)
  t
variable [Glob]
def Jg (P:Program):List (FuncId×List Dat)->List Dat->Prop
 | [],_=>True
 | (f,ds)::cs,r::rs=>Ret P f ds r/\Jg P cs rs
 | _::_,[]=>False
theorem Q5 {P:Program} {res:List gI} {r:Dat}:∀(t:Tree) (as:List Dat) (cs:List (FuncId×List Dat)),runT res t as=some (cs,r)->Jg P cs as->WT P (BG res r) t:=by
 intro t
 induction t with
 | done e st=>
  intro as cs h _
  cases e with
  | ret=>
   simp only [runT] at h
   split at h
   ·rename_i hd hv
    split at h
    ·rename_i h1 h2
     injection h with h
     injection h with h0 h
     exact al hd hv h1 h2 h
    ·cases h
   ·cases h
  | normal=>cases h
  | exit _=>cases h
  | panic _=>cases h
 | fail=>intro as cs h _;cases h
 | test b y n hy hn=>
  intro as cs h ha
  cases b with
  | true=>exact QK rfl (hy as cs h ha)
  | false=>exact NY rfl (hn as cs h ha)
 | both=>intro as cs h _;cases h
 | same=>intro as cs h _;cases h
 | elem xs i k ih=>
  intro as cs h ha
  cases hx:xs[i]? with
  | none=>simp only [runT,hx] at h;cases h
  | some x=>simp only [runT,hx] at h;exact iU x hx (ih x as cs h ha)
 | byte xs i k ih=>
  intro as cs h ha
  cases hx:xs[i]? with
  | none=>simp only [runT,hx] at h;cases h
  | some x=>simp only [runT,hx] at h;exact yH x hx (ih x as cs h ha)
 | val o k ih=>
  intro as cs h ha
  cases o with
  | none=>cases h
  | some x=>exact NZ x rfl (ih x as cs h ha)
 | blk o k ih=>
  intro as cs h ha
  cases o with
  | none=>cases h
  | some x=>exact lk x rfl (ih x as cs h ha)
 | BD o k ih=>
  intro as cs h ha
  cases o with
  | none=>cases h
  | some x=>exact yI x rfl (ih x as cs h ha)
 | heq hh k ih=>intro as cs h ha;exact Kq (ih hh as cs h ha)
 | call f ds k ih=>
  intro as cs h ha
  cases as with
  | nil=>cases h
  | cons a as=>
   cases hk:runT res (k a) as with
   | none=>
    have h:(match runT res (k a) as with|some (cs,d)=>some ((f,ds)::cs,d)|none=>none)=some (cs,r):=h;rw [hk] at h;cases h
   | some y=>
    have h:(match runT res (k a) as with|some (cs,d)=>some ((f,ds)::cs,d)|none=>none)=some (cs,r):=h;rw [hk] at h;obtain ⟨cs2,d⟩:=y;injection h with h
    injection h with h1 h2
    subst h1 h2;exact EC a ha.1 (ih a as cs2 hk ha.2)
 | sub=>intro as cs h _;cases h
 | code=>intro as cs h _;cases h
theorem Ot {P:Program} {f:FuncId} {m:bp} (hf:aM P f m) {args:List Dat} {r:Dat} (cs:List (FuncId×List Dat)) (as:List Dat) (hn:Nat.ble args.length m.n=true) (h:runT m.res (exec m.code (lj args) Tree.done) as=some (cs,r)) (ha:Jg P cs as):Ret P f args r:=aF hf hn (Q5 _ _ _ h ha)
end Uw
namespace Uw
open Go
structure Ev where
 F:FuncId->List Dat->Option Dat
 L:bN->St->Option (aG×St)
 S:FuncId->List V->Heap->Nat->Option (V×Heap×Nat)
noncomputable def evT (E:Ev) (t:Tree):Option (aG×St):=
 Tree.rec (motive:=fun _=>Option (aG×St))
  (fun e st=>some (e,st))
  none
  (fun b _ _ y n=>match b with|true=>y|false=>n)
  (fun _ _ _ _=>none)
  (fun _ _ _ _=>none)
  (fun xs i _ k=>match xs[i]? with|some x=>k x|none=>none)
  (fun s i _ k=>match s[i]? with|some x=>k x|none=>none)
  (fun o _ k=>match o with|some x=>k x|none=>none)
  (fun o _ k=>match o with|some x=>k x|none=>none)
  (fun o _ k=>match o with|some x=>k x|none=>none)
  (fun h _ k=>k h)
  (fun f ds _ k=>match E.F f ds with|some r=>k r|none=>none)
  (fun f vs h nx _ k=>match E.S f vs h nx with|some x=>k (.val x.1) x.2.1 x.2.2|none=>none)
  (fun c st _ k=>match c with
   | .loop m=>match E.L m st with|some x=>k x.1 x.2|none=>none
   | _=>none)
  t
noncomputable def Ky (res:List gI) (x:aG×St):Option Dat:=
 match x.1,x.2.defers,resV x.2 res with
 | .ret,[],some vs=>match dQ x.2.heap vs,wv x.2.heap vs with
  | some ds,true=>some (jX ds)
  | _,_=>none
 | .normal,[],some vs=>match dQ x.2.heap vs,wv x.2.heap vs with
  | some ds,true=>some (jX ds)
  | _,_=>none
 | _,_,_=>none
noncomputable def Kz (res:List gI) (x:aG×St):Option (V×Heap×Nat):=
 match x.1,x.2.defers,resV x.2 res with
 | .ret,[],some vs=>some (mE vs,x.2.heap,x.2.next)
 | .normal,[],some vs=>some (mE vs,x.2.heap,x.2.next)
 | _,_,_=>none
noncomputable def UV (tab:List (Nat×bp)) (E:Ev):Ev where
 F:=fun f ds=>match look tab f with
  | some m=>match Nat.ble ds.length m.n with
   | true=>match evT E (exec m.code (lj ds) Tree.done) with
    | some x=>Ky m.res x
    | none=>none
   | false=>none
  | none=>none
 L:=fun m st=>match evT E (exec m st Tree.done) with
  | some (.normal,st')=>E.L m st'
  | r=>r
 S:=fun f vs h nx=>match look tab f with
  | some m=>match Nat.ble vs.length m.n with
   | true=>match evT E (exec m.code ⟨eK 0 vs,h,nx,[],nx⟩ Tree.done) with
    | some x=>Kz m.res x
    | none=>none
   | false=>none
  | none=>none
noncomputable def evN (tab:List (Nat×bp)) (n:Nat):Ev:=Nat.rec (motive:=fun _=>Ev) ⟨fun _ _=>none,fun _ _=>none,fun _ _ _ _=>none⟩ (fun _ E=>UV tab E) n
variable [Glob]
structure Wv (P:Program) (E:Ev):Prop where
 F:∀f ds r,E.F f ds=some r->Ret P f ds r
 L:∀m st e st',E.L m st=some (e,st')->e≠.normal/\∃N,∀Q:aG->St->Prop,Q e st'->Rounds P m Q N st
 S:∀f vs h nx v h' n',E.S f vs h nx=some (v,h',n')->lh P f vs h nx fun r h2 n2=>r = .val v/\h2=h'/\n2=n'
theorem EN {P:Program} {E:Ev} (hE:Wv P E) {Q:aG->St->Prop}:∀(t:Tree) (e:aG) (st:St),evT E t=some (e,st)->Q e st->WT P Q t:=by
 intro t
 induction t with
 | done e0 st0=>
  intro e st h hq;injection h with h
  injection h with h1 h2
  subst h1 h2;exact hq
 | fail=>intro e st h _;cases h
 | test b y n hy hn=>
  intro e st h hq
  cases b with
  | true=>exact QK rfl (hy e st h hq)
  | false=>exact NY rfl (hn e st h hq)
 | both=>intro e st h _;cases h
 | same=>intro e st h _;cases h
 | elem xs i k ih=>
  intro e st h hq
  cases hx:xs[i]? with
  | none=>simp only [evT,hx] at h;cases h
  | some x=>simp only [evT,hx] at h;exact iU x hx (ih x e st h hq)
 | byte xs i k ih=>
  intro e st h hq
  cases hx:xs[i]? with
  | none=>simp only [evT,hx] at h;cases h
  | some x=>simp only [evT,hx] at h;exact yH x hx (ih x e st h hq)
 | val o k ih=>
  intro e st h hq
  cases o with
  | none=>cases h
  | some x=>exact NZ x rfl (ih x e st h hq)
 | blk o k ih=>
  intro e st h hq
  cases o with
  | none=>cases h
  | some x=>exact lk x rfl (ih x e st h hq)
 | BD o k ih=>
  intro e st h hq
  cases o with
  | none=>cases h
  | some x=>exact yI x rfl (ih x e st h hq)
 | heq hh k ih=>intro e st h hq;exact Kq (ih hh e st h hq)
 | call f ds k ih=>
  intro e st h hq
  cases hx:E.F f ds with
  | none=>simp only [evT,hx] at h;cases h
  | some x=>simp only [evT,hx] at h;exact EC x (hE.F f ds x hx) (ih x e st h hq)
 | sub f vs hh nx k ih=>
  intro e st h hq
  cases hx:E.S f vs hh nx with
  | none=>simp only [evT,hx] at h;cases h
  | some x=>
   obtain ⟨v,h',n'⟩:=x;simp only [evT,hx] at h;refine N1 (hE.S f vs hh nx v h' n' hx) ?_;rintro r h2 n2 ⟨rfl,rfl,rfl⟩;exact ih (.val v) h2 n2 e st h hq
 | code c st0 k ih=>
  intro e st h hq
  cases c with
  | loop m=>
   cases hx:E.L m st0 with
   | none=>simp only [evT,hx] at h;cases h
   | some x=>
    obtain ⟨e1,st1⟩:=x;simp only [evT,hx] at h;obtain ⟨_,N,hN⟩:=hE.L m st0 e1 st1 hx;exact fB N (hN _ (ih e1 st1 e st h hq))
  | skip=>cases h
  | ops=>cases h
  | seq=>cases h
  | cond=>cases h
  | block=>cases h
  | exit=>cases h
  | ret=>cases h
  | draw=>cases h
theorem Ou {res:List gI} {x:aG×St} {r:Dat} (h:Ky res x=some r):BG res r x.1 x.2:=by
 unfold Ky at h
 split at h
 ·rename_i h1 h2 h3
  split at h
  ·rename_i h4 h5
   injection h with h
   exact ⟨.inr h1,h2,_,_,h3,h4,h5,h⟩
  ·cases h
 ·rename_i h1 h2 h3
  split at h
  ·rename_i h4 h5
   injection h with h
   exact ⟨.inl h1,h2,_,_,h3,h4,h5,h⟩
  ·cases h
 ·cases h
theorem Ov {res:List gI} {x:aG×St} {v:V} {h' : Heap} {n' : Nat} (h:Kz res x=some (v,h',n')):He res (fun r h2 n2=>r = .val v/\h2=h'/\n2=n') x.1 x.2:=by
 unfold Kz at h;obtain ⟨e,st⟩:=x
 split at h
 ·rename_i h1 h2 h3
  injection h with h
  injection h with g1 g2
  injection g2 with g2 g3
  simp only at h1 h2 h3 g2 g3;subst h1;exact ⟨h2,_,h3,by rw [g1],g2,g3⟩
 ·rename_i h1 h2 h3
  injection h with h
  injection h with g1 g2
  injection g2 with g2 g3
  simp only at h1 h2 h3 g2 g3;subst h1;exact ⟨h2,_,h3,by rw [g1],g2,g3⟩
 ·cases h
theorem Ox {P:Program} {tab:List (Nat×bp)} (ht:∀f m,look tab f=some m->aM P f m):∀n,Wv P (evN tab n)
 | 0=>⟨fun _ _ _ h=>(by cases h),fun _ _ _ _ h=>(by cases h),fun _ _ _ _ _ _ _ h=>(by cases h)⟩
 | n+1=>by
  have ih:=Ox ht n;refine ⟨fun f ds r h=>?_,fun m st e st' h=>?_,fun f vs hh nx v h' n' h=>?_⟩
  ·have h:(match look tab f with
    | some m=>match Nat.ble ds.length m.n with
     | true=>match evT (evN tab n) (exec m.code (lj ds) Tree.done) with
      | some x=>Ky m.res x
      | none=>none
     | false=>none
    | none=>none)=some r:=h
   split at h
   ·rename_i m hm
    split at h
    ·rename_i hn
     split at h
     ·rename_i x hx
      exact aF (ht f m hm) hn (EN ih _ x.1 x.2 hx (Ou h))
     ·cases h
    ·cases h
   ·cases h
  ·have h:(match evT (evN tab n) (exec m st Tree.done) with
    | some (.normal,st')=>(evN tab n).L m st'
    | r=>r)=some (e,st'):=h
   split at h
   ·rename_i st2 hx
    obtain ⟨h1,N,hN⟩:=ih.L m st2 e st' h;exact ⟨h1,N+1,fun Q hq=>EN ih _ _ _ hx (hN Q hq)⟩
   ·rename_i r hne
    have hx:=h;have hen:e≠.normal:=fun e1=>hne st' (by rw [hx,e1]);refine ⟨hen,1,fun Q hq=>EN ih _ _ _ hx ?_⟩
    cases e with
    | normal=>exact absurd rfl hen
    | exit j=>exact hq
    | ret=>exact hq
    | panic d=>exact hq
  ·have h:(match look tab f with
    | some m=>match Nat.ble vs.length m.n with
     | true=>match evT (evN tab n) (exec m.code ⟨eK 0 vs,hh,nx,[],nx⟩ Tree.done) with
      | some x=>Kz m.res x
      | none=>none
     | false=>none
    | none=>none)=some (v,h',n'):=h
   split at h
   ·rename_i m hm
    split at h
    ·rename_i hn
     split at h
     ·rename_i x hx
      exact Kr (ht f m hm) hn (EN ih _ x.1 x.2 hx (Ov h))
     ·cases h
    ·cases h
   ·cases h
def Oy (P:Program):List (Nat×bp)->Prop
 | []=>True
 | (f,m)::r=>aM P f m/\Oy P r
theorem KA {P:Program}:∀{tab:List (Nat×bp)},Oy P tab->∀f m,look tab f=some m->aM P f m
 | [],_,_,_,h=>by cases h
 | (g,a)::r,⟨h1,h2⟩,f,m,h=>by
  rw [ai] at h
  split at h
  ·rename_i e
   injection h with h
   rw [<- e,<- h];exact h1
  ·exact KA h2 f m h
theorem EO {P:Program} {tab:List (Nat×bp)} (n:Nat) (ht:∀f m,look tab f=some m->aM P f m) {f:FuncId} {ds:List Dat} {r:Dat} (h:(evN tab n).F f ds=some r):Ret P f ds r:=(Ox ht n).F f ds r h
end Uw
namespace Uw
open Go Go.RowKit
section
variable {P : Program} [Glob] {Q : aG -> St -> Prop} {t t' : Tree}
end
end Uw
