/- J3: Un Uz Uz2 Uz3 Uz4 Uz5 Uz6 Uz7 Uz8 Uz9 Uza Uze Uzf Uzg Uzh Uzi Uzb Uzc Uzl Uzm Uzk Uzn Uzd (merged by merge2.py from the working texts). -/
import Derived.Test.YtikpfliiodgonaaGreatDoorJ2
import Derived.LoopN
import Derived.Recover
import Derived.Carry
import Derived.ProofKit
import Derived.OpenShut
import Derived.SizedLaws
import Derived.Lib.SpaceUEq
import Derived.RangeFuncNested
import Derived.RangeFuncLeaves
set_option linter.unusedSimpArgs false
set_option linter.unnecessarySimpa false
set_option linter.unusedVariables false
set_option linter.unusedSectionVars false
namespace Uw
open Go Go.RowKit
variable [Glob]
theorem kF {P:Program} (S:WPS P) {n:Nat} {pol:Pol} {Q:ay->St->Prop} {w0:World} {gs:Fr}:∀(code:Code) (m:bR),comp P n pol code=some m->(S.dfr=true\/noD code=true)->∀(q:ay->St->Tree) (c:Cx) (st:St) (a:Act),Rel c w0 n gs st a->
  WT P Q (exec m st q)->S.W code (Came P Q q c w0 n gs) a c.w:=by
 intro code
 induction code with
 | skip=>
  intro m hc hdf q c st a r h;simp [comp] at hc;subst hc;exact S.skip ⟨c,.normal,st,rfl,rfl,rfl,trivial,r,h⟩
 | region id ops draw=>
  intro m hc hdf q c st a r h
  cases draw with
  | true=>
   simp only [comp] at hc
   split at hc
   ·rename_i l hm hl
    split at hc
    ·rename_i hd
     simp at hc;subst hc;have:=QC S (id:=id) (Q:=Q) (q:=q) (w0:=w0) (gs:=gs) hdf hm hl hd r h;simpa using this
    ·rename_i hd
     have hc' : comp P n pol (.region id ops true)=some m:=by simp only [comp,hm,hl,hd];exact hc
     split at hc
     ·simp only [abL] at hc;subst hc
      simp only [pM,sB,sC,pN,nh,pO,pP,sD,pR,WT] at h;exact h S n pol _ hc' hdf c w0 gs a r
     ·simp at hc
   ·simp at hc
  | false=>
   simp only [comp,abx] at hc;obtain ⟨l,hl,rfl⟩:=hc;have:=vv (P:=P) (n:=n) (ops:=ops.toList) (Q:=Q) (q:=q) (w0:=w0) (gs:=gs) (c0:=c) ops.toList l none c st a hl rfl rfl r (by intro t w' h' hh;simp at hh) h;exact S.list Gn hdf (by simpa using this)
 | seq x y ihx ihy=>
  intro m hc hdf q c st a r h;simp only [comp] at hc
  split at hc
  ·rename_i mx my hx hy
   simp at hc;subst hc;simp only [pM,sB,sC,pN,nh,pO,pP,sD,pR] at h;refine S.seq (S.mono (ihx mx hx (hdf.imp id fun h=>by simp [noD] at h;exact h.1) _ c st a r h) ?_);intro e a' w' hq;obtain ⟨c',me,st',e1,e2,e3,e4,e5,e6⟩:=hq;subst e3
   cases e with
   | normal=>
    cases me<;>simp only [bE] at e4
    have:=ihy my hy (hdf.imp id fun h=>by simp [noD] at h;exact h.2) q c' st' a' e5 e6;refine S.mono this ?_;intro e a'' w'' ⟨c'',me',wk,f1,f2,f3,f4,f5,f6⟩;exact ⟨c'',me',wk,f1.trans e1,f2.trans e2,f3,f4,f5,f6⟩
   | exit id=>cases me<;>simp only [bE] at e4;rename_i j;exact ⟨c',.exit j,st',e1,e2,rfl,e4,e5,e6⟩
   | goto l=>cases me<;>simp only [bE] at e4
   | ret=>cases me<;>simp only [bE] at e4;exact ⟨c',.ret,st',e1,e2,rfl,trivial,e5,e6⟩
   | panic ch=>cases me<;>simp only [bE] at e4;rename_i d;exact ⟨c',.panic d,st',e1,e2,rfl,e4,e5,e6⟩
   | outgrown=>cases me<;>simp only [bE] at e4
  ·simp at hc
 | cond x y z ihy ihz=>
  intro m hc hdf q c st a r h;simp only [comp] at hc
  split at hc
  ·rename_i cx my mz hx hy hz
   simp at hc;subst hc;simp only [pM,sB,sC,pN,nh,pO,pP,sD,pR] at h
   split at h
   ·rename_i b hb
    have e:=aH r hx hb;simp only [aD,aI] at e;simp only [WT] at h;exact S.cond e (fun hb'=>ihy my hy (hdf.imp id fun h=>by simp [noD] at h;exact h.1) q c st a r (h.1 hb')) (fun hb'=>ihz mz hz (hdf.imp id fun h=>by simp [noD] at h;exact h.2) q c st a r (h.2 hb'))
   ·exact h.elim
  ·simp at hc
 | block id x ih=>
  intro m hc hdf q c st a r h;simp only [comp,abx] at hc;obtain ⟨mx,hx,rfl⟩:=hc;simp only [pM,sB,sC,pN,nh,pO,pP,sD,pR] at h;refine S.block (S.mono (ih mx hx (hdf.imp (fun h=>h) fun h=>by simp [noD] at h;exact h) _ c st a r h) ?_);intro e a' w' hq;obtain ⟨c',me,st',e1,e2,e3,e4,e5,e6⟩:=hq
  cases e with
  | normal=>cases me<;>simp only [bE] at e4;exact ⟨c',.normal,st',e1,e2,e3,trivial,e5,e6⟩
  | exit j=>
   cases me<;>simp only [bE] at e4
   rename_i j';subst e4;simp only [Exit.inBlock];by_cases hj:j=id
   ·subst hj
    simp only [if_true];simp at e6;exact ⟨c',.normal,st',e1,e2,e3,trivial,e5,e6⟩
   ·have hb:Nat.beq j id=false:=by
     rw [Bool.eq_false_iff];intro hb;exact hj (abr hb)
    simp only [hb] at e6;simp only [hj,if_false];exact ⟨c',.exit j,st',e1,e2,e3,rfl,e5,e6⟩
  | goto l=>cases me<;>simp only [bE] at e4
  | ret=>cases me<;>simp only [bE] at e4;exact ⟨c',.ret,st',e1,e2,e3,trivial,e5,e6⟩
  | panic ch=>cases me<;>simp only [bE] at e4;rename_i d;exact ⟨c',.panic d,st',e1,e2,e3,e4,e5,e6⟩
  | outgrown=>cases me<;>simp only [bE] at e4
 | loop x ih=>
  intro m hc hdf q c st a r h;have hc':=hc;simp only [comp,abx] at hc;obtain ⟨mx,hx,rfl⟩:=hc;simp only [pM,sB,sC,pN,nh,pO,pP,sD,pR,WT] at h;exact h S n pol _ hc' hdf c w0 gs a r
 | exit id=>
  intro m hc hdf q c st a r h;simp [comp] at hc;subst hc;exact S.exit ⟨c,.exit id,st,rfl,rfl,rfl,rfl,r,h⟩
 | ret=>
  intro m hc hdf q c st a r h;simp [comp] at hc;subst hc;exact S.ret ⟨c,.ret,st,rfl,rfl,rfl,trivial,r,h⟩
 | scope x ih=>
  intro m hc hdf q c st a r h;simp only [comp,abx] at hc;obtain ⟨mx,hx,rfl⟩:=hc;have hd:S.dfr=true:=hdf.resolve_right (by simp [noD]);have h' : WT P Q (exec mx st q):=h;refine S.scope hd (S.mono (ih mx hx (.inl hd) q c st a r h') ?_);intro e a' w' hq;have hq':=hq;obtain ⟨c',me,st',e1,e2,e3,e4,e5,e6⟩:=hq
  cases e with
  | goto l=>cases me<;>simp only [bE] at e4
  | normal=>exact hq'
  | exit j=>exact hq'
  | ret=>exact hq'
  | panic ch=>exact hq'
  | outgrown=>exact hq'
 | label l=>
  intro m hc hdf q c st a r h;simp [comp] at hc;subst hc;exact S.label ⟨c,.normal,st,rfl,rfl,rfl,trivial,r,h⟩
 | _=>intro m hc;simp [comp] at hc
theorem WT.mono {P:Program} {Q Q' : ay->St->Prop} (hq:∀e st,Q e st->Q' e st):∀(t:Tree),WT P Q t->WT P Q' t:=by
 intro t
 induction t with
 | done e st=>exact hq e st
 | fail=>exact fun h=>h
 | test b y n ih1 ih2=>exact fun h=>⟨fun hb=>ih1 (h.1 hb),fun hb=>ih2 (h.2 hb)⟩
 | elem xs i k ih=>rintro ⟨x,h1,h2⟩;exact ⟨x,h1,ih x h2⟩
 | byte s i k ih=>rintro ⟨x,h1,h2⟩;exact ⟨x,h1,ih x h2⟩
 | val o k ih=>rintro ⟨x,h1,h2⟩;exact ⟨x,h1,ih x h2⟩
 | blk o k ih=>rintro ⟨x,h1,h2⟩;exact ⟨x,h1,ih x h2⟩
 | Eg o k ih=>rintro ⟨x,h1,h2⟩;exact ⟨x,h1,ih x h2⟩
 | heq h k ih=>rintro ⟨x,h1,h2⟩;exact ⟨x,h1,ih x h2⟩
 | call f ds k ih=>rintro ⟨r,h1,h2⟩;exact ⟨r,h1,ih r h2⟩
 | both y n ih1 ih2=>exact fun h=>⟨ih1 h.1,ih2 h.2⟩
 | same x y t ih=>exact fun h=>⟨h.1,ih h.2⟩
 | sub f vs h nx k ih=>
  rintro ⟨hb,h⟩;refine ⟨hb,fun c w0 F gvs h1 h2 h3 h4 h5=>(h c w0 F gvs h1 h2 h3 h4 h5).mono ?_⟩;rintro e w' ⟨c',r,nx',e1,e2,e3,e4,e5,e6,e7,e8⟩;exact ⟨c',r,nx',e1,e2,e3,e4,e5,e6,e7,ih r _ nx' e8⟩
 | code m st k ih=>
  intro h S n pol code hc hdf c w0 gs a r;refine S.mono (h S n pol code hc hdf c w0 gs a r) ?_;intro e a' w' ⟨c',me,st',e1,e2,e3,e4,e5,e6⟩;exact ⟨c',me,st',e1,e2,e3,e4,e5,ih me st' e6⟩
mutual
def V.closed (h:Heap):V->Bool
 | .ptr id _=>(look h id).isSome
 | .kM id _ _ _=>(look h id).isSome
 | .ref id _ _ _=>(look h id).isSome
 | .agg cs=>eh h cs
 | .func _ fs cs=>eh h fs&&eh h cs
 | .tuple cs=>eh h cs
 | .d _=>true
 | .ro _ _=>true
 | .hnd id=>(look h id).isSome
 | .row id _=>(look h id).isSome
 | .undef=>true
def eh (h:Heap):List V->Bool
 | []=>true
 | v::r=>v.closed h&&eh h r
end
mutual
def V.ren (ρ:Nat->Nat):V->V
 | .ptr id o=>.ptr (ρ id) o
 | .kM id v i c=>.kM (ρ id) v i c
 | .ref id v o l=>.ref (ρ id) v o l
 | .agg cs=>.agg (nA ρ cs)
 | .func f fs cs=>.func f (nA ρ fs) (nA ρ cs)
 | .tuple cs=>.tuple (nA ρ cs)
 | .d x=>.d x
 | .ro cs o=>.ro cs o
 | .hnd id=>.hnd (ρ id)
 | .row id len=>.row (ρ id) len
 | .undef=>.undef
def nA (ρ:Nat->Nat):List V->List V
 | []=>[]
 | v::r=>v.ren ρ::nA ρ r
end
def Zero (ρ:Nat->Nat) (h h' : Heap) (v:V):Prop:=∃ver id k,v = .ref id ver 0 0/\look h (ρ id)=none/\(look h' id=some (.arr k [])\/look h' id=some (.mt k ver []))
def V8 (h:Heap) (v v' : V):Prop:=∃id ver off len k xs ys,v = .ref id ver off len/\look h id=some (.arr k xs)/\(xs.drop off).take len=ys/\v' = .d (.slice k ys false)
def VW0 (ρ:Nat->Nat) (h h' : Heap) (v v' : V):Prop:=(v=v'.ren ρ/\v'.closed h' = true)\/(v = .d .nil/\Zero ρ h h' v')\/v' = .undef\/V8 h v v'
def Xn (ρ:Nat->Nat) (h h' : Heap):List V->List V->Prop
 | [],[]=>True
 | v::r,v'::r'=>VW0 ρ h h' v v'/\Xn ρ h h' r r'
 | _,_=>False
def ZW (v v' : V):Prop:=v = .d .nil/\∃k z,v' = .d (.slice k [] z)
def VW (ρ:Nat->Nat) (h h' : Heap) (v v' : V):Prop:=(v=v'.ren ρ/\v'.closed h' = true)\/(v = .d .nil/\Zero ρ h h' v')\/v' = .undef\/V8 h v v'\/(∃cs cs',v = .agg cs/\v' = .agg cs'/\Xn ρ h h' cs cs')\/ZW v v'
theorem VW0.up {ρ:Nat->Nat} {h h' : Heap} {v v' : V} (hw:VW0 ρ h h' v v'):VW ρ h h' v v':=by
 rcases hw with h|h|h|h
 ·exact .inl h
 ·exact .inr (.inl h)
 ·exact .inr (.inr (.inl h))
 ·exact .inr (.inr (.inr (.inl h)))
def VWL (ρ:Nat->Nat) (h h' : Heap):List V->List V->Prop
 | [],[]=>True
 | v::r,v'::r'=>VW ρ h h' v v'/\VWL ρ h h' r r'
 | _,_=>False
def pW (ρ:Nat->Nat) (h h' : Heap):Blk->Blk->Prop
 | .var cs,.var cs'=>VWL ρ h h' cs cs'
 | .arr k xs,.arr k' xs'=>k=k'/\xs=xs'
 | .mt k v xs,.mt k' v' xs'=>k=k'/\v=v'/\xs=xs'
 | .iter s p,.iter s' p'=>s=s'/\p=p'
 | .map k es,.map k' es'=>k=k'/\es=es'
 | _,_=>False
def iV:Blk->Prop
 | .arr _ xs=>xs=[]
 | .mt _ _ xs=>xs=[]
 | _=>False
structure zA (ρ:Nat->Nat) (st st' : St):Prop where
 regs:∀i v',look st'.regs i=some v'->∃v,look st.regs i=some v/\VW ρ st.heap st'.heap v v'
 heap:∀id b',look st'.heap id=some b'->(∃b,look st.heap (ρ id)=some b/\pW ρ st.heap st'.heap b b')\/(look st.heap (ρ id)=none/\iV b')
 lt:∀id b,look st'.heap id=some b->id<st'.next
 base:st'.base=st.base
 next:st.base<=st'.next
 keep:∀id,id<st.base->ρ id=id/\((look st.heap id).isSome=true->(look st'.heap id).isSome=true)
 inj:∀id id',(look st'.heap id).isSome=true->(look st'.heap id').isSome=true->ρ id=ρ id'->id=id'
 defers:eh st'.heap st'.defers=true
 defers' : st.defers=nA ρ st'.defers
def Weak (st st' : St):Prop:=∃ρ,zA ρ st st'
def Cx.gR (c:Cx) (ρ:Nat->Nat) (h' : Heap) (J:JX):Cx:={ c with J0:=J,heap:=h',pl:=fun i=>match look c.heap (ρ i) with|some _=>c.pl (ρ i)|none=>⟨0,0⟩ }
abbrev Cx.weak (c:Cx) (ρ:Nat->Nat) (h' : Heap):Cx:=c.gR ρ h' c.J0
section
variable {c : Cx} {h' : Heap} {ρ : Nat -> Nat} {J : JX} (hs : ∀ id b', look h' id = some b' -> (∃ b, look c.heap (ρ id) = some b /\ pW ρ c.heap h' b b') \/ (look c.heap (ρ id) = none /\ iV b'))
include hs
theorem fw {id:Nat} {b:Blk} (h:look c.heap (ρ id)=some b):(c.gR ρ h' J).pl id=c.pl (ρ id):=by simp [Cx.gR,h]
theorem sK {id:Nat} (h:look c.heap (ρ id)=none):(c.gR ρ h' J).pl id=⟨0,0⟩:=by simp [Cx.gR,h]
theorem Imm.weak (b o:Nat) (h:Imm c b o):Imm (c.weak ρ h') b o:=by
 rcases h with h|⟨h1,h2,h3⟩
 ·exact .inl h
 ·refine .inr ⟨h1,h2,fun id blk hl hph hg=>?_⟩
  rcases hs id blk hl with ⟨b0,hb,dp⟩|⟨hn,hz⟩
  ·rw [fw hs hb] at hph hg
   have ZX:Ph (c.pl (ρ id)) b0:=by
    cases b0<;>cases blk<;>simp [pW] at dp<;>first|exact hph|trivial
   obtain ⟨k,xs,e,hlt⟩:=h3 (ρ id) b0 hb ZX hg;subst e
   cases blk with
   | arr k' xs'=>obtain ⟨rfl,rfl⟩:=dp;exact ⟨k,xs,rfl,hlt⟩
   | _=>exact dp.elim
  ·rw [sK hs hn] at hph
   exfalso
   cases blk<;>simp [iV,Ph] at hz hph
theorem iI:Keeps c.w c.w (Imm c) (Imm (c.weak ρ h')):=fun b o h=>⟨Imm.weak hs b o h,rfl⟩
theorem nc {id:Nat} {b:Blk} (hc:(look h' id).isSome=true) (hb:look c.heap (ρ id)=some b):∃b',look h' id=some b'/\pW ρ c.heap h' b b':=by
 cases hl:look h' id with
 | none=>rw [hl] at hc;simp at hc
 | some b'=>
  rcases hs id b' hl with ⟨b0,hb0,dp⟩|⟨hn,_⟩
  ·rw [hb] at hb0;injection hb0 with hb0;subst hb0;exact ⟨b',rfl,dp⟩
  ·rw [hb] at hn;cases hn
variable (hk : Keeps c.w c.w (Imm c) (Imm (c.gR ρ h' J)))
include hk
mutual
theorem aD.weak:∀(x:V) (v:Value),x.closed h' = true->aD c (x.ren ρ) v->aD (c.gR ρ h' J) x v
 | .d x,v,_,r=>aI.keep (hk) x v r
 | .ptr id off,v,hc,r=>by
  obtain ⟨⟨cs,h1⟩,h2⟩:=r;obtain ⟨b',hb',dp⟩:=nc hs hc h1
  cases b' with
  | var cs'=>exact ⟨⟨cs',hb'⟩,by rw [fw hs h1];exact h2⟩
  | _=>exact dp.elim
 | .ro cs off,v,_,r=>by
  obtain ⟨b,o,h1,h2⟩:=r;exact ⟨b,o,h1,dB.keep (hk) _ _ _ h2⟩
 | .kM id ver i cc,v,hc,r=>by
  simp only [aD,V.ren] at r ⊢
  cases hl:look c.heap (ρ id) with
  | none=>rw [hl] at r;exact r.elim
  | some b=>
   obtain ⟨b',hb',dp⟩:=nc hs hc hl;rw [hl] at r;show jl (c.gR ρ h' J) id ver i cc v (look h' id);rw [hb']
   cases b with
   | mt k v0 xs=>
    cases b' with
    | mt k' v' xs'=>
     obtain ⟨rfl,rfl,rfl⟩:=dp;unfold jl at *;rw [fw hs hl];exact r
    | _=>exact dp.elim
   | _=>exact r.elim
 | .ref id ver off len,v,hc,r=>by
  simp only [aD,V.ren] at r ⊢
  cases hl:look c.heap (ρ id) with
  | none=>rw [hl] at r;exact r.elim
  | some b=>
   obtain ⟨b',hb',dp⟩:=nc hs hc hl;rw [hl] at r;show km (c.gR ρ h' J) id ver off len v (look h' id);rw [hb']
   cases b with
   | mt k v0 xs=>
    cases b' with
    | mt k' v' xs'=>
     obtain ⟨rfl,rfl,rfl⟩:=dp;unfold km at *;rw [fw hs hl];exact r
    | _=>exact dp.elim
   | arr k xs=>
    cases b' with
    | arr k' xs'=>
     obtain ⟨rfl,rfl⟩:=dp;unfold km at *;rw [fw hs hl];obtain ⟨r1,r2⟩:=r;refine ⟨r1,?_⟩
     rcases r2 with r2|⟨b,o,cap,r2,r3,r4,r5⟩
     ·exact .inl r2
     ·exact .inr ⟨b,o,cap,r2,r3,b8.keep (hk) _ _ _ _ r4,r5⟩
    | _=>exact dp.elim
   | _=>exact r.elim
 | .agg cs,v,hc,r=>by
  obtain ⟨vs,h1,h2⟩:=r;exact ⟨vs,h1,aC.weak cs vs hc h2⟩
 | .func f fs cap,v,hc,r=>by
  obtain ⟨us,vs,h1,h2,h3⟩:=r;simp only [V.closed,abq] at hc;exact ⟨us,vs,h1,aC.weak fs us hc.1 h2,aC.weak cap vs hc.2 h3⟩
 | .tuple ds,v,hc,r=>by
  obtain ⟨vs,h1,h2⟩:=r;exact ⟨vs,h1,aC.weak ds vs hc h2⟩
 | .hnd id,v,hc,r=>by
  simp only [aD,V.ren] at r ⊢
  cases hl:look c.heap (ρ id) with
  | none=>rw [hl] at r;exact r.elim
  | some b=>
   obtain ⟨b',hb',dp⟩:=nc hs hc hl;rw [hl] at r;show eU (c.gR ρ h' J) id v (look h' id);rw [hb']
   cases b with
   | iter s p=>
    cases b' with
    | iter s' p'=>unfold eU at *;rw [fw hs hl];exact r
    | _=>exact dp.elim
   | map kk es=>
    cases b' with
    | map kk' es'=>unfold eU at *;rw [fw hs hl];exact r
    | _=>exact dp.elim
   | _=>exact r.elim
 | .row id len,v,hc,r=>by
  obtain ⟨⟨cs,h1⟩,h2,h3⟩:=r;obtain ⟨b',hb',dp⟩:=nc hs hc h1
  cases b' with
  | var cs'=>exact ⟨⟨cs',hb'⟩,by rw [fw hs h1];exact h2,h3⟩
  | _=>exact dp.elim
 | .undef,v,_,r=>trivial
theorem aC.weak:∀(xs:List V) (vs:List Value),eh h' xs=true->aC c (nA ρ xs) vs->aC (c.gR ρ h' J) xs vs
 | [],vs,_,r=>r
 | d::ds,vs,hc,r=>by
  obtain ⟨v,vs',h1,h2,h3⟩:=r;simp only [eh,abq] at hc;exact ⟨v,vs',h1,aD.weak d v hc.1 h2,aC.weak ds vs' hc.2 h3⟩
end
theorem aD.vw0 {x x' : V} {v:Value} (hw:VW0 ρ c.heap h' x x') (r:aD c x v):aD (c.gR ρ h' J) x' v:=by
 rcases hw with ⟨rfl,hc⟩|⟨rfl,ver,id,k,rfl,hn,hl⟩|rfl|⟨id,ver,off,len,k,xs,ys,rfl,hl,rfl,rfl⟩
 ·exact aD.weak hs hk x' v hc r
 ·simp only [aD,aI] at r
  subst r;have hpl:=sK (J:=J) hs hn;show km (c.gR ρ h' J) id ver 0 0 (.slice none 0 0) (look h' id)
  rcases hl with hl|hl
  ·rw [hl];exact ⟨by simp,.inl ⟨rfl,rfl,fun _=>by rw [hpl]⟩⟩
  ·rw [hl];exact ⟨abu _,⟨_,_,_,rfl⟩,fun _=>⟨by simp,.inl ⟨rfl,rfl,rfl,by rw [hpl]⟩⟩⟩
 ·trivial
 ·exact aI.keep hk _ _ (ue hl r)
theorem aC.vw0:∀{xs xs' : List V} {vs:List Value},Xn ρ c.heap h' xs xs'->aC c xs vs->aC (c.gR ρ h' J) xs' vs
 | [],[],vs,_,r=>r
 | x::xs,x'::xs',vs,hw,r=>by
  obtain ⟨v,vs',h1,h2,h3⟩:=r;exact ⟨v,vs',h1,aD.vw0 hs hk hw.1 h2,aC.vw0 hw.2 h3⟩
 | [],_::_,vs,hw,r=>hw.elim
 | _::_,[],vs,hw,r=>hw.elim
theorem aD.vw {x x' : V} {v:Value} (hw:VW ρ c.heap h' x x') (r:aD c x v):aD (c.gR ρ h' J) x' v:=by
 rcases hw with h|h|h|h|⟨cs,cs',rfl,rfl,h⟩|⟨rfl,k,z,rfl⟩
 ·exact aD.vw0 hs hk (.inl h) r
 ·exact aD.vw0 hs hk (.inr (.inl h)) r
 ·exact aD.vw0 hs hk (.inr (.inr (.inl h))) r
 ·exact aD.vw0 hs hk (.inr (.inr (.inr h))) r
 ·obtain ⟨vs,h1,h2⟩:=r
  exact ⟨vs,h1,aC.vw0 hs hk h h2⟩
 ·simp only [aD,aI] at r
  exact .inl ⟨⟨_,r,fun _=>trivial⟩,rfl⟩
theorem aC.vw:∀{xs xs' : List V} {vs:List Value},VWL ρ c.heap h' xs xs'->aC c xs vs->aC (c.gR ρ h' J) xs' vs
 | [],[],vs,_,r=>r
 | x::xs,x'::xs',vs,hw,r=>by
  obtain ⟨v,vs',h1,h2,h3⟩:=r;exact ⟨v,vs',h1,aD.vw hs hk hw.1 h2,aC.vw hw.2 h3⟩
 | [],_::_,vs,hw,r=>hw.elim
 | _::_,[],vs,hw,r=>hw.elim
theorem cw.weak {id:Nat} {b b' : Blk} (hl:look c.heap (ρ id)=some b) (dp:pW ρ c.heap h' b b') (r:cw c (ρ id) b):cw (c.gR ρ h' J) id b':=by
 have hp:=fw (J:=J) hs hl
 cases b with
 | var cs=>
  cases b' with
  | var cs'=>obtain ⟨vs,e,h1,h2⟩:=r;exact ⟨vs,e,by rw [hp];exact h1,aC.vw hs hk dp h2⟩
  | _=>exact dp.elim
 | arr k xs=>
  cases b' with
  | arr k' xs'=>
   obtain ⟨rfl,rfl⟩:=dp;obtain ⟨h0,r⟩:=r;refine ⟨by rw [hp];exact h0,fun hc=>?_⟩;rw [hp] at hc ⊢;obtain ⟨vs,e,h1,h2,h4⟩:=r hc;exact ⟨vs,e,h1,h2,b8.keep (hk) _ _ _ _ h4⟩
  | _=>exact dp.elim
 | mt k v xs=>
  cases b' with
  | mt k' v' xs'=>
   obtain ⟨rfl,rfl,rfl⟩:=dp;obtain ⟨h0,h4,r⟩:=r;refine ⟨by rw [hp];exact h0,h4,fun hc=>?_⟩;rw [hp] at hc ⊢;obtain ⟨vs,e,h1,h2,h5,h6⟩:=r hc;exact ⟨vs,e,h1,h2,aT.keep (hk) _ _ h5,h6⟩
  | _=>exact dp.elim
 | iter s p=>
  cases b' with
  | iter s' p'=>obtain ⟨rfl,rfl⟩:=dp;unfold cw at *;rw [hp];exact r
  | _=>exact dp.elim
 | map kk es=>
  cases b' with
  | map kk' es'=>obtain ⟨rfl,rfl⟩:=dp;obtain ⟨ms,k,h1,h2⟩:=r;exact ⟨ms,k,by rw [hp];exact h1,pS.keep (hk) _ _ h2⟩
  | _=>exact dp.elim
theorem cj.weak:∀{vs:List V} {ds:List Deferred},eh h' vs=true->cj c (nA ρ vs) ds->cj (c.gR ρ h' J) vs ds
 | [],_,_,r=>r
 | v::vs,ds,hc,r=>by
  obtain ⟨d,ds',f,first,cap,fs,cs,h1,hv,h3,h4,h6,h5⟩:=r
  cases v with
  | func f0 Xo cap0=>
   simp only [V.ren,V.func.injEq] at hv;obtain ⟨rfl,rfl,rfl⟩:=hv;simp only [eh,V.closed,abq] at hc;exact ⟨d,ds',f0,Xo,cap0,fs,cs,h1,rfl,h3,aC.weak hs hk _ _ hc.1.1 h4,aC.weak hs hk _ _ hc.1.2 h6,cj.weak hc.2 h5⟩
  | _=>simp [V.ren] at hv
end
theorem pW.ph {ρ:Nat->Nat} {h h' : Heap} {p:Pl} {b b' : Blk} (hs:pW ρ h h' b b') (hp:Ph p b'):Ph p b:=by
 cases b<;>cases b'<;>simp [pW] at hs<;>first|exact hp|trivial
theorem Rel.QF {c:Cx} {w0:World} {n:Nat} {gs:Fr} {st st' : St} {a:Act} {ρ:Nat->Nat} (r:Rel c w0 n gs st a) (h:zA ρ st st'):Rel (c.weak ρ st'.heap) w0 n gs st' a:=by
 have hs:∀id b',look st'.heap id=some b'->(∃b,look c.heap (ρ id)=some b/\pW ρ c.heap st'.heap b b')\/(look c.heap (ρ id)=none/\iV b'):=by rw [r.heap];exact h.heap
 have nz:∀id b',look c.heap (ρ id)=none->iV b'->¬Ph ((c.weak ρ st'.heap).pl id) b':=by
  intro id b' hn hz hp;rw [sK hs hn] at hp
  cases b'<;>simp [iV,Ph] at hz hp
 refine ⟨rfl,⟨r.hrel.below,r.hrel.other,r.hrel.jY,?_,h.lt,?_,?_⟩,r.size,?_,?_,by rw [h.base];exact r.nj,by rw [h.base];exact h.next,?_⟩
 ·intro id b' hl
  rcases hs id b' hl with ⟨b,hb,dp⟩|⟨hn,hz⟩
  ·exact cw.weak hs (iI hs) hb dp (r.hrel.blk (ρ id) b hb)
  ·have hp:=sK (J:=c.J0) hs hn
   cases b' with
   | arr k xs=>simp [iV] at hz;subst hz;exact ⟨by simp,fun hc=>by rw [hp] at hc;simp at hc⟩
   | mt k v xs=>simp [iV] at hz;subst hz;exact ⟨by simp,by simp,fun hc=>by rw [hp] at hc;simp at hc⟩
   | _=>exact hz.elim
 ·intro id b' hl hph
  rcases hs id b' hl with ⟨b,hb,dp⟩|⟨hn,hz⟩
  ·rw [fw hs hb] at hph ⊢;exact r.hrel.ge (ρ id) b hb (dp.ph hph)
  ·exact (nz id b' hn hz hph).elim
 ·intro id id' b1 b2 h1 h2 p1 p2 hg
  rcases hs id b1 h1 with ⟨x1,hb1,s1⟩|⟨hn,hz⟩
  ·rcases hs id' b2 h2 with ⟨x2,hb2,s2⟩|⟨hn,hz⟩
   ·rw [fw hs hb1] at p1 hg
    rw [fw hs hb2] at p2 hg;have:=r.hrel.inj (ρ id) (ρ id') x1 x2 hb1 hb2 (s1.ph p1) (s2.ph p2) hg;refine h.inj id id' ?_ ?_ this
    ·show (look st'.heap id).isSome=true
     have h1' : look st'.heap id=some b1:=h1;rw [h1'];rfl
    ·show (look st'.heap id').isSome=true
     have h2' : look st'.heap id' = some b2:=h2;rw [h2'];rfl
   ·exact (nz id' b2 hn hz p2).elim
  ·exact (nz id b1 hn hz p1).elim
 ·intro i v' hv
  obtain ⟨v,hv1,hv2⟩:=h.regs i v' hv;rw [<- r.heap] at hv2;exact aD.vw hs (iI hs) hv2 (r.regs i v hv1)
 ·refine gs.ok c _ ⟨iI hs,?_⟩ r.frames
  intro id b hid hb;have HO : id<st.base:=abW hid r.nj;obtain ⟨hk1,hk2⟩:=h.keep id HO;have hsome:(look st'.heap id).isSome=true:=hk2 (by rw [<- r.heap,hb];rfl);have hb' : look c.heap (ρ id)=some b:=by rw [hk1];exact hb
  obtain ⟨b',e1,e2⟩:=nc hs hsome hb';refine ⟨b',e1,?_⟩;rw [fw hs hb',hk1]
  cases b<;>cases b'<;>simp [pW] at e2<;>simp [cK,e2]
 ·exact cj.weak hs (iI hs) h.defers (by rw [<- h.defers'];exact r.defers)
theorem Rel.weak {c:Cx} {w0:World} {n:Nat} {gs:Fr} {st st' : St} {a:Act} (r:Rel c w0 n gs st a) (h:Weak st st'):∃c',c'.B=c.B/\c'.J0=c.J0/\c'.w=c.w/\Keeps c.w c.w (Imm c) (Imm c')/\Rel c' w0 n gs st' a:=by
 obtain ⟨ρ,h⟩:=h;exact ⟨c.weak ρ st'.heap,rfl,rfl,rfl,iI (by rw [r.heap];exact h.heap),r.QF h⟩
theorem EW {P:Program} {n:Nat} {pol:Pol} {code:Code} {m:bR} (hc:comp P n pol code=some (.loop m)):∃x,code = .loop x/\comp P n pol x=some m:=by
 cases code with
 | loop x=>
  simp only [comp,abx,bR.loop.injEq] at hc;obtain ⟨mx,hx,rfl⟩:=hc;exact ⟨x,rfl,hx⟩
 | region id ops draw=>
  cases draw with
  | false=>simp [comp] at hc
  | true=>
   simp only [comp] at hc
   split at hc
   ·split at hc
    ·simp at hc
    ·split at hc<;>simp at hc
   ·simp at hc
 | seq x y=>simp only [comp] at hc;split at hc<;>simp at hc
 | cond x y z=>simp only [comp] at hc;split at hc<;>simp at hc
 | _=>simp [comp] at hc
theorem Ov {P:Program} {n:Nat} {pol:Pol} {code:Code} {fuel:Nat} {l:List DOp} (hc:comp P n pol code=some (.draw fuel l)):∃id ops mi,code = .region id ops true/\P.follows .mixedOrders=true/\dI P n pol ops.toList ops.toList=some mi/\BJ (dX ops.toList mi)=true/\l=dX ops.toList mi:=by
 cases code with
 | region id ops draw=>
  cases draw with
  | false=>simp [comp] at hc
  | true=>
   simp only [comp] at hc
   split at hc
   ·rename_i mi hm hl
    split at hc
    ·simp at hc
    ·split at hc
     ·rename_i hb
      simp only [abL,bR.draw.injEq] at hc;exact ⟨id,ops,mi,rfl,hm,hl,hb,hc.2.symm⟩
     ·simp at hc
   ·simp at hc
 | seq x y=>simp only [comp] at hc;split at hc<;>simp at hc
 | cond x y z=>simp only [comp] at hc;split at hc<;>simp at hc
 | _=>simp [comp] at hc
theorem uh {P:Program} {fuel:Nat} {l:List DOp} {st:St} {Q:ay->St->Prop} (h:WT P (fun e s=>∃s',(s' = s\/Weak s s')/\Q e s') (uT l (keepR l st.regs) fuel [] [] st Tree.done)):KC P (.draw fuel l) st Q:=by
 intro S n pol code hc hdf c w0 gs a r;obtain ⟨id,ops,mi,rfl,hm,hl,hb,rfl⟩:=Ov hc;have:=Oa S (id:=id) (w0:=w0) (gs:=gs) (q:=Tree.done) hdf hm hl hb r h;have e:ops.toList.toArray=ops:=by simp
 rw [e] at this;refine S.mono this ?_;intro e a' w' ⟨c',me,st',e1,e2,e3,e4,e5,e6⟩;obtain ⟨s',hw,hq⟩:=e6;subst e3;obtain ⟨c3,k1,k2,k3,k5,k4⟩:∃c3:Cx,c3.B=c'.B/\c3.J0=c'.J0/\c3.w=c'.w/\Keeps c'.w c'.w (Imm c') (Imm c3)/\Rel c3 w0 n gs s' a':=by
  rcases hw with rfl|hw
  ·exact ⟨c',rfl,rfl,rfl,fun b o h=>⟨h,rfl⟩,e5⟩
  ·exact e5.weak hw
 refine ⟨c3,me,s',k1.trans e1,k2.trans e2,k3,?_,k4,hq⟩
 cases e<;>cases me<;>simp only [bE] at e4 ⊢<;>first|exact e4|skip
 obtain ⟨v,h1,h2⟩:=e4;refine ⟨v,h1,?_⟩;rw [k3];exact aI.keep k5 _ _ h2
theorem EX {P:Program} {m:bR} {st:St} {Q:ay->St->Prop} (I:Nat->St->Prop) (n0:Nat) (st0:St) (hw:Weak st st0) (h0:I n0 st0)
  (round:∀k s,I k s->WT P (fun e s'=>match e with | .normal=>∃k' s'',k' < k/\Weak s' s''/\I k' s'' | e=>Q e s') (exec m s Tree.done)):KC P (.loop m) st Q:=by
 intro S n pol code hc hdf c w0 gs a r;obtain ⟨x,rfl,hx⟩:=EW hc
 ·refine S.ghost (fun k a' w'=>∃c' s,c'.B=c.B/\c'.J0=c.J0/\c'.w=w'/\Rel c' w0 n gs s a'/\I k s) n0 (by obtain ⟨c',k1,k2,k3,_,k4⟩:=r.weak hw;exact ⟨c',st0,k1,k2,k3,k4,h0⟩) ?_
  rintro k a' w' ⟨c',s,e1,e2,rfl,e4,e5⟩;refine S.mono (kF S x m hx (hdf.imp id fun h=>by simp [noD] at h;exact h) Tree.done c' s a' e4 (round k s e5)) ?_;intro e a'' w'' ⟨c'',me,s',f1,f2,f3,f4,f5,f6⟩;subst f3;simp only [WT] at f6
  cases e with
  | normal=>
   cases me<;>simp only [bE] at f4
   obtain ⟨k',s'',g1,g2,g3⟩:=f6;obtain ⟨c3,k1,k2,k3,_,k4⟩:=f5.weak g2;exact ⟨k',g1,c3,s'',k1.trans (f1.trans e1),k2.trans (f2.trans e2),k3,k4,g3⟩
  | exit id=>cases me<;>simp only [bE] at f4;rename_i j;exact ⟨c'',.exit j,s',f1.trans e1,f2.trans e2,rfl,f4,f5,f6⟩
  | goto l=>cases me<;>simp only [bE] at f4
  | ret=>cases me<;>simp only [bE] at f4;exact ⟨c'',.ret,s',f1.trans e1,f2.trans e2,rfl,trivial,f5,f6⟩
  | panic ch=>cases me<;>simp only [bE] at f4;rename_i d;exact ⟨c'',.panic d,s',f1.trans e1,f2.trans e2,rfl,f4,f5,f6⟩
  | outgrown=>cases me<;>simp only [bE] at f4
inductive kp where
 | tmp (t:Nat)
 | cell (t:Nat) (agg:Bool) (n:Nat)
def gG (P:Program):List ResultVar->Option (List kp)
 | []=>some []
 | .tmp t::r=>(gG P r).map (kp.tmp t::·)
 | .cell t ty::r=>match ji P ty,sizeT P ty,gG P r with
  | some g,some n,some l=>some (.cell t g n::l)
  | _,_,_=>none
def resV (st:St):List kp->Option (List V)
 | []=>some []
 | .tmp t::r=>match (Opd.t t).ev st,resV st r with
  | some v,some l=>some (v::l)
  | _,_=>none
 | .cell t g n::r=>match look st.regs t with
  | some (.ptr id off)=>match look st.heap id with
   | some (.var cs)=>match Nat.ble (off+n) cs.length with
    | true=>match rM g ((cs.drop off).take n),resV st r with
     | some v,some l=>some (v::l)
     | _,_=>none
    | false=>none
   | _=>none
  | _=>none
structure aP where
 n:Nat
 pol:Pol
 res:List kp
 code:bR
def az (P:Program) (f:FuncId) (m:aP):Prop:=
 ∃fn code,P.funcs[f]? = some fn/\fn.body=some code/\(fn.name == "runtime.NumGoroutine")=false/\fn.ntmps=m.n/\gG P fn.results.toList=some m.res/\comp P m.n m.pol code=some m.code
def isFun (P:Program) (f:FuncId) (n:Nat) (pol:Pol):Option (List kp×bR):=
 match P.funcs[f]? with
 | some fn=>match fn.body with
  | some code=>match !(fn.name == "runtime.NumGoroutine")&&Nat.beq fn.ntmps n,gG P fn.results.toList,comp P n pol code with
   | true,some l,some c=>some (l,c)
   | _,_,_=>none
  | none=>none
 | none=>none
theorem ag {P:Program} {f:FuncId} {m:aP} (h:isFun P f m.n m.pol=some (m.res,m.code)):az P f m:=by
 unfold isFun at h
 split at h
 ·rename_i fn hf
  split at h
  ·rename_i code hb
   split at h
   ·rename_i l c h1 h2 h3
    simp at h;obtain ⟨rfl,rfl⟩:=h;rw [abq] at h1;exact ⟨fn,code,hf,hb,by simpa using h1.1,abr h1.2,h2,h3⟩
   ·simp at h
  ·simp at h
 ·simp at h
def dM:Nat->List V->jf
 | _,[]=>[]
 | i,v::r=>(i,v)::dM (i+1) r
def pC (args:List Dat):St:={ regs:=dM 0 (args.map V.ce),heap:=[],next:=0,defers:=[],base:=0 }
theorem EY:∀(vs:List V) (i j:Nat) (v:V),look (dM i vs) j=some v->i<=j/\vs[j - i]? = some v
 | [],i,j,v,h=>by simp [dM,look] at h
 | x::vs,i,j,v,h=>by
  simp only [dM,aE] at h;by_cases hij:i=j
  ·subst hij;simp at h;subst h;simp
  ·rw [if_neg hij] at h
   obtain ⟨h1,h2⟩:=EY vs (i+1) j v h;refine ⟨by omega,?_⟩;rw [show j - i=(j - (i+1))+1 by omega];simpa using h2
theorem aC.QG {c:Cx}:∀{ds:List Dat} {vs:List Value},aT c.w (Imm c) ds vs->aC c (ds.map V.ce) vs
 | [],vs,h=>by simpa [aC,aT] using h
 | d::ds,vs,h=>by obtain ⟨v,vs',rfl,h2,h3⟩:=h;exact ⟨v,vs',rfl,aD.ce h2,aC.QG h3⟩
theorem sL {P:Program} {c:Cx} {w0:World} {n:Nat} {gs:Fr} {st:St} {a:Act} (r:Rel c w0 n gs st a):∀{l:List ResultVar} {ms:List kp} {vs:List V},gG P l=some ms->resV st ms=some vs->
  ∃us,(l.mapM (fun (x:ResultVar)=>(match x with | .tmp t=>pure (a.tmps.getD t undef) | .cell x t=>do loadVar t (<- asAddr (a.tmps.getD x undef)):Sem Value))).run P c.w = .ok us c.w/\aC c vs us:=by
 intro l
 induction l with
 | nil=>
  intro ms vs h1 h2;simp [gG] at h1;subst h1;simp [resV] at h2;subst h2;exact ⟨[],by simp,by simp [aC]⟩
 | cons x l ih=>
  intro ms vs h1 h2
  cases x with
  | tmp t=>
   simp only [gG,abx] at h1;obtain ⟨ms',h1,rfl⟩:=h1;simp only [resV] at h2
   split at h2
   ·rename_i v l' g1 g2
    simp at h2;subst h2;obtain ⟨us,f1,f2⟩:=ih h1 g2;refine ⟨a.tmps.getD t undef::us,?_,⟨_,us,rfl,r.regs t v (WQ g1).1,f2⟩⟩;rw [List.mapM_cons,run_bind_ok (s:=pure _) (x:=a.tmps.getD t undef) (w':=c.w) rfl,run_bind_ok f1];rfl
   ·simp at h2
  | cell t ty=>
   simp only [gG] at h1
   split at h1
   ·rename_i g m ms' e1 e2 e3
    simp at h1;subst h1;simp only [resV] at h2
    split at h2
    ·rename_i id off hv
     split at h2
     ·rename_i cs hl
      split at h2
      ·rename_i hle
       have hle:=abA hle
       split at h2
       ·rename_i v l' hmk g2
        simp at h2;subst h2;obtain ⟨us,f1,f2⟩:=ih e3 g2;obtain ⟨⟨cs0,_⟩,p2⟩:=r.regs t _ hv;have hl' : look c.heap id=some (.var cs):=by rw [r.heap];exact hl
        obtain ⟨vs,e,b1,b2⟩:=r.hrel.blk id _ hl';have hlen:=b2.length;obtain ⟨u,hu,hru⟩:=pU ((b2.drop off).take m) hmk;refine ⟨u::us,?_,⟨u,us,rfl,hru,f2⟩⟩;have hload:(loadVar ty ⟨(c.pl id).gb,off,none⟩).run P c.w = .ok u c.w:=by
         refine oI e1 e2 ?_ hu ?_
         ·simp at hlen ⊢;omega
         ·intro j x hx
          rw [bS b1];rw [abw] at hx
          split at hx
          ·simpa using hx
          ·simp at hx
        have hl2:((do loadVar ty (<- asAddr (a.tmps.getD t undef)):Sem Value)).run P c.w = .ok u c.w:=by
         rw [p2,run_bind_ok (s:=asAddr _) (x:=⟨(c.pl id).gb,off,none⟩) (w':=c.w) rfl];exact hload
        rw [List.mapM_cons,run_bind_ok hl2,run_bind_ok f1];rfl
       ·simp at h2
      ·simp at h2
     ·simp at h2
    ·simp at h2
   ·simp at h1
theorem cell_lt {w:World} {b o:Nat} {v:Value} (h:w.cell? ⟨b,o,none⟩=some v):b<w.heap.size:=by
 by_cases hb:b<w.heap.size
 ·exact hb
 ·simp [World.cell?,acs (by omega:w.heap.size<=b)] at h
mutual
theorem aI.bound {w:World} {J:Nat->Nat->Prop}:∀(d:Dat) (v:Value),aI w J d v->aI w (fun b o=>J b o/\b<w.heap.size) d v
 | .bool b,v,r=>r
 | .int k n,v,r=>r
 | .str s,v,r=>r
 | .nil,v,r=>r
 | .slice k xs z,v,.inl r=>.inl r
 | .slice k xs z,v,.inr ⟨b,o,cap,h1,h2,h3,h4⟩=>.inr ⟨b,o,cap,h1,h2,h3,b8.bound b k o xs h4⟩
 | .agg cs,v,⟨vs,h1,h2⟩=>⟨vs,h1,aT.bound cs vs h2⟩
 | .func f,v,r=>r
 | .nilFunc,v,r=>r
 | .nilIface,v,r=>r
 | .nilPtr,v,r=>r
 | .cv,v,r=>r
 | .iface t d,v,⟨u,h1,h2⟩=>⟨u,h1,aI.bound d u h2⟩
 | .tuple ds,v,⟨vs,h1,h2⟩=>⟨vs,h1,aT.bound ds vs h2⟩
theorem aT.bound {w:World} {J:Nat->Nat->Prop}:∀(ds:List Dat) (vs:List Value),aT w J ds vs->aT w (fun b o=>J b o/\b<w.heap.size) ds vs
 | [],vs,r=>r
 | d::ds,vs,⟨v,vs',h1,h2,h3⟩=>⟨v,vs',h1,aI.bound d v h2,aT.bound ds vs' h3⟩
theorem dB.bound {w:World} {J:Nat->Nat->Prop} (b:Nat):∀(o:Nat) (ds:List Dat),dB w J b o ds->dB w (fun b o=>J b o/\b<w.heap.size) b o ds
 | o,[],_=>trivial
 | o,d::ds,⟨⟨v,h1,h2,h5,h3⟩,h4⟩=>⟨⟨v,h1,⟨h2,cell_lt h1⟩,h5,aI.bound d v h3⟩,dB.bound b (o+1) ds h4⟩
theorem b8.bound {w:World} {J:Nat->Nat->Prop} (b k:Nat):∀(o:Nat) (cs:List (List Dat)),b8 w J b k o cs->b8 w (fun b o=>J b o/\b<w.heap.size) b k o cs
 | o,[],_=>trivial
 | o,c::cs,⟨h1,h2,h3⟩=>⟨h1,dB.bound b o c h2,b8.bound b k (o+k) cs h3⟩
end
theorem Rel.enter {c:Cx} {w0:World} {n nx:Nat} {F:Fr} {vs:List V} {gvs:List Value} (hh:cI c w0 nx) (hF:F.K<=nx) (hp:F.p c) (hv:aC c vs gvs) (hn:vs.length<=n) :
  Rel c w0 n F ⟨dM 0 vs,c.heap,nx,[],nx⟩ { tmps:=gvs.toArray++Array.replicate (n - gvs.toArray.size) undef,defers:=[] }:=by
 have hlen:=hv.length;refine ⟨rfl,hh,?_,?_,hp,hF,abu _,rfl⟩
 ·simp;omega
 ·intro i v hi
  obtain ⟨h1,h2⟩:=EY _ _ _ _ hi;simp only [adx] at h2;obtain ⟨u,g1,g2⟩:=hv.get i v h2;have:(gvs.toArray++Array.replicate (n - gvs.toArray.size) undef).getD i undef=u:=by
   have hi' : i<gvs.length:=by
    by_cases hh:i<gvs.length
    ·exact hh
    ·rw [abE (by omega)] at g1;cases g1
   rw [ab9,Array.getElem?_append_left (by simpa using hi')];simp [g1]
  rw [this];exact g2
theorem mR {P:Program} {fn:Func} {t:Array Value} {w:World} {us:List Value} (f1:(fn.results.toList.mapM (fun (x:ResultVar)=>(match x with | .tmp t'=>pure (t.getD t' undef) | .cell x t'=>do loadVar t' (<- asAddr (t.getD x undef)):Sem Value))).run P w = .ok us w) :
  (results fn t).run P w = .ok (if h:us.toArray.size=1 then us.toArray[0] else .tuple us.toArray) w:=by
 unfold results;rw [Array.mapM_eq_mapM_toList];have:((List.toArray <$> fn.results.toList.mapM (fun (x:ResultVar)=>(match x with | .tmp t'=>pure (t.getD t' undef) | .cell x t'=>do loadVar t' (<- asAddr (t.getD x undef)):Sem Value)))).run P w = .ok us.toArray w:=by
  rw [map_eq_pure_bind,run_bind_ok f1];rfl
 exact run_bind_ok this
def pX:List V->V
 | [v]=>v
 | vs=>.tuple vs
theorem OA {c:Cx} {vs:List V} {us:List Value} (h:aC c vs us):aD c (pX vs) (if h:us.toArray.size=1 then us.toArray[0] else .tuple us.toArray):=by
 have hl:=h.length
 match vs,h,hl with
 | [],h,hl=>simp [aC] at h;subst h;exact ⟨[],by simp,rfl⟩
 | [v],h,hl=>
  obtain ⟨u,us',rfl,h1,h2⟩:=h;simp [aC] at h2;subst h2;simpa [pX] using h1
 | v::v'::r,h,hl=>
  rw [dif_neg (by simp at hl ⊢;omega)];exact ⟨us,rfl,h⟩
def Gu (res:List kp) (Q:Res->Heap->Nat->Prop):ay->St->Prop
 | .normal,st=>st.defers=[]/\∃vs,resV st res=some vs/\Q (.val (pX vs)) st.heap st.next
 | .ret,st=>st.defers=[]/\∃vs,resV st res=some vs/\Q (.val (pX vs)) st.heap st.next
 | .panic d,st=>st.defers=[]/\Q (.pan d) st.heap st.next
 | .exit _,_=>False
theorem az.body {P:Program} {f:FuncId} {m:aP} (h:az P f m):mQ P f:=by
 obtain ⟨fn,code,h1,h2,h3,_⟩:=h;exact ⟨fn,h1,by rw [h2];rfl,h3⟩
theorem qV {P:Program} {f:FuncId} {m:aP} (hf:az P f m) {vs:List V} {h:Heap} {nx:Nat} {Q:Res->Heap->Nat->Prop} (hn:Nat.ble vs.length m.n=true)
  (hw:WT P (fun e st=>∃st',(st' = st\/Weak st st')/\Gu m.res Q e st') (exec m.code ⟨dM 0 vs,h,nx,[],nx⟩ Tree.done)):bQ P f vs h nx Q:=by
 refine ⟨hf.body,?_⟩;obtain ⟨fn,code,h1,h2,h0,h3,h4,h5⟩:=hf;rintro c w0 F gvs rfl hh hF hp hv
 let F' : Fr:=⟨nx,F.p,fun c c' he hc=>F.ok c c' (he.mono hF) hc⟩
 refine calls_of_wp h1 h2 ?_;rw [h3];refine Code.wp_mono ?_ (kF (plainW P) code m.code h5 (.inl rfl) Tree.done _ _ _ (Rel.enter (F:=F') hh (abu _) hp hv (abA hn)) hw);intro e a' w' ⟨c1,me,st1,e1',e2',e3',e4',e5',e6'⟩;subst e3';simp only [WT] at e6';obtain ⟨st',B6,e6⟩:=e6';obtain ⟨c',k1,k2,k3,k5,e5⟩:∃c',c'.B=c1.B/\c'.J0=c1.J0/\c'.w=c1.w/\Keeps c1.w c1.w (Imm c1) (Imm c')/\Rel c' w0 m.n F' st' a':=by
  rcases B6 with rfl|B6
  ·exact ⟨c1,rfl,rfl,rfl,fun b o h=>⟨h,rfl⟩,e5'⟩
  ·exact e5'.weak B6
 have e1:=k1.trans e1';have e2:=k2.trans e2';have e4:bE c' e me:=by
  cases e<;>cases me<;>simp only [bE] at e4' ⊢<;>first|exact e4' | skip
  obtain ⟨v,h1,h2⟩:=e4';exact ⟨v,h1,by rw [k3];exact aI.keep k5 _ _ h2⟩
 rw [<- k3];have hnx:nx<=st'.next:=abX e5.nj e5.base;have hdef:st'.defers=[]->a'.defers=[]:=fun hd=>by have:=e5.defers;rw [hd] at this;exact this
 have key:(st'.defers=[]/\∃vs,resV st' m.res=some vs/\Q (.val (pX vs)) st'.heap st'.next)->a'.defers=[]/\∃v,(results fn a'.tmps).run P c'.w = .ok v c'.w/\(∃c'' r nx',c''.B=c.B/\c''.J0=c.J0/\c''.w=c'.w/\cI c'' w0 nx'/\nx<=nx'/\F.p c''/\Qa c'' (.returned v) r/\Q r c''.heap nx'):=by
  rintro ⟨hd,vs',hvs,hq⟩;obtain ⟨us,f1,f2⟩:=sL (P:=P) e5 h4 hvs;refine ⟨hdef hd,_,mR f1,c',.val (pX vs'),st'.next,e1,e2,rfl,e5.hrel,hnx,e5.frames,OA f2,?_⟩;rw [e5.heap];exact hq
 cases e with
 | normal=>cases me<;>simp only [bE] at e4;exact key e6
 | ret=>cases me<;>simp only [bE] at e4;exact key e6
 | exit id=>cases me<;>simp only [bE] at e4;exact e6.elim
 | goto l=>cases me<;>simp only [bE] at e4
 | panic ch=>
  cases me<;>simp only [bE] at e4
  rename_i d;obtain ⟨hd,hq⟩:=e6;exact ⟨hdef hd,c',.pan d,st'.next,e1,e2,rfl,e5.hrel,hnx,e5.frames,e4,by rw [e5.heap];exact hq⟩
 | outgrown=>cases me<;>simp only [bE] at e4
theorem bQ.mono {P:Program} {f:FuncId} {vs:List V} {h:Heap} {nx:Nat} {Q Q' : Res->Heap->Nat->Prop} (hs:bQ P f vs h nx Q) (hq:∀r h' nx',Q r h' nx'->Q' r h' nx'):bQ P f vs h nx Q':=by
 refine ⟨hs.1,fun c w0 F gvs h1 h2 h3 h4 h5=>(hs.2 c w0 F gvs h1 h2 h3 h4 h5).mono ?_⟩;rintro e w' ⟨c',r,nx',e1,e2,e3,e4,e5,e6,e7,e8⟩;exact ⟨c',r,nx',e1,e2,e3,e4,e5,e6,e7,hq _ _ _ e8⟩
theorem Ie {P:Program} {f:FuncId} {vs:List V} {h:Heap} {nx:Nat} {Q:Res->Heap->Nat->Prop} {ds:List Dat} {r:Dat} (hb:mQ P f) (hd:mN h vs=some ds) (hr:Ret P f ds r) (hq:Q (.val (V.ce r)) h nx):bQ P f vs h nx Q:=by
 refine ⟨hb,?_⟩;rintro c w0 F gvs rfl hh hF hp hv;refine (hr c.w (Imm c) gvs hh.glob (oJ hd hv)).mono ?_;rintro e w' ⟨v,rfl,hv,hbel⟩;have hev:=Evo.grow hh hbel;refine ⟨{ c with w:=w' },.val (V.ce r),nx,rfl,rfl,rfl,hh.grow hbel,abu _,F.ok _ _ (hev.toK _) hp,aD.ce ?_,hq⟩;refine aI.keep ?_ _ _ hv;intro b o' hj;refine ⟨?_,rfl⟩
 rcases hj with hj|⟨hj1,hj2⟩
 ·exact (hev.keeps b o' hj).1
 ·refine .inr ⟨hh.sE hj1,hj2,?_⟩
  intro id blk hl hph hg;have:=hh.iT hl hph;have hg' : (c.pl id).gb=b:=hg;omega
def pY (h:Heap):List V->Option (List Dat)
 | []=>some []
 | v::r=>match v.dat h,wj v,pY h r with
  | some x,true,some l=>some (x::l)
  | _,_,_=>none
def V.yO (h:Heap):V->Option Dat
 | .d x=>some x
 | .row id len=>match look h id with
  | some (.var cs)=>match pY h cs,Nat.beq cs.length len with
   | some ds,true=>some (.slice 1 (ds.map fun d=>[d]) false)
   | _,_=>none
  | _=>none
 | .agg cs=>(go cs).map Dat.agg
 | .ref id _ off len=>match look h id with
  | some (.arr k xs)=>some (.slice k ((xs.drop off).take len) false)
  | some (.mt k _ xs)=>some (.slice k ((xs.drop off).take len) false)
  | _=>none
 | .func f [] []=>some (.func f)
 | _=>none
where
 go:List V->Option (List Dat)
  | []=>some []
  | .d x::r=>match go r with|some l=>some (x::l)|none=>none
  | .ref id _ off len::r=>match look h id,go r with
   | some (.arr k xs),some l=>some (.slice k ((xs.drop off).take len) false::l)
   | some (.mt k _ xs),some l=>some (.slice k ((xs.drop off).take len) false::l)
   | _,_=>none
  | .func f [] []::r=>match go r with|some l=>some (.func f::l)|none=>none
  | _=>none
def fJ (h:Heap):List V->Option (List Dat)
 | []=>some []
 | v::r=>match v.yO h,fJ h r with
  | some x,some l=>some (x::l)
  | _,_=>none
def V.cur (h:Heap):V->Bool
 | .agg cs=>go cs
 | .ref id ver _ _=>match look h id with
  | some (.mt _ dA _)=>Nat.beq ver dA
  | _=>true
 | _=>true
where
 go:List V->Bool
  | []=>true
  | .ref id ver _ _::r=>match look h id with
   | some (.mt _ dA _)=>Nat.beq ver dA&&go r
   | _=>go r
  | _::r=>go r
def vD (h:Heap):List V->Bool
 | []=>true
 | v::r=>v.cur h&&vD h r
def fZ:List Dat->Dat
 | [d]=>d
 | ds=>.tuple ds
section
variable {c : Cx} {w0 : World} {nx : Nat} {J : Nat -> Nat -> Prop} (hh : cI c w0 nx) (hk : Keeps c.w c.w (Imm c) J) (hnew : ∀ b o, ¬ c.Old b -> b < c.w.heap.size -> J b o)
include hh hk hnew
theorem Ig {id ver off len k dA : Nat} {xs:List (List Dat)} {gv:Value} (hl:look c.heap id=some (.mt k dA xs)) (hv:ver=dA) (h:aD c (.ref id ver off len) gv):aI c.w J (.slice k ((xs.drop off).take len) false) gv:=by
 subst hv;simp only [aD,hl] at h;obtain ⟨_,_,h⟩:=h;obtain ⟨h1,h2⟩:=h rfl;have hlen:((xs.drop off).take len).length=len:=by simp;omega
 rcases h2 with ⟨h2,h3,_⟩|⟨b,o,h2,h3⟩
 ·exact .inl ⟨⟨_,h2,by simp⟩,abz (by omega)⟩
 ·obtain ⟨b3,b4,bb⟩:=hh.blk id _ hl
  refine .inr ⟨b,o,(c.pl id).cap - off,by rw [hlen];exact h2,by rw [hlen];omega,by simp,?_⟩;by_cases hl0:len=0
  ·subst hl0;simp [b8]
  ·obtain ⟨vs,e,g1,g2,g3,g4⟩:=bb (by omega)
   obtain ⟨rfl,rfl⟩:=h3 (by omega);have hgb:=hh.ge id _ hl (show 0<(c.pl id).cap by omega);have hlt:=hh.iT hl (show 0<(c.pl id).cap by omega);have hfl:=np b4 off len (by omega);refine b8.of_flat (us:=((vs.toList.take (xs.length * k)).drop (off * k)).take (len * k)) (fun x hx=>b4 x (acy (abR hx))) ?_ ?_
   ·rw [hfl];exact aT.keep hk _ _ ((g3.drop _).take _)
   ·intro j v hv
    refine ⟨?_,hnew _ _ hgb hlt,g4 v (acy (abR (abP hv)))⟩;rw [abw] at hv
    split at hv
    ·rw [abB,abw] at hv
     split at hv
     ·rw [bS g1];simpa using hv
     ·simp at hv
    ·simp at hv
theorem KN:∀{vs:List V} {ds:List Dat} {us:List Value},V.yO.go c.heap vs=some ds->V.cur.go c.heap vs=true->aC c vs us->aT c.w J ds us:=by
 intro vs
 induction vs with
 | nil=>intro ds us h _ r;simp [V.yO.go] at h;subst h;simpa [aT,aC] using r
 | cons v vs ih=>
  intro ds us h hc r;obtain ⟨u,us',rfl,r1,r2⟩:=r;unfold V.yO.go at h
  split at h
  ·simp at *
  ·rename_i x rr heq
   simp only [ab5] at heq;obtain ⟨rfl,rfl⟩:=heq
   split at h
   ·rename_i l hl
    simp at h;subst h;exact ⟨u,us',rfl,aI.keep hk _ _ r1,ih hl (by simpa [V.cur.go] using hc) r2⟩
   ·simp at h
  ·rename_i id ver off len rr heq
   simp only [ab5] at heq;obtain ⟨rfl,rfl⟩:=heq
   split at h
   ·rename_i k xs l hl1 hl2
    simp at h;subst h;simp only [V.cur.go,hl1] at hc;exact ⟨u,us',rfl,aI.keep hk _ _ (ue hl1 r1),ih hl2 hc r2⟩
   ·rename_i k dA xs l hl1 hl2
    simp at h;subst h;simp only [V.cur.go,hl1,abq] at hc;exact ⟨u,us',rfl,Ig hh hk hnew hl1 (abr hc.1) r1,ih hl2 hc.2 r2⟩
   ·simp at h
  ·rename_i f rr heq
   simp only [ab5] at heq;obtain ⟨rfl,rfl⟩:=heq
   split at h
   ·rename_i l hl
    simp at h;subst h;obtain ⟨fs',vs',e1,e3,e2⟩:=r1;simp [aC] at e2 e3;subst e2 e3;exact ⟨u,us',rfl,e1,ih hl (by simpa [V.cur.go] using hc) r2⟩
   ·simp at h
  ·simp at h
theorem Gv:∀{vs:List V} {ds:List Dat} {us:List Value},pY c.heap vs=some ds->aC c vs us->aT c.w J ds us/\∀u∈us,one u=true:=by
 intro vs
 induction vs with
 | nil=>intro ds us h r;simp [pY] at h;subst h;simp [aC] at r;subst r;simp [aT]
 | cons v vs ih=>
  intro ds us h r;obtain ⟨u,us',rfl,r1,r2⟩:=r;unfold pY at h
  split at h
  ·rename_i x l h1 ho h2
   simp at h;subst h;obtain ⟨g1,g2⟩:=ih h2 r2;refine ⟨⟨u,us',rfl,aI.keep hk _ _ (A4 h1 r1),g1⟩,fun y hy=>?_⟩
   rcases abY.1 hy with rfl|hy
   ·exact A3 r1 ho
   ·exact g2 y hy
  ·simp at h
theorem QH {id len:Nat} {cs:List V} {ds:List Dat} {gv:Value} (hl:look c.heap id=some (.var cs)) (hd:pY c.heap cs=some ds) (hlen:cs.length=len) (h:aD c (.row id len) gv):aI c.w J (.slice 1 (ds.map fun d=>[d]) false) gv:=by
 obtain ⟨_,h2,_⟩:=h;obtain ⟨vs,e,g1,g2⟩:=hh.blk id _ hl;obtain ⟨g3,g4⟩:=Gv hh hk hnew hd g2;have hgb:=hh.ge id _ hl trivial;have hlt:=hh.iT hl trivial;have h1:=g3.length;have h3:=g2.length;refine .inr ⟨(c.pl id).gb,0,len,by rw [acI,<- h1,h3,hlen];exact h2,by simp;omega,by simp,?_⟩;refine b8.of_flat (us:=vs.toList) (fun x hx=>?_) ?_ ?_
 ·obtain ⟨d,_,rfl⟩:=adA.1 hx;rfl
 ·have:(ds.map fun d=>[d]).flatten=ds:=by
   clear hd g3 h1
   induction ds with
   | nil=>rfl
   | cons d ds ih=>simp [ih]
  rw [this];exact g3
 ·intro j v hv
  refine ⟨?_,hnew _ _ hgb hlt,g4 v (abP hv)⟩;rw [abJ,bS g1];simpa using hv
theorem QI {v:V} {x:Dat} {gv:Value} (h:v.yO c.heap=some x) (hc:v.cur c.heap=true) (r:aD c v gv):aI c.w J x gv:=by
 cases v with
 | d y=>simp [V.yO] at h;subst h;exact aI.keep hk _ _ r
 | agg cs=>
  simp only [V.yO,abx] at h;obtain ⟨ds,h1,rfl⟩:=h;obtain ⟨us,rfl,h2⟩:=r;exact ⟨us,rfl,KN hh hk hnew h1 hc h2⟩
 | ref id ver off len=>
  simp only [V.yO] at h
  split at h
  ·rename_i k xs hl
   simp at h;subst h;exact aI.keep hk _ _ (ue hl r)
  ·rename_i k dA xs hl
   simp at h;subst h;simp only [V.cur,hl] at hc;exact Ig hh hk hnew hl (abr hc) r
  ·simp at h
 | row id len=>
  simp only [V.yO] at h
  split at h
  ·rename_i cs hl
   split at h
   ·rename_i ds hd hb
    simp at h;subst h;exact QH hh hk hnew hl hd (abr hb) r
   ·simp at h
  ·simp at h
 | func f fs cap=>
  cases fs with
  | cons a b=>simp [V.yO] at h
  | nil=>
   cases cap with
   | nil=>
    simp [V.yO] at h;subst h;obtain ⟨fs',vs',e1,e3,e2⟩:=r;simp [aC] at e2 e3;subst e2 e3;exact e1
   | cons a b=>simp [V.yO] at h
 | _=>simp [V.yO] at h
theorem wC:∀{vs:List V} {ds:List Dat} {us:List Value},fJ c.heap vs=some ds->vD c.heap vs=true->aC c vs us->aT c.w J ds us:=by
 intro vs
 induction vs with
 | nil=>intro ds us h _ r;simp [fJ] at h;subst h;simpa [aT,aC] using r
 | cons v vs ih=>
  intro ds us h hc r;obtain ⟨u,us',rfl,r1,r2⟩:=r;simp only [vD,abq] at hc;unfold fJ at h
  split at h
  ·rename_i x l h1 h2
   simp at h;subst h;exact ⟨u,us',rfl,QI hh hk hnew h1 hc.1 r1,ih h2 hc.2 r2⟩
  ·simp at h
end
def KO (res:List kp) (r:Dat) (e:ay) (st:St):Prop:=(e = .normal\/e = .ret)/\st.defers=[]/\∃vs ds,resV st res=some vs/\fJ st.heap vs=some ds/\vD st.heap vs=true/\fZ ds=r
theorem B7 {P:Program} {c' : Cx} {w0:World} {n:Nat} {gs:Fr} {st' : St} {a' : Act} {fn:Func} {res:List kp} {J:Nat->Nat->Prop} {w:World} (e5:Rel c' w0 n gs st' a') (hres:gG P fn.results.toList=some res) (hB:c'.B=w.heap.size) (hJ:c'.J0=⟨J,fun _=>False⟩)
  {vs:List V} {ds:List Dat} (g1:resV st' res=some vs) (g2:fJ st'.heap vs=some ds) (g3:vD st'.heap vs=true) :
  ∃v,(results fn a'.tmps).run P c'.w = .ok v c'.w/\aI c'.w (fun b o=>J b o\/(w.heap.size<=b/\b<c'.w.heap.size)) (fZ ds) v:=by
 have hk:Keeps c'.w c'.w (Imm c') (fun b o=>J b o\/(w.heap.size<=b/\b<c'.w.heap.size)):=by
  intro b o hi;refine ⟨?_,rfl⟩
  rcases hi with ⟨_,hi⟩|⟨hi1,hi2,_⟩
  ·rw [hJ] at hi;exact .inl hi
  ·exact .inr ⟨acK fun h=>hi1 (.inl (by rw [hB];exact h)),hi2⟩
 obtain ⟨us,f1,f2⟩:=sL (P:=P) e5 hres g1;rw [<- e5.heap] at g2 g3;have k1:=wC e5.hrel hk (fun b o h1 h2=>.inr ⟨acK fun h=>h1 (.inl (by rw [hB];exact h)),h2⟩) g2 g3 f2;refine ⟨_,mR f1,?_⟩;have hl:=k1.length
 match ds,k1,hl with
 | [],k1,hl=>simp [aT] at k1;subst k1;exact ⟨[],by simp,rfl⟩
 | [d],k1,hl=>
  obtain ⟨u,us',rfl,h1,h2⟩:=k1;simp [aT] at h2;subst h2;simpa [fZ] using h1
 | d::d'::r,k1,hl=>
  rw [dif_neg (by simp at hl ⊢;omega)];exact ⟨us,rfl,k1⟩
theorem Rel.init {w:World} {J:Nat->Nat->Prop} {args:List Dat} {vs:List Value} {n:Nat} (hG:GOk w.heap.size w) (hrel:aT w J args vs) (hn:args.length<=n) :
  Rel { B:=w.heap.size,J0:=⟨J,fun _=>False⟩,heap:=[],pl:=fun _=>⟨0,0⟩,w:=w } w n Fr.none (pC args) { tmps:=vs.toArray++Array.replicate (n - vs.toArray.size) undef,defers:=[] }:=by
 have hv:aC { B:=w.heap.size,J0:=⟨J,fun _=>False⟩,heap:=[],pl:=fun _=>⟨0,0⟩,w:=w } (args.map V.ce) vs:=by
  refine aC.QG (aT.keep ?_ _ _ (aT.bound _ _ hrel));intro b o hj;exact ⟨.inl ⟨.inl hj.2,hj.1⟩,rfl⟩
 exact Rel.enter (F:=Fr.none) (nx:=0) ⟨Below.refl _ _,fun _ h=>h.elim,hG,by simp [look],by simp [look],by simp [look],by simp [look]⟩ (abu _) trivial hv (by simpa using hn)
theorem Ih {P:Program} {f:FuncId} {m:aP} (hf:az P f m) {args:List Dat} {r:Dat} (hn:Nat.ble args.length m.n=true)
  (h:WT P (KO m.res r) (exec m.code (pC args) Tree.done)):Ret P f args r:=by
 obtain ⟨fn,code,h1,h2,h0,h3,h4,h5⟩:=hf;intro w J vs hG hrel;refine calls_of_wp h1 h2 ?_;rw [h3];refine Code.wp_mono ?_ (kF (plainW P) code m.code h5 (.inl rfl) Tree.done _ _ _ (Rel.init hG hrel (abA hn)) h);intro e a' w' ⟨c',me,st',e1,e2,e3,e4,e5,e6⟩;subst e3;simp only [WT] at e6;obtain ⟨g1,g2,vs',ds,g3,g4,g5,rfl⟩:=e6;obtain ⟨v,hv1,hv2⟩:=B7 (P:=P) (w:=w) (J:=J) e5 h4 e1 e2 g3 g4 g5;have hbel:Below w.heap.size w c'.w:=by have:=e5.hrel.below;rw [e1] at this;exact this
 have key:a'.defers=[]/\∃v,(results fn a'.tmps).run P c'.w = .ok v c'.w/\(∃v',Ending.returned v = .returned v'/\aI c'.w (fun b o=>J b o\/(w.heap.size<=b/\b<c'.w.heap.size)) (fZ ds) v'/\Below w.heap.size w c'.w):=
  ⟨by have:=e5.defers;rw [g2] at this;exact this,v,hv1,v,rfl,hv2,hbel⟩
 cases e with
 | normal=>exact key
 | ret=>exact key
 | exit id=>cases me<;>simp only [bE] at e4;simp at g1
 | goto l=>cases me<;>simp only [bE] at e4
 | panic ch=>cases me<;>simp only [bE] at e4;simp at g1
 | outgrown=>cases me<;>simp only [bE] at e4
end Uw
namespace Uw
open Go
variable [Glob]
section
variable {P : Program} {Q : ay -> St -> Prop}
theorem bF {b:Bool} {y n:Tree} (h1:b=true->WT P Q y) (h2:b=false->WT P Q n):WT P Q (.test b y n):=⟨h1,h2⟩
theorem ah {b:Bool} {y n:Tree} (hb:b=true) (h1:WT P Q y):WT P Q (.test b y n):=⟨fun _=>h1,fun h=>(by rw [hb] at h;cases h)⟩
theorem aS {b:Bool} {y n:Tree} (hb:b=false) (h1:WT P Q n):WT P Q (.test b y n):=⟨fun h=>(by rw [hb] at h;cases h),fun _=>h1⟩
theorem wE {y n:Tree} (h1:WT P Q y) (h2:WT P Q n):WT P Q (.both y n):=⟨h1,h2⟩
theorem al {e:ay} {st:St} (h:Q e st):WT P Q (.done e st):=h
theorem aL {f:FuncId} {ds:List Dat} {k:Dat->Tree} (r:Dat) (h:Ret P f ds r) (h2:WT P Q (k r)):WT P Q (.call f ds k):=⟨r,h,h2⟩
theorem aF {xs:List (List Dat)} {i:Nat} {k:List Dat->Tree} (x:List Dat) (h:xs[i]? = some x) (h2:WT P Q (k x)):WT P Q (.elem xs i k):=⟨x,h,h2⟩
theorem A5 {s:List UInt8} {i:Nat} {k:UInt8->Tree} (x:UInt8) (h:s[i]? = some x) (h2:WT P Q (k x)):WT P Q (.byte s i k):=⟨x,h,h2⟩
theorem QJ {o:Option Dat} {k:Dat->Tree} (x:Dat) (h:o=some x) (h2:WT P Q (k x)):WT P Q (.val o k):=⟨x,h,h2⟩
theorem Gw {o:Option Blk} {k:Blk->Tree} (x:Blk) (h:o=some x) (h2:WT P Q (k x)):WT P Q (.blk o k):=⟨x,h,h2⟩
theorem A6 {o:Option V} {k:V->Tree} (x:V) (h:o=some x) (h2:WT P Q (k x)):WT P Q (.Eg o k):=⟨x,h,h2⟩
theorem MU {h:Heap} {k:Heap->Tree} (h2:WT P Q (k h)):WT P Q (.heq h k):=⟨h,fun _=>rfl,h2⟩
theorem qW {c:bR} {st:St} {k:ay->St->Tree} (h:KC P c st fun e st'=>WT P Q (k e st')):WT P Q (.code c st k):=h
theorem cC {v:Nat} {y n:Tree} (h1:WT P Q y):WT P Q (.test (Nat.beq v v) y n):=ah (adb v) h1
theorem aO {x y:Option V} {t:Tree} (h:x=y) (h1:WT P Q t):WT P Q (.same x y t):=⟨h,h1⟩
theorem br {fuel:Nat} {l:List DOp} {st:St} {k:ay->St->Tree} (S:St) (h:WT P (fun e s=>(e = .normal/\Weak s S)\/(∃d,e = .panic d/\∃s',(s' = s\/Weak s s')/\WT P Q (k e s'))) (uT l (keepR l st.regs) fuel [] [] st Tree.done)) (h2:WT P Q (k .normal S)):WT P Q (.code (.draw fuel l) st k):=by
 refine qW (uh (WT.mono ?_ _ h));rintro e s (⟨rfl,hw⟩|⟨d,rfl,s',hw,hq⟩)
 ·exact ⟨S,.inr hw,h2⟩
 ·exact ⟨s',hw,hq⟩
theorem Ii {fuel:Nat} {l:List DOp} {st:St} {k:ay->St->Tree} (h:WT P (fun e s=>∃d,e = .panic d/\WT P Q (k e s)) (uT l (keepR l st.regs) fuel [] [] st Tree.done)):WT P Q (.code (.draw fuel l) st k):=by
 refine qW (uh (WT.mono ?_ _ h));rintro e s ⟨d,rfl,hq⟩;exact ⟨s,.inl rfl,hq⟩
theorem A7 {f:FuncId} {m:aP} (hf:az P f m) {vs:List V} {h:Heap} {nx:Nat} {R:Res->Heap->Nat->Prop} (hn:Nat.ble vs.length m.n=true)
  (hw:WT P (Gu m.res R) (exec m.code ⟨dM 0 vs,h,nx,[],nx⟩ Tree.done)):bQ P f vs h nx R:=qV hf hn (WT.mono (fun e st hq=>⟨st,.inl rfl,hq⟩) _ hw)
theorem bU {f:FuncId} {m:aP} (hf:az P f m) {vs:List V} {h:Heap} {nx:Nat} {R:Res->Heap->Nat->Prop} (hn:Nat.ble vs.length m.n=true)
  (hw:WT P (fun e st=>∃st',(st' = st\/Weak st st')/\Gu m.res R e st') (exec m.code ⟨dM 0 vs,h,nx,[],nx⟩ Tree.done)):bQ P f vs h nx R:=qV hf hn hw
theorem av {f:FuncId} {vs:List V} {h:Heap} {nx:Nat} {k:Res->Heap->Nat->Tree} {R:Res->Heap->Nat->Prop} (hs:bQ P f vs h nx R) (h2:∀r h' nx',R r h' nx'->WT P Q (k r h' nx')):WT P Q (.sub f vs h nx k):=hs.mono h2
theorem bO {f:FuncId} {m:aP} (hf:az P f m) {vs:List V} {h:Heap} {nx:Nat} {k:Res->Heap->Nat->Tree} (hn:Nat.ble vs.length m.n=true)
  (hw:WT P (Gu m.res fun r h' nx'=>WT P Q (k r h' nx')) (exec m.code ⟨dM 0 vs,h,nx,[],nx⟩ Tree.done)):WT P Q (.sub f vs h nx k):=A7 hf hn hw
theorem bK {f:FuncId} {vs:List V} {h:Heap} {nx:Nat} {k:Res->Heap->Nat->Tree} {ds:List Dat} (r:Dat) (hb:mQ P f) (hd:mN h vs=some ds) (hr:Ret P f ds r) (hq:WT P Q (k (.val (V.ce r)) h nx)):WT P Q (.sub f vs h nx k):=Ie hb hd hr hq
theorem dR {res:List kp} {R:Res->Heap->Nat->Prop} {st:St} {vs:List V} (hd:st.defers=[]) (h:resV st res=some vs) (hq:R (.val (pX vs)) st.heap st.next):WT P (Gu res R) (.done .ret st):=⟨hd,vs,h,hq⟩
theorem cX {res:List kp} {R:Res->Heap->Nat->Prop} {st:St} {vs:List V} (hd:st.defers=[]) (h:resV st res=some vs) (hq:R (.val (pX vs)) st.heap st.next):WT P (Gu res R) (.done .normal st):=⟨hd,vs,h,hq⟩
theorem kG {res:List kp} {R:Res->Heap->Nat->Prop} {st:St} {d:Dat} (hd:st.defers=[]) (hq:R (.pan d) st.heap st.next):WT P (Gu res R) (.done (.panic d) st):=⟨hd,hq⟩
theorem aj {res:List kp} {r:Dat} {st:St} {vs:List V} {ds:List Dat} (hd:st.defers=[]) (h:resV st res=some vs) (h2:fJ st.heap vs=some ds) (h3:vD st.heap vs=true) (he:fZ ds=r):WT P (KO res r) (.done .ret st):=⟨.inr rfl,hd,vs,ds,h,h2,h3,he⟩
theorem au {f:FuncId} {m:aP} (hf:az P f m) {args:List Dat} {r:Dat} (hn:Nat.ble args.length m.n=true) (h:WT P (KO m.res r) (exec m.code (pC args) Tree.done)):Ret P f args r:=
 Ih hf hn h
def cQ {α:Type} (S:α->St) (inv:α->Prop) (mu:α->Nat) (x:α) (Q:ay->St->Prop):ay->St->Prop
 | .normal,s=>∃y,inv y/\mu y<mu x/\Weak s (S y)
 | e,s=>Q e s
theorem dC {α:Type} (S:α->St) (inv:α->Prop) (mu:α->Nat) (x0:α) {m:bR} {st:St} {k:ay->St->Tree} (hw:Weak st (S x0)) (h0:inv x0)
  (round:∀x,inv x->WT P (cQ S inv mu x fun e s=>WT P Q (k e s)) (exec m (S x) Tree.done)):WT P Q (.code (.loop m) st k):=by
 refine qW (EX (fun n s=>∃x,n=mu x/\inv x/\s=S x) (mu x0) (S x0) hw ⟨x0,rfl,h0,rfl⟩ ?_);rintro n s ⟨x,rfl,hx,rfl⟩;refine WT.mono ?_ _ (round x hx);intro e s hq
 cases e with
 | normal=>obtain ⟨y,h1,h2,h3⟩:=hq;exact ⟨mu y,S y,h2,h3,y,rfl,h1,rfl⟩
 | exit j=>exact hq
 | ret=>exact hq
 | panic d=>exact hq
def RQ (R:St->Prop) (Q:ay->St->Prop):ay->St->Prop
 | .normal,s=>R s
 | e,s=>Q e s
def Rounds (P:Program) (m:bR) (Q:ay->St->Prop):Nat->St->Prop
 | 0,_=>False
 | n+1,st=>WT P (RQ (Rounds P m Q n) Q) (exec m st Tree.done)
theorem fN (n:Nat) {m:bR} {st:St} {k:ay->St->Tree} (h:Rounds P m (fun e s=>WT P Q (k e s)) n st):WT P Q (.code (.loop m) st k):=by
 intro S nt pol code hc hdf c w0 gs a r;obtain ⟨x,rfl,hx⟩:=EW hc;refine S.Yw n ?_;have key:∀n c' st a,c'.B=c.B->c'.J0=c.J0->Rel c' w0 nt gs st a->Rounds P m (fun e s=>WT P Q (k e s)) n st->
   S.rounds x (fun e a' w'=>∃c'' me st',c''.B=c.B/\c''.J0=c.J0/\c''.w=w'/\bE c'' e me/\Rel c'' w0 nt gs st' a'/\WT P Q (k me st')) n a c'.w:=by
  intro n
  induction n with
  | zero=>intro c' st a _ _ _ h;exact h.elim
  | succ n ih=>
   intro c' st a hB hJ r h;refine S.mono (kF S x m hx (hdf.imp id fun h=>by simp [noD] at h;exact h) Tree.done c' st a r h) ?_;intro e a'' w'' ⟨c'',me,s',f1,f2,f3,f4,f5,f6⟩;subst f3;simp only [WT] at f6
   cases e with
   | normal=>cases me<;>simp only [bE] at f4;exact ih c'' s' a'' (f1.trans hB) (f2.trans hJ) f5 f6
   | exit id=>cases me<;>simp only [bE] at f4;rename_i j;exact ⟨c'',.exit j,s',f1.trans hB,f2.trans hJ,rfl,f4,f5,f6⟩
   | goto l=>cases me<;>simp only [bE] at f4
   | ret=>cases me<;>simp only [bE] at f4;exact ⟨c'',.ret,s',f1.trans hB,f2.trans hJ,rfl,trivial,f5,f6⟩
   | panic ch=>cases me<;>simp only [bE] at f4;rename_i d;exact ⟨c'',.panic d,s',f1.trans hB,f2.trans hJ,rfl,f4,f5,f6⟩
   | outgrown=>cases me<;>simp only [bE] at f4
 exact key n c st a rfl rfl r h
theorem eM {m:bR} {n:Nat} {s:St} (h:WT P (RQ (Rounds P m Q n) Q) (exec m s Tree.done)):WT P (RQ (Rounds P m Q (n+1)) Q) (.done .normal s):=h
theorem pZ {R:St->Prop} {j:Nat} {s:St} (h:Q (.exit j) s):WT P (RQ R Q) (.done (.exit j) s):=h
theorem yP {R:St->Prop} {s:St} (h:Q .ret s):WT P (RQ R Q) (.done .ret s):=h
section
variable {α : Type} {S : α -> St} {inv : α -> Prop} {mu : α -> Nat} {x : α}
theorem aR (y:α) {s:St} (hi:inv y) (hm:mu y<mu x) (hw:Weak s (S y)):WT P (cQ S inv mu x Q) (.done .normal s):=⟨y,hi,hm,hw⟩
theorem bp {j:Nat} {s:St} (h:Q (.exit j) s):WT P (cQ S inv mu x Q) (.done (.exit j) s):=h
theorem cD {s:St} (h:Q .ret s):WT P (cQ S inv mu x Q) (.done .ret s):=h
theorem cF {s:St} {d:Dat} (h:Q (.panic d) s):WT P (cQ S inv mu x Q) (.done (.panic d) s):=h
end
def OB (ρ:Nat->Nat) (regs:jf) (h h' : Heap):jf->Prop
 | []=>True
 | (i,v')::r=>(∃v,look regs i=some v/\VW ρ h h' v v')/\OB ρ regs h h' r
def QK (ρ:Nat->Nat) (h h' : Heap) (next:Nat):Heap->Prop
 | []=>True
 | (i,b')::r=>(((∃b,look h (ρ i)=some b/\pW ρ h h' b b')\/(look h (ρ i)=none/\iV b'))/\Nat.blt i next=true)/\QK ρ h h' next r
def EZ (ρ:Nat->Nat) (h h' : Heap):Nat->Prop
 | 0=>True
 | n+1=>(ρ n=n/\((look h n).isSome=true->(look h' n).isSome=true))/\EZ ρ h h' n
def di:List (Nat×Nat)->Nat->Nat
 | [],i=>i
 | (a,b)::r,i=>match Nat.beq a i with
  | true=>b
  | false=>di r i
def KP:Heap->List Nat
 | []=>[]
 | (i,_)::r=>i::KP r
def yQ (ρ:Nat->Nat):List Nat->Bool
 | []=>true
 | i::r=>(r.all fun j=>!(Nat.beq (ρ i) (ρ j))||Nat.beq i j)&&yQ ρ r
theorem nB {ρ:Nat->Nat} {h h' : Heap}:∀{n:Nat},EZ ρ h h' n->∀id,id<n->ρ id=id/\((look h id).isSome=true->(look h' id).isSome=true)
 | 0,_,id,hid=>by omega
 | n+1,⟨h1,h2⟩,id,hid=>by
  by_cases he:id=n
  ·subst he;exact h1
  ·exact nB h2 id (by omega)
theorem qa {ρ:Nat->Nat} {regs:jf} {h h' : Heap}:∀{r:jf},OB ρ regs h h' r->∀i v',look r i=some v'->∃v,look regs i=some v/\VW ρ h h' v v'
 | [],_,i,v,hh=>by simp [look] at hh
 | (j,u)::r,⟨h1,h2⟩,i,v,hh=>by
  rw [aE] at hh;by_cases hj:j=i
  ·rw [if_pos hj] at hh;injection hh with hh;subst hh;subst hj;exact h1
  ·rw [if_neg hj] at hh;exact qa h2 i v hh
theorem kq {ρ:Nat->Nat} {h h' : Heap} {next:Nat}:∀{r:Heap},QK ρ h h' next r->∀i b',look r i=some b'->((∃b,look h (ρ i)=some b/\pW ρ h h' b b')\/(look h (ρ i)=none/\iV b'))/\i<next
 | [],_,i,v,hh=>by simp [look] at hh
 | (j,u)::r,⟨h1,h2⟩,i,v,hh=>by
  rw [aE] at hh;by_cases hj:j=i
  ·rw [if_pos hj] at hh;injection hh with hh;subst hh;subst hj;exact ⟨h1.1,by simpa using h1.2⟩
  ·rw [if_neg hj] at hh;exact kq h2 i v hh
theorem sM:∀{h:Heap} {id:Nat},(look h id).isSome=true->id∈KP h
 | [],id,hh=>by simp [look] at hh
 | (j,u)::r,id,hh=>by
  rw [aE] at hh;by_cases hj:j=id
  ·simp [KP,hj]
  ·rw [if_neg hj] at hh;simp [KP,sM hh]
theorem yR {ρ:Nat->Nat}:∀{l:List Nat},yQ ρ l=true->∀i∈l,∀j∈l,ρ i=ρ j->i=j
 | [],_,i,hi,_,_,_=>by simp at hi
 | x::l,h,i,hi,j,hj,he=>by
  rw [yQ,abq] at h;have key:∀y∈l,ρ x=ρ y->x=y:=by
   intro y hy hxy;have:=aby.1 h.1 y hy;rw [hxy] at this;simpa using this
  rw [abY] at hi hj
  rcases hi with rfl|hi
  ·rcases hj with rfl|hj
   ·rfl
   ·exact key j hj he
  ·rcases hj with rfl|hj
   ·exact (key i hi he.symm).symm
   ·exact yR h.2 i hi j hj he
theorem Weak.ofR (l:List (Nat×Nat)) {st st' : St} (h1:OB (di l) st.regs st.heap st'.heap st'.regs) (h2:QK (di l) st.heap st'.heap st'.next st'.heap) (h3:st'.base=st.base) (h4:Nat.ble st.base st'.next=true) (h5:EZ (di l) st.heap st'.heap st.base)
  (h8:yQ (di l) (KP st'.heap)=true) (h6:eh st'.heap st'.defers=true) (h7:st.defers=nA (di l) st'.defers):Weak st st':=
 ⟨di l,fun i v h=>qa h1 i v h,fun i b h=>(kq h2 i b h).1,fun i b h=>(kq h2 i b h).2,h3,abA h4,nB h5,fun id id' hi hi' he=>yR h8 id (sM hi) id' (sM hi') he,h6,h7⟩
def Blk.ren (ρ:Nat->Nat):Blk->Blk
 | .var cs=>.var (nA ρ cs)
 | b=>b
def Blk.closed (h:Heap):Blk->Bool
 | .var cs=>eh h cs
 | _=>true
theorem MV {ρ:Nat->Nat} {h h' : Heap}:∀{cs:List V},eh h' cs=true->VWL ρ h h' (nA ρ cs) cs
 | [],_=>trivial
 | v::r,hc=>by
  simp only [eh,abq] at hc;exact ⟨.inl ⟨rfl,hc.1⟩,MV hc.2⟩
theorem Ij {ρ:Nat->Nat} {h h' : Heap} {b:Blk} (hc:b.closed h' = true):pW ρ h h' (b.ren ρ) b:=by
 cases b with
 | var cs=>exact MV hc
 | arr k xs=>exact ⟨rfl,rfl⟩
 | mt k v xs=>exact ⟨rfl,rfl,rfl⟩
 | iter s p=>exact ⟨rfl,rfl⟩
 | map kk es=>exact ⟨rfl,rfl⟩
theorem qb {α:Type}:∀{l:List (Nat×α)} {i:Nat} {a:α},look l i=some a->(i,a)∈l
 | [],i,a,h=>by simp [look] at h
 | (j,b)::r,i,a,h=>by
  rw [aE] at h;by_cases hj:j=i
  ·rw [if_pos hj] at h;injection h with h;subst h;subst hj;simp
  ·rw [if_neg hj] at h;simp [qb h]
def Ik (ρ:Nat->Nat) (h h' : Heap):Nat->Bool
 | 0=>true
 | n+1=>Nat.beq (ρ n) n&&(!(look h n).isSome||(look h' n).isSome)&&Ik ρ h h' n
theorem Il {ρ:Nat->Nat} {h h' : Heap}:∀{n:Nat},Ik ρ h h' n=true->EZ ρ h h' n
 | 0,_=>trivial
 | n+1,hk=>by
  rw [Ik,abq,abq] at hk;refine ⟨⟨abr hk.1.1,fun hs=>?_⟩,Il hk.2⟩;have:=hk.1.2;rw [hs] at this;simpa using this
theorem vE {α β:Type} {f g:α->β}:∀{l:List α},l.map f=l.map g->∀a∈l,f a=g a
 | [],_,a,ha=>by simp at ha
 | x::l,h,a,ha=>by
  simp only [acj,ab5] at h;rw [abY] at ha
  rcases ha with rfl|ha
  ·exact h.1
  ·exact vE h.2 a ha
theorem Weak.eqs (l:List (Nat×Nat)) {st st' : St} (h1:st'.regs.map (fun p=>look st.regs p.1)=st'.regs.map (fun p=>some (p.2.ren (di l)))) (h1c:(st'.regs.all fun p=>p.2.closed st'.heap)=true)
  (h2:st'.heap.map (fun p=>look st.heap (di l p.1))=st'.heap.map (fun p=>some (p.2.ren (di l)))) (h2c:(st'.heap.all fun p=>p.2.closed st'.heap&&Nat.blt p.1 st'.next)=true)
  (h3:st'.base=st.base) (h4:Nat.ble st.base st'.next=true) (h5:Ik (di l) st.heap st'.heap st.base=true) (h8:yQ (di l) (KP st'.heap)=true) (h6:eh st'.heap st'.defers=true) (h7:st.defers=nA (di l) st'.defers):Weak st st':=by
 refine ⟨di l,?_,?_,?_,h3,abA h4,nB (Il h5),fun id id' hi hi' he=>yR h8 id (sM hi) id' (sM hi') he,h6,h7⟩
 ·intro i v' hv
  have hm:=qb hv;exact ⟨v'.ren (di l),vE h1 (i,v') hm,.inl ⟨rfl,aby.1 h1c (i,v') hm⟩⟩
 ·intro id b' hb
  have hm:=qb hb;have:=aby.1 h2c (id,b') hm;rw [abq] at this;exact .inl ⟨b'.ren (di l),vE h2 (id,b') hm,Ij this.1⟩
 ·intro id b' hb
  have:=aby.1 h2c (id,b') (qb hb);rw [abq] at this;simpa using this.2
theorem Weak.of {st st' : St} (h1:OB (di []) st.regs st.heap st'.heap st'.regs) (h2:QK (di []) st.heap st'.heap st'.next st'.heap) (h3:st'.base=st.base) (h4:Nat.ble st.base st'.next=true) (h5:EZ (di []) st.heap st'.heap st.base)
  (h6:eh st'.heap st'.defers=true) (h7:st.defers=nA (di []) st'.defers):Weak st st':=
 ⟨di [],fun i v h=>qa h1 i v h,fun i b h=>(kq h2 i b h).1,fun i b h=>(kq h2 i b h).2,h3,abA h4,nB h5,fun id id' _ _ he=>he,h6,h7⟩
end
end Uw
namespace Uw
open Go Go.RowKit
variable [Glob]
structure yS where
 n:Nat
 pol:Pol
 t:Nat
 ops:List MI
 rest:bR
def isRec (o:Oper):Option Nat:=
 match o.op,o.guard,o.dst with
 | .call c,none,some t=>match c.callee with
  | .builtin .recover=>some t
  | _=>none
 | _,_,_=>none
def V9 (P:Program) (f:FuncId) (n:Nat) (pol:Pol):Option (Nat×List MI×bR):=
 match P.funcs[f]? with
 | some fn=>match fn.body,fn.results.toList with
  | some (.seq (.region _ ops false) code),[]=>match ops.toList with
   | o::l=>match !(fn.name == "runtime.NumGoroutine")&&Nat.beq fn.ntmps n,isRec o,dI P n pol ops.toList l,comp P n pol code with
    | true,some t,some mi,some c=>match Nat.blt t n with
     | true=>some (t,mi,c)
     | false=>none
    | _,_,_,_=>none
   | []=>none
  | _,_=>none
 | none=>none
def rP (P:Program) (f:FuncId) (m:yS):Prop:=V9 P f m.n m.pol=some (m.t,m.ops,m.rest)
def MW (c:Cx):Option Dat->FrameMode->Prop
 | none,u=>u = .returning
 | some d,u=>∃v,u = .panicking [{ v:=v,recovered:=false }]/\aI c.w (Imm c) d v
def E0:Option Dat->Dat
 | some d=>d
 | none=>.nilIface
def uw (P:Program) (f:FuncId) (vs:List V) (h:Heap) (nx:Nat) (mode:Option Dat) (Q:Heap->Nat->Prop):Prop:=
 mQ P f/\∀(c:Cx) (w0:World) (F:Fr) (gvs:List Value) (u:FrameMode),c.heap=h->cI c w0 nx->F.K<=nx->F.p c->aC c vs gvs->MW c mode u->
  CallsD P f gvs.toArray u c.w fun e u' w'=>∃c' nx' v,c'.B=c.B/\c'.J0=c.J0/\c'.w=w'/\cI c' w0 nx'/\nx<=nx'/\F.p c'/\e = .returned v/\settle u' = .returning/\Q c'.heap nx'
theorem QL {P:Program} {o:Oper} {a:Act} {w:World} {K K' : Act->World->Prop} {Q Q' : Exit->Act->World->Prop} (h:∀a w,K a w->K' a w) (hq:∀e a w,Q e a w->Q' e a w) (hh:o.wp P a w K Q):o.wp P a w K' Q':=by
 unfold Oper.wp at *;generalize (execOp a.eval o).run P w=r at *
 cases r with
 | ok n w'=>
  cases n<;>simp only [Oper.upon] at hh ⊢<;>
   first
    | exact h _ _ hh
    | exact Calls.mono hh (fun e w'' he=>by cases e<;>first|exact h _ _ he|exact hq _ _ _ he|(obtain ⟨a1,w1,h1⟩:=he;exact ⟨a1,w1,hq _ _ _ h1⟩))
    | exact Rows.mono hh (fun _ _ he=>h _ _ he)
 | halt x w'=>cases x<;>simp only [Oper.upon] at hh ⊢<;>first|exact hq _ _ _ hh|exact hh
theorem qX {P:Program} {ops:Array Oper} {Q Q' : Exit->Act->World->Prop} (hq:∀e a w,Q e a w->Q' e a w):∀(l:List Oper) (a:Act) (w:World),wpList P ops Q l a w->wpList P ops Q' l a w
 | [],a,w,h=>hq _ _ _ h
 | o::l,a,w,h=>by
  simp only [wpList] at h ⊢
  split at h
  ·rename_i hw
   rw [if_pos hw]
   rcases h with h|⟨h1,a1,w1,h2⟩
   ·exact .inl (QL (fun a w=>qX hq l a w) hq h)
   ·exact .inr ⟨h1,a1,w1,hq _ _ _ h2⟩
  ·rename_i hw
   rw [if_neg hw];exact qX hq l _ _ h
theorem AE {P:Program} {ops:Array Oper} {Q:Exit->Act->List Frame->World->Prop} {cs:List Frame} (hno:∀a w,¬Q .outgrown a cs w):∀(l:List Nat) (a:Act) (w:World),wpOps P ops (fun e a w=>Q e a cs w) l a w->wpOpsS P ops Q l a cs w:=by
 intro l
 induction l with
 | nil=>intro a w h;exact h
 | cons i l ih=>
  intro a w h;simp only [wpOps] at h;simp only [wpOpsS]
  cases ho:ops[i]? with
  | none=>simp only [ho] at h ⊢;exact ih a w h
  | some o=>
   simp only [ho] at h ⊢
   split
   ·rename_i hw
    simp only [hw,if_true] at h
    rcases h with h|⟨_,a',w',hl⟩
    ·have h':=Oper.wp_mono ih h
     unfold Oper.wp at h'
     split
     ·rename_i w' hr
      rw [hr] at h';exact h'.elim
     ·exact h'
    ·exact (hno _ _ hl).elim
   ·rename_i hw
    simp only [hw] at h;exact ih _ _ h
theorem QM {P:Program} {f:FuncId} {m:yS} (h:rP P f m):∃fn id ops code o l,P.funcs[f]? = some fn/\fn.body=some (.seq (.region id ops false) code)/\fn.results.toList=[]/\ops.toList=o::l/\(fn.name == "runtime.NumGoroutine")=false/\fn.ntmps=m.n/\isRec o=some m.t/\dI P m.n m.pol ops.toList l=some m.ops/\comp P m.n m.pol code=some m.rest/\m.t<m.n:=by
 unfold rP V9 at h
 split at h
 ·rename_i fn hf
  split at h
  ·rename_i id ops code hb hr
   split at h
   ·rename_i o l ho
    split at h
    ·rename_i t mi c h1 h2 h3 h4
     split at h
     ·rename_i h5
      simp only [abL,acw] at h;obtain ⟨rfl,rfl,rfl⟩:=h;rw [abq] at h1;exact ⟨fn,id,ops,code,o,l,hf,hb,hr,ho,by simpa using h1.1,abr h1.2,h2,h3,h4,by simpa using h5⟩
     ·simp at h
    ·simp at h
   ·simp at h
  ·simp at h
 ·simp at h
theorem QN {P:Program} {o:Oper} {t:Nat} (h:isRec o=some t):o.guard=none/\o.dst=some t/\∀(a:Act) (w:World),(execOp a.eval o).run P w = .ok .recover w:=by
 unfold isRec at h
 split at h
 ·rename_i cl t' ho hg hd
  split at h
  ·rename_i hc
   simp at h;subst h;refine ⟨hg,hd,fun a w=>?_⟩;obtain ⟨cal,args,ats⟩:=cl;simp only at hc;subst hc;simp only [execOp,ho,resolve,invoke,builtin];rfl
  ·simp at h
 ·simp at h
def UB (Q:Heap->Nat->Prop) (e:ay) (s:St):Prop:=(e = .normal\/e = .ret)/\s.defers=[]/\Q s.heap s.next
noncomputable def MX (m:yS) (st:St) (q:ay->St->Tree):Tree:=
 cU m.ops none st fun e st'=>match e with
  | .normal=>exec m.rest st' q
  | e=>q e st'
theorem jt {P:Program} {f:FuncId} {m:yS} (hf:rP P f m) {vs:List V} {h:Heap} {nx:Nat} {mode:Option Dat} {Q:Heap->Nat->Prop} (hn:Nat.ble vs.length m.n=true)
  (hw:WT P (UB Q) (MX m (put (some m.t) (.d (E0 mode)) ⟨dM 0 vs,h,nx,[],nx⟩) Tree.done)):uw P f vs h nx mode Q:=by
 obtain ⟨fn,id,ops,code,o,l,h1,h2,hres,hol,hname,hnt,hrec,hcl,hcode,htn⟩:=QM hf;refine ⟨⟨fn,h1,by rw [h2];rfl,hname⟩,?_⟩;rintro c w0 F gvs u rfl hh hF hp hv hmode
 let F' : Fr:=⟨nx,F.p,fun c c' he hc=>F.ok c c' (he.mono hF) hc⟩
 have r0:=Rel.enter (F:=F') (n:=m.n) hh (abu _) hp hv (abA hn);obtain ⟨hg,hdst,hrun⟩:=QN (P:=P) hrec;refine callsD_of_wpS h1 h2 ?_;intro c₀ cs hu;rw [hnt];have final:∀(v:Value) (u' : FrameMode),settle u' = .returning->aD c (.d (E0 mode)) v->
   wpOpsS P ops (Exit.thenS (code.wpS P (bodyPostS P fn c₀ cs fun e u' w'=>∃c' nx' v,c'.B=c.B/\c'.J0=c.J0/\c'.w=w'/\cI c' w0 nx'/\nx<=nx'/\F.p c'/\e = .returned v/\settle u' = .returning/\Q c'.heap nx')) (bodyPostS P fn c₀ cs fun e u' w'=>∃c' nx' v,c'.B=c.B/\c'.J0=c.J0/\c'.w=w'/\cI c' w0 nx'/\nx<=nx'/\F.p c'/\e = .returned v/\settle u' = .returning/\Q c'.heap nx'))
    (List.range' 1 l.length) (({ tmps:=gvs.toArray++Array.replicate (m.n - gvs.toArray.size) undef,defers:=[] }:Act).put o.dst v) ({ c₀ with mode:=u' }::cs) c.w:=by
  intro v u' hset hvr;have r1:=r0.put (dst:=some m.t) (by simpa using htn) hvr;have hend:∀(e:Exit) (a' : Act) (w' : World),Came P (UB Q) Tree.done c w0 m.n F' e a' w'->bodyPostS P fn c₀ cs (fun e u' w'=>∃c' nx' v,c'.B=c.B/\c'.J0=c.J0/\c'.w=w'/\cI c' w0 nx'/\nx<=nx'/\F.p c'/\e = .returned v/\settle u' = .returning/\Q c'.heap nx') e a' ({ c₀ with mode:=u' }::cs) w':=by
   intro e a' w' ⟨c',me,st',e1,e2,e3,e4,e5,e6⟩;subst e3;simp only [WT,UB] at e6;obtain ⟨g1,g2,g3⟩:=e6;have hdef:a'.defers=[]:=by have:=e5.defers;rw [g2] at this;exact this
   have hres' : (results fn a'.tmps).run P c'.w = .ok (.tuple #[]) c'.w:=by
    have:=mR (P:=P) (fn:=fn) (t:=a'.tmps) (w:=c'.w) (us:=[]) (by rw [hres];simp);simpa using this
   have key:a'.defers=[]/\∃u'',{ c₀ with mode:=u' }::cs={ c₀ with mode:=u'' }::cs/\∃v,(results fn a'.tmps).run P c'.w = .ok v c'.w/\(∃c'' nx' v',c''.B=c.B/\c''.J0=c.J0/\c''.w=c'.w/\cI c'' w0 nx'/\nx<=nx'/\F.p c''/\Ending.returned v = .returned v'/\settle u'' = .returning/\Q c''.heap nx'):=
    ⟨hdef,u',rfl,_,hres',c',st'.next,_,e1,e2,rfl,e5.hrel,abX e5.nj e5.base,e5.frames,rfl,hset,by rw [e5.heap];exact g3⟩
   cases e with
   | normal=>exact key
   | ret=>exact key
   | exit id=>cases me<;>simp only [bE] at e4;simp at g1
   | goto l=>cases me<;>simp only [bE] at e4
   | panic ch=>cases me<;>simp only [bE] at e4;simp at g1
   | outgrown=>cases me<;>simp only [bE] at e4
  have hlist:=vv (P:=P) (n:=m.n) (pol:=m.pol) (ops:=ops.toList) (Q:=UB Q) (w0:=w0) (gs:=F') (c0:=c) l m.ops none c _ _ hcl rfl rfl r1 (by intro t w' h' hh;simp at hh) hw;have e:ops.toList.toArray=ops:=by simp
  rw [e] at hlist;rw [hdst];refine AE ?_ _ _ _ ?_
  ·intro a w hq
   simp only [Exit.thenS,bodyPostS] at hq;obtain ⟨u'',c',nx',v',_,_,_,_,_,_,hh,_⟩:=hq
   cases hh
  ·rw [wpOps_eq_wpList l 1 (by intro j;rw [<- ab8,hol,ady];rfl)]
   refine qX ?_ _ _ _ hlist;intro e' a' w' hq;obtain ⟨c',me,st',e1,e2,e3,e4,e5,e6⟩:=hq;subst e3
   cases e' with
   | normal=>
    cases me<;>simp only [bE] at e4
    simp only [Exit.thenS];refine wpS_of_wp (Code.wp_mono ?_ (kF (plainW P) code m.rest hcode (.inl rfl) Tree.done c' st' a' e5 e6));intro e'' a'' w'' ZY;obtain ⟨c'',me',wk,f1,f2,f3,f4,f5,f6⟩:=ZY;exact hend _ _ _ ⟨c'',me',wk,f1.trans e1,f2.trans e2,f3,f4,f5,f6⟩
   | exit id=>cases me<;>simp only [bE] at e4;rename_i j;exact hend (.exit id) a' c'.w ⟨c',.exit j,st',e1,e2,rfl,e4,e5,e6⟩
   | goto l=>cases me<;>simp only [bE] at e4
   | ret=>cases me<;>simp only [bE] at e4;exact hend .ret a' c'.w ⟨c',.ret,st',e1,e2,rfl,trivial,e5,e6⟩
   | panic ch=>cases me<;>simp only [bE] at e4;rename_i d;exact hend (.panic ch) a' c'.w ⟨c',.panic d,st',e1,e2,rfl,e4,e5,e6⟩
   | outgrown=>cases me<;>simp only [bE] at e4
 refine wpS_seq (wpS_region ?_);have hsize:ops.size=l.length+1:=by rw [<- ac3,hol];rfl
 rw [hsize,List.range_eq_range',List.range'_succ];have ho0:ops[0]? = some o:=by rw [<- ab8,hol];rfl
 simp only [wpOpsS,ho0];have hwant:Region.wanted o (yielded ops (gvs.toArray++Array.replicate (m.n - gvs.toArray.size) undef))=true:=by simp [Region.wanted,hg]
 rw [if_pos hwant];rw [hrun];simp only []
 cases mode with
 | none=>
  have hu' : c₀.mode = .returning:=by rw [hu];exact hmode
  have:recoverD (c₀::cs)=none:=by simp [recoverD,hu']
  simp only [this];have:=final .nilIface .returning rfl (by simp [aD,E0,aI]);have ec:({ c₀ with mode:=.returning }:Frame)=c₀:=by rw [<- hu']
  rw [ec] at this;simpa using this
 | some d=>
  obtain ⟨v,hu2,hv2⟩:=hmode;have hu' : c₀.mode = .panicking [{ v:=v,recovered:=false }]:=by rw [hu];exact hu2
  have:recoverD (c₀::cs)=some (v,{ c₀ with mode:=.panicking [{ v:=v,recovered:=true }] }::cs):=by simp [recoverD,hu']
  simp only [this];have:=final v (.panicking [{ v:=v,recovered:=true }]) rfl hv2;simpa using this
def Io (P:Program) (res:List kp) (r:Dat) (e:ay) (st:St):Prop:=
 ((e = .normal\/e = .ret)/\st.defers=[]/\∃vs ds,resV st res=some vs/\fJ st.heap vs=some ds/\vD st.heap vs=true/\fZ ds=r)\/
 ∃mode g fs cs,((e = .normal\/e = .ret)/\mode=none\/∃d,e = .panic d/\mode=some d)/\st.defers=[.func g fs cs]/\
  uw P g (fs++cs) st.heap st.next mode fun h' nx'=>∃vs ds,resV { st with heap:=h',next:=nx' } res=some vs/\fJ h' vs=some ds/\vD h' vs=true/\fZ ds=r
theorem KQ {P:Program} {f:FuncId} {fs cs:Array Value} {w:World} (hb:mQ P f):(invoke (.fn (.func f) cs) fs).run P w = .ok (.enter f (fs++cs)) w:=by
 obtain ⟨fn,hf,hb,hn⟩:=hb;have hb' : fn.body.isNone=false:=by cases h:fn.body<;>simp [h] at hb ⊢
 simp only [invoke];unfold callFunc;rw [run_bind_ok (s:=program) (x:=P) (w':=w) rfl];simp only [hf,hn,hb',abG,if_false];rfl
theorem Came.weak {P:Program} {Q:ay->St->Prop} {c:Cx} {w0:World} {n:Nat} {gs:Fr} {e:Exit} {a:Act} {w:World} (h:Came P (fun e st=>∃st',(st' = st\/Weak st st')/\Q e st') Tree.done c w0 n gs e a w):Came P Q Tree.done c w0 n gs e a w:=by
 obtain ⟨c1,me,st1,e1',e2',e3',e4',e5',e6'⟩:=h;subst e3';simp only [WT] at e6';obtain ⟨st',B6,e6⟩:=e6';obtain ⟨c',k1,k2,k3,k5,e5⟩:∃c',c'.B=c1.B/\c'.J0=c1.J0/\c'.w=c1.w/\Keeps c1.w c1.w (Imm c1) (Imm c')/\Rel c' w0 n gs st' a:=by
  rcases B6 with rfl|B6
  ·exact ⟨c1,rfl,rfl,rfl,fun b o h=>⟨h,rfl⟩,e5'⟩
  ·exact e5'.weak B6
 have e4:bE c' e me:=by
  cases e<;>cases me<;>simp only [bE] at e4' ⊢<;>first|exact e4' | skip
  obtain ⟨v,h1,h2⟩:=e4';exact ⟨v,h1,by rw [k3];exact aI.keep k5 _ _ h2⟩
 exact ⟨c',me,st',k1.trans e1',k2.trans e2',k3,e4,e5,e6⟩
theorem uY {P:Program} {f:FuncId} {m:aP} (hf:az P f m) {args:List Dat} {r:Dat} (hn:Nat.ble args.length m.n=true)
  (h:WT P (fun e st=>∃st',(st' = st\/Weak st st')/\Io P m.res r e st') (exec m.code (pC args) Tree.done)):Ret P f args r:=by
 obtain ⟨fn,code,h1,h2,h0,h3,h4,h5⟩:=hf;intro w J vs hG hrel;refine calls_of_wp_defers h1 h2 ?_;rw [h3];refine Code.wp_mono ?_ (kF (plainW P) code m.code h5 (.inl rfl) Tree.done _ _ _ (Rel.init hG hrel (abA hn)) h);intro e a' w' YH;obtain ⟨c',me,st',e1,e2,e3,e4,e5,e6⟩:=YH.weak;subst e3;simp only [WT] at e6
 rcases e6 with ⟨g1,g2,vs',ds,g3,g4,g5,rfl⟩|⟨mode,g,fs,cs,hmode,hdef,YI⟩
 ·obtain ⟨v,hv1,hv2⟩:=B7 (P:=P) (w:=w) (J:=J) e5 h4 e1 e2 g3 g4 g5
  have hbel:Below w.heap.size w c'.w:=by have:=e5.hrel.below;rw [e1] at this;exact this
  have hd:a'.defers=[]:=by have:=e5.defers;rw [g2] at this;exact this
  have key:Leaves P fn a'.tmps (fun e w'=>∃v,e = .returned v/\aI w' (fun b o=>J b o\/(w.heap.size<=b/\b<w'.heap.size)) (fZ ds) v/\Below w.heap.size w w') a'.defers .returning c'.w:=by
   rw [hd];exact ⟨v,hv1,v,rfl,hv2,hbel⟩
  cases e with
  | normal=>exact key
  | ret=>exact key
  | exit id=>cases me<;>simp only [bE] at e4;simp at g1
  | goto l=>cases me<;>simp only [bE] at e4
  | panic ch=>cases me<;>simp only [bE] at e4;simp at g1
  | outgrown=>cases me<;>simp only [bE] at e4
 ·have hd:=e5.defers
  rw [hdef] at hd;obtain ⟨dd,ds',f',first,cap,us,ws,hd1,hd2,hd3,hd4,hd5,hd6⟩:=hd;simp only [V.func.injEq] at hd2;obtain ⟨rfl,rfl,rfl⟩:=hd2;simp only [cj] at hd6;subst hd6 hd3;have key:∀u,u≠.run->MW c' mode u->Leaves P fn a'.tmps (fun e w'=>∃v,e = .returned v/\aI w' (fun b o=>J b o\/(w.heap.size<=b/\b<w'.heap.size)) r v/\Below w.heap.size w w') a'.defers u c'.w:=by
   intro u hur hu;rw [hd1];refine leaves_cons hur (KQ YI.1) ?_;have hs:=YI.2 c' w (BV Fr.none st' a' e5.frK) (us++ws) u e5.heap e5.hrel (abu _) e5.W4 (hd4.append hd5) hu;rw [<- ac2] at hs;refine hs.mono ?_;rintro e u' w' ⟨c'',nx',v,pB,pJ,rfl,pH,pn,pF,rfl,hset,vs',ds,q1,q2,q3,rfl⟩;have r':=e5.Yz pF pH pn;simp only [hset];obtain ⟨v,hv1,hv2⟩:=B7 (P:=P) (w:=w) (J:=J) r' h4 (pB.trans e1) (pJ.trans e2) q1 q2 q3;have hbel:Below w.heap.size w c''.w:=by have:=pH.below;rw [pB,e1] at this;exact this
   exact ⟨v,hv1,v,rfl,hv2,hbel⟩
  cases e with
  | normal=>
   cases me<;>simp only [bE] at e4
   rcases hmode with ⟨_,rfl⟩|⟨d,hh,_⟩
   ·exact key .returning (by simp) rfl
   ·cases hh
  | ret=>
   cases me<;>simp only [bE] at e4
   rcases hmode with ⟨_,rfl⟩|⟨d,hh,_⟩
   ·exact key .returning (by simp) rfl
   ·cases hh
  | exit id=>cases me<;>simp only [bE] at e4;rcases hmode with ⟨hh,_⟩|⟨d,hh,_⟩<;>simp at hh
  | goto l=>cases me<;>simp only [bE] at e4
  | panic ch=>
   cases me<;>simp only [bE] at e4
   rename_i d0
   rcases hmode with ⟨hh,_⟩|⟨d,hh,rfl⟩
   ·simp at hh
   ·injection hh with hh;subst hh
    obtain ⟨v,rfl,hv⟩:=e4;exact key _ (by simp) ⟨v,rfl,hv⟩
  | outgrown=>cases me<;>simp only [bE] at e4
theorem qY {P:Program} {f:FuncId} {m:aP} (hf:az P f m) {args:List Dat} {r:Dat} (hn:Nat.ble args.length m.n=true)
  (h:WT P (Io P m.res r) (exec m.code (pC args) Tree.done)):Ret P f args r:=uY hf hn (WT.mono (fun e st h=>⟨st,.inl rfl,h⟩) _ h)
theorem uw.mono {P:Program} {f:FuncId} {vs:List V} {h:Heap} {nx:Nat} {mode:Option Dat} {Q Q' : Heap->Nat->Prop} (hs:uw P f vs h nx mode Q) (hq:∀h' nx',Q h' nx'->Q' h' nx'):uw P f vs h nx mode Q':=by
 refine ⟨hs.1,fun c w0 F gvs u h1 h2 h3 h4 h5 h6=>(hs.2 c w0 F gvs u h1 h2 h3 h4 h5 h6).mono ?_⟩;rintro e u' w' ⟨c',nx',v,e1,e2,e3,e4,e5,e6,e7,e8,e9⟩;exact ⟨c',nx',v,e1,e2,e3,e4,e5,e6,e7,e8,hq _ _ e9⟩
end Uw
namespace Uw
open Go Go.RowKit
variable [Glob]
end Uw
namespace Uw
open Go Go.RowKit
variable [Glob]
mutual
inductive DLe:Dat->Dat->Prop
 | refl (d:Dat):DLe d d
 | nil (k:Nat):DLe .nil (.slice k [] false)
 | slice {k:Nat} {xs ys:List (List Dat)} {z:Bool} (h:Gx xs ys):DLe (.slice k xs z) (.slice k ys false)
 | agg {cs ds:List Dat} (h:wF cs ds):DLe (.agg cs) (.agg ds)
 | tuple {cs ds:List Dat} (h:wF cs ds):DLe (.tuple cs) (.tuple ds)
inductive wF:List Dat->List Dat->Prop
 | refl (l:List Dat):wF l l
 | cons {a b:Dat} {as bs:List Dat} (h:DLe a b) (h2:wF as bs):wF (a::as) (b::bs)
inductive Gx:List (List Dat)->List (List Dat)->Prop
 | refl (l:List (List Dat)):Gx l l
 | cons {a b:List Dat} {as bs:List (List Dat)} (h:wF a b) (h2:Gx as bs):Gx (a::as) (b::bs)
end
mutual
theorem DLe.rel {w:World} {J:Nat->Nat->Prop}:∀{d d' : Dat},DLe d d'->∀{v:Value},aI w J d v->aI w J d' v
 | _,_,.refl d,v,r=>r
 | _,_,.nil k,v,r=>.inl ⟨⟨_,r,by simp⟩,rfl⟩
 | _,_,.slice h,v,.inl ⟨⟨x,r1,_⟩,r2⟩=>.inl ⟨⟨x,r1,by simp⟩,by subst r2;cases h;rfl⟩
 | _,_,.slice h,v,.inr ⟨b,o,cap,h1,h2,h3,h4⟩=>.inr ⟨b,o,cap,by rw [<- h.len];exact h1,by rw [<- h.len];exact h2,by simp,h.rel h4⟩
 | _,_,.agg h,v,⟨vs,h1,h2⟩=>⟨vs,h1,h.rel h2⟩
 | _,_,.tuple h,v,⟨vs,h1,h2⟩=>⟨vs,h1,h.rel h2⟩
theorem wF.rel {w:World} {J:Nat->Nat->Prop}:∀{d d' : List Dat},wF d d'->∀{vs:List Value},aT w J d vs->aT w J d' vs
 | _,_,.refl l,vs,r=>r
 | _,_,.cons h h2,vs,⟨v,vs',e1,e2,e3⟩=>⟨v,vs',e1,h.rel e2,h2.rel e3⟩
theorem wF.YJ {w:World} {J:Nat->Nat->Prop} {b:Nat}:∀{d d' : List Dat},wF d d'->∀{o:Nat},dB w J b o d->dB w J b o d'
 | _,_,.refl l,o,r=>r
 | _,_,.cons h h2,o,⟨⟨v,e1,e2,e3,e4⟩,e5⟩=>⟨⟨v,e1,e2,e3,h.rel e4⟩,h2.YJ e5⟩
theorem Gx.rel {w:World} {J:Nat->Nat->Prop} {b k:Nat}:∀{d d' : List (List Dat)},Gx d d'->∀{o:Nat},b8 w J b k o d->b8 w J b k o d'
 | _,_,.refl l,o,r=>r
 | _,_,.cons h h2,o,⟨e1,e2,e3⟩=>⟨by rw [<- h.len];exact e1,h.YJ e2,h2.rel e3⟩
theorem wF.len:∀{d d' : List Dat},wF d d'->d.length=d'.length
 | _,_,.refl l=>rfl
 | _,_,.cons h h2=>by simp [h2.len]
theorem Gx.len:∀{d d' : List (List Dat)},Gx d d'->d.length=d'.length
 | _,_,.refl l=>rfl
 | _,_,.cons h h2=>by simp [h2.len]
end
theorem Ret.args {P:Program} {f:FuncId} {ds ds' : List Dat} {r:Dat} (h:Ret P f ds' r) (hl:wF ds ds'):Ret P f ds r:=fun w J vs hg hr=>h w J vs hg (hl.rel hr)
theorem Ret.res {P:Program} {f:FuncId} {ds:List Dat} {r r' : Dat} (h:Ret P f ds r) (hl:DLe r r'):Ret P f ds r':=fun w J vs hg hr=>(h w J vs hg hr).mono (by
 rintro e w' ⟨v,e1,e2,e3⟩;exact ⟨v,e1,hl.rel e2,e3⟩)
theorem QO {P:Program} {Q:ay->St->Prop} {b:Bool} {y:Tree} (hb:b=true) (h1:WT P Q y):WT P Q (.test b y .fail):=⟨fun _=>h1,fun h=>(by rw [hb] at h;cases h)⟩
theorem Xp {P:Program} {Q:ay->St->Prop} {k:IntKind} {x:Int} {y n:Tree} (hb:inR k x=true) (h1:WT P Q y):WT P Q (.test (inR k x) y n):=⟨fun _=>h1,fun h=>(by rw [hb] at h;cases h)⟩
theorem qZ {ρ:Nat->Nat} {h h' : Heap} {b b' : Blk} (e:b=b'.ren ρ) (hc:b'.closed h' = true):pW ρ h h' b b':=by subst e;exact Ij hc
theorem Gy {ρ:Nat->Nat} {h h' : Heap} {k:IntKind} {a b:Int} (e:a=b):VW ρ h h' (.d (.int k a)) (.d (.int k b)):=by subst e;exact Or.inl ⟨rfl,rfl⟩
theorem KR {ρ:Nat->Nat} {h h' : Heap} {id ver off a b:Nat} (e:a=b) (hr:ρ id=id) (hc:(look h' id).isSome=true):VW ρ h h' (.ref id ver off a) (.ref id ver off b):=by subst e;exact Or.inl ⟨by rw [V.ren,hr],hc⟩
theorem QP {ρ:Nat->Nat} {h h' : Heap} {a b:List UInt8} (e:a=b):VW ρ h h' (.d (.str a)) (.d (.str b)):=by subst e;exact Or.inl ⟨rfl,rfl⟩
theorem Xq {α:Type} {g:α->List Dat} {l:List α} {n:Nat} {xs:List (List Dat)} (h1:n=xs.length) (h2:xs=l.map g):(xs.drop 0).take n=l.map g:=by subst h1;rw [abC,acg,h2]
theorem UC {α β:Type} (g:α->β) (l:List α) (k:Nat) (h:k<l.length):(l.map g)[k]? = some (g l[k]):=by simp [h]
end Uw
namespace Uw
open Go Go.RowKit Go.ChangeShapes Go.WideShapes Go.ChangeAt
variable [Glob]
theorem uZ {H:Type} {enc:TypeId×Value->H} {P:Program} {W W' : World} (hl:laidOutB P=true) (hb:Below W.heap.size W W'):∀{ts:List TypeId} {vs:List Value} {ds:List (DataW H)} {p:List MemPlace},
  (ts.all fun t=>P.readableRec t&&decide (t<P.types.size))=true->DataW.TrodAll enc P W 0 (fun _=>true) true ts vs ds p->(∀x∈p,x.block<W.heap.size)->DataW.TrodAll enc P W' 0 (fun b=>decide (b<W.heap.size)) true ts vs ds p
 | [],[],[],p,_,h,_=>h
 | t::ts,v::vs,d::ds,p,ht,⟨p1,q1,h1,h2,h3⟩,hlt=>by
  rw [ac8,abq,abq] at ht;subst h3;exact ⟨p1,q1,Below.trod hl ht.1.1 (of_decide_eq_true ht.1.2) h1 hb (fun x hx=>hlt x (by simp [hx])),uZ hl hb ht.2 h2 (fun x hx=>hlt x (by simp [hx])),rfl⟩
 | [],_::_,_,_,_,h,_=>h.elim
 | [],[],_::_,_,_,h,_=>h.elim
 | _::_,[],_,_,_,h,_=>h.elim
 | _::_,_::_,[],_,_,h,_=>h.elim
theorem KT {H:Type} {enc:TypeId×Value->H} {P:Program} {f:Func} {s:ChangeSpec} {apart fresh handsOn:Bool} {W W' : World} {args:Array Value} {v:Value} {ds gs:List (DataW H)} {before:List MemPlace} {tb:TypeId}
  (hl:laidOutB P=true) (hts:(f.params.toList.all fun t=>P.readableRec t&&decide (t<P.types.size))=true) (hrt:f.resultTypes = #[tb]) (htb:P.underlying tb=some .bool) (hvs:s.vars=[])
  (hW:DataW.Whole enc P f.params.toList s.vars apart W args.toList ds gs before) (hfn:s.fn H ds={ results:=[.lit (.bool true)],args:=ds }) (hb:Below W.heap.size W W') (hv:v = .bool true):s.post enc P f apart fresh handsOn false W args v W':=by
 have hW':=hW;obtain ⟨p,q,hA,hV,rfl,hfz,hnd⟩:=hW;rw [hvs] at hV;obtain ⟨rfl,rfl⟩:=trodVars_none hV;have hlt:∀x∈p,x.block<W.heap.size:=fun x hx=>by simpa using hW'.lt x (by simpa using hx)
 subst hv;refine ⟨ds,[],p++[],[],p,[],hW',?_,?_,?_,?_,by simp⟩
 ·rw [acJ,hfn,hrt]
  exact trodAll_cons_mk (shut_bool htb _) trodAll_mk0
 ·rw [acJ,hfn]
  exact uZ hl hb hts hA hlt
 ·rw [hvs,acJ,hfn]
  rfl
 ·exact World.keptBut_mono (fun _ h=>h.elim) (hb.frame (fun _=>False))
end Uw
namespace Uw
open Go Go.RowKit
variable [Glob]
inductive Ty where
 | bool
 | int (k:IntKind)
 | str
 | slice (n:Nat) (e:Ty)
 | struct (fs:List Ty)
mutual
def u0:Ty->List Dat->Prop
 | .bool,ds=>∃b,ds=[.bool b]
 | .int k,ds=>∃n,ds=[.int k n]/\(Lit.int k n).wf=true
 | .str,ds=>∃s:List UInt8,ds=[.str s]/\s.length<=reachBytes
 | .slice n e,ds=>∃xs:List (List Dat),ds=[.slice n xs false]/\xs.length<=reachBytes/\∀x,x∈xs->u0 e x
 | .struct fs,ds=>Gz fs ds
def Gz:List Ty->List Dat->Prop
 | [],ds=>ds=[]
 | t::ts,ds=>∃a b,ds=a++b/\u0 t a/\Gz ts b
end
def QQ (P:Program) (f:TypeId->Option Ty) (total:Nat):Nat->List Field->Option (List Ty)
 | off,[]=>match Nat.beq off total with|true=>some []|false=>none
 | off,fd::r=>match Nat.beq fd.offset off,f fd.type,QQ P f total (off+P.cellsOf fd.type) r with
  | true,some s,some l=>some (s::l)
  | _,_,_=>none
def KU (P:Program):Nat->TypeId->Option Ty
 | 0,_=>none
 | n+1,t=>match P.underlying t with
  | some .bool=>some .bool
  | some (.int k)=>some (.int k)
  | some .string=>some .str
  | some (.slice e)=>match KU P n e,Nat.blt 0 (P.cellsOf e)&&Nat.blt 0 (P.bytesOf e) with
   | some s,true=>some (.slice (P.cellsOf e) s)
   | _,_=>none
  | some (.struct fs)=>(QQ P (KU P n) (P.cellsOf t) 0 fs.toList).map Ty.struct
  | some (.array m e)=>match KU P n e,Nat.beq (P.cellsOf t) (m * P.cellsOf e) with
   | some s,true=>some (.struct (List.replicate m s))
   | _,_=>none
  | _=>none
abbrev ux:Nat->Nat->Prop:=fun _ _=>True
theorem aT.GF {w:World} {J:Nat->Nat->Prop}:∀{a b:List Dat} {u v:List Value},aT w J a u->aT w J b v->aT w J (a++b) (u++v)
 | [],b,u,v,h1,h2=>by simp only [aT] at h1;subst h1;simpa using h2
 | x::a,b,u,v,⟨y,us,e,h1,h3⟩,h2=>by subst e;exact ⟨y,us++v,rfl,h1,aT.GF h3 h2⟩
theorem dB.ofL {w:World} {b:Nat}:∀{ds:List Dat} {cs:List Value} {o:Nat},aT w ux ds cs->(∀v∈cs,one v=true)->(∀j v,cs[j]? = some v->w.cell? ⟨b,o+j,none⟩=some v)->dB w ux b o ds
 | [],cs,o,_,_,_=>by simp [dB]
 | d::ds,cs,o,⟨v,vs,e,h1,h2⟩,h3,h4=>by
  subst e;refine ⟨⟨v,by simpa using h4 0 v rfl,trivial,h3 v (by simp),h1⟩,dB.ofL h2 (fun u hu=>h3 u (by simp [hu])) (fun j u hu=>?_)⟩;have:=h4 (j+1) u (by simpa using hu);rw [show o+1+j=o+(j+1) by omega];exact this
theorem b8.of {w:World} {b k:Nat}:∀{xs:List (List Dat)} {o:Nat},(∀i x,xs[i]? = some x->x.length=k/\dB w ux b (o+i * k) x)->b8 w ux b k o xs
 | [],o,_=>by simp [b8]
 | x::xs,o,h=>by
  have h0:=h 0 x rfl;refine ⟨h0.1,by simpa using h0.2,b8.of (fun i y hy=>?_)⟩;have:=h (i+1) y (by simpa using hy);rw [show o+k+i * k=o+(i+1) * k by rw [abK];omega];exact this
theorem zB {α:Type} {Q:Nat->α->Prop}:∀(n:Nat),(∀i,i<n->∃x,Q i x)->∃xs:List α,xs.length=n/\∀i x,xs[i]? = some x->Q i x
 | 0,_=>⟨[],rfl,by simp⟩
 | n+1,h=>by
  obtain ⟨xs,h1,h2⟩:=zB n (fun i hi=>h i (by omega));obtain ⟨x,hx⟩:=h n (by omega);refine ⟨xs++[x],by simp [h1],fun i y hy=>?_⟩;by_cases hi:i<n
  ·rw [ach (by omega)] at hy;exact h2 i y hy
  ·rw [acf (by omega)] at hy
   have:i=n:=by
    have:=(abQ.1 hy).1;simp at this;omega
   subst this;simp [h1] at hy;subst hy;exact hx
theorem yT {w:World} {a:Addr} {n:Nat} {cs:List Value} (h:w.cells? 0 a n=some cs):cs.length=n/\∀j v,cs[j]? = some v->w.cell? (a.add j)=some v:=by
 unfold World.cells? at h;rw [if_pos (by omega)] at h;refine ⟨by simpa using mapM_some_length h,fun j v hv=>?_⟩;have hj:j<n:=by have:=(abQ.1 hv).1;rw [mapM_some_length h] at this;simpa using this
 have:=mapM_some_get h j j (by simp [hj]);rw [this,hv]
theorem GG {w:World} {a:Addr} {v:Value} (h:w.cell? a=some v):a.spot=none:=by
 unfold World.cell? at h
 split at h
 ·split at h
  ·cases h
  ·rename_i hs;simpa using hs
 ·cases h
theorem B8 {H:Type} {enc:TypeId×Value->H} {P:Program} {w:World} {m total:Nat} {g:TypeId->Option Ty} {cs:List Value} (hcs:cs.length=total)
  (ih:∀t s cs x,g t=some s->DataW.trod enc P w 0 (fun _=>true) true m t cs=some x->(∀n∈x.1.weights P t,n<=reachBytes)->∃ds,u0 s ds/\aT w ux ds cs/\∀v∈cs,one v=true) :
  ∀(fs:List Field) (off:Nat) (ts:List Ty),QQ P g total off fs=some ts->(∀f∈fs,∃x,DataW.trod enc P w 0 (fun _=>true) true m f.type ((cs.drop f.offset).take (P.cellsOf f.type))=some x/\∀n∈x.1.weights P f.type,n<=reachBytes)->
   ∃ds,Gz ts ds/\aT w ux ds (cs.drop off)/\∀v∈cs.drop off,one v=true
 | [],off,ts,h,_=>by
  simp only [QQ] at h
  split at h
  ·rename_i hb
   have hb:=abr hb;simp at h;subst h;have:cs.drop off=[]:=adX (by omega);exact ⟨[],rfl,by rw [this];rfl,by rw [this];simp⟩
  ·cases h
 | f::fs,off,ts,h,hx=>by
  simp only [QQ] at h
  split at h
  ·rename_i s l h1 h2 h3
   have h1:=abr h1;simp at h;subst h;obtain ⟨x,hx0,hxw⟩:=hx f (by simp);obtain ⟨ds,d1,d2,d3⟩:=ih f.type s _ x h2 hx0 hxw;obtain ⟨es,e1,e2,e3⟩:=B8 hcs ih fs (off+P.cellsOf f.type) l h3 (fun f' hf'=>hx f' (by simp [hf']));rw [h1] at d2 d3;have hsp:cs.drop off=(cs.drop off).take (P.cellsOf f.type)++cs.drop (off+P.cellsOf f.type):=by
    rw [<- ac6,acE]
   refine ⟨ds++es,⟨ds,es,rfl,d1,e1⟩,?_,?_⟩
   ·rw [hsp];exact aT.GF d2 e2
   ·rw [hsp];intro v hv
    rcases abM.1 hv with hv|hv
    ·exact d3 v hv
    ·exact e3 v hv
  ·cases h
theorem E1 {w:World} {s:Ty} {k:Nat}:∀(n:Nat) (cs:List Value),cs.length=n * k->(∀i,i<n->∃ds,u0 s ds/\aT w ux ds ((cs.drop (i * k)).take k)/\∀v∈(cs.drop (i * k)).take k,one v=true)->
   ∃ds,Gz (List.replicate n s) ds/\aT w ux ds cs/\∀v∈cs,one v=true
 | 0,cs,h,_=>by
  have:cs=[]:=abz (by simpa using h);subst this;exact ⟨[],rfl,rfl,by simp⟩
 | n+1,cs,h,hx=>by
  obtain ⟨ds,d1,d2,d3⟩:=hx 0 (by omega);simp only [adw,abC] at d2 d3;obtain ⟨es,e1,e2,e3⟩:=E1 (k:=k) n (cs.drop k) (by rw [List.length_drop,h,abK];omega) (fun i hi=>by
   have:=hx (i+1) (by omega);rw [show (i+1) * k=k+i * k by rw [abK];omega,<- ac6] at this;exact this)
  refine ⟨ds++es,by rw [acB];exact ⟨ds,es,rfl,d1,e1⟩,?_,?_⟩
  ·have:=aT.GF d2 e2
   rwa [acE] at this
  ·intro v hv
   rw [<- acE k cs] at hv
   rcases abM.1 hv with hv|hv
   ·exact d3 v hv
   ·exact e3 v hv
theorem weightsAll_mem {H:Type} {P:Program} {e:TypeId}:∀{l:List (DataW H)} {i:Nat} {d:DataW H},l[i]? = some d->∀n∈d.weights P e,n∈DataW.weightsAll P e l
 | [],i,d,h,n,hn=>by simp at h
 | x::l,0,d,h,n,hn=>by simp at h;subst h;simp [DataW.weightsAll,hn]
 | x::l,i+1,d,h,n,hn=>by
  simp at h;simp only [DataW.weightsAll,abM];exact .inr (weightsAll_mem h n hn)
theorem QS {H:Type} {enc:TypeId×Value->H} {P:Program} {w:World}:∀(fuel n:Nat) (t:TypeId) (s:Ty) (cs:List Value) (x:DataW H×List MemPlace),KU P n t=some s->DataW.trod enc P w 0 (fun _=>true) true fuel t cs=some x->(∀n∈x.1.weights P t,n<=reachBytes)->
  ∃ds,u0 s ds/\aT w ux ds cs/\∀v∈cs,one v=true:=by
 intro fuel
 induction fuel with
 | zero=>intro n t s cs x _ h _;simp [DataW.trod] at h
 | succ m ih=>
  intro n t s cs x hs h hwt
  cases n with
  | zero=>simp [KU] at hs
  | succ n=>
   simp only [KU] at hs
   split at hs
   ·rename_i hu
    simp at hs;subst hs;obtain ⟨b,rfl,_⟩:=DataW.trod_bool hu h;exact ⟨[.bool b],⟨b,rfl⟩,⟨_,[],rfl,rfl,rfl⟩,by simp [one]⟩
   ·rename_i k hu
    simp at hs;subst hs;obtain ⟨z,rfl,_,hw⟩:=DataW.trod_int hu h;exact ⟨[.int k z],⟨z,rfl,hw⟩,⟨_,[],rfl,rfl,rfl⟩,by simp [one]⟩
   ·rename_i hu
    simp at hs;subst hs;obtain ⟨b,rfl,rfl,hw⟩:=DataW.trod_string hu h;refine ⟨[.str b.data.toList],⟨_,rfl,hwt _ (by simp [DataW.weights])⟩,⟨_,[],rfl,?_,rfl⟩,by simp [one]⟩;show Value.string b = .string ⟨b.data.toList.toArray⟩;simp
   ·rename_i e hu
    split at hs
    ·rename_i s' h1 h2
     simp at hs;subst hs;rw [abq] at h2;have hk:0<P.cellsOf e:=by simpa using h2.1
     have hby:0<P.bytesOf e:=by simpa using h2.2
     rcases DataW.trod_slice hu h with ⟨rfl,_⟩|⟨a,len,cap,elems,rest,n',hn',rfl,rfl,_,hl,hm,hlen,hel,hsp,_⟩
     ·exact ⟨[.slice (P.cellsOf e) [] false],⟨[],rfl,by simp,by simp⟩,⟨_,[],rfl,.inl ⟨⟨_,rfl,by simp⟩,rfl⟩,rfl⟩,by simp [one]⟩
     ·have hn' : n' = m:=by omega
      subst hn';have hlr:len<=reachBytes:=by
       have:=hwt (((elems.map (·.1)).length+(rest.map (·.1)).length) * P.bytesOf e) (by simp [DataW.weights,hu]);have h3:=acd ((elems.map (·.1)).length+(rest.map (·.1)).length) hby
       simp only [acI] at this h3;omega
      obtain ⟨hrl,hre⟩:=hsp rfl;have spot:cap≠0->a.spot=none:=by
       intro hc;have h0:∃y,(w.cells? 0 (a.add (0 * P.cellsOf e)) (P.cellsOf e)).bind (DataW.trod enc P w 0 (fun _=>true) true n' e)=some y:=by
        by_cases hl0:0<len
        ·exact ⟨elems[0]'(by omega),by rw [hel 0 hl0,abv]⟩
        ·have:len=0:=by omega
         subst this;have:=hre 0 (by omega);simp only [abJ] at this;exact ⟨rest[0]'(by omega),by rw [this,abv]⟩
       obtain ⟨y,hy⟩:=h0;rw [adW] at hy;obtain ⟨cs',hc1,_⟩:=hy;obtain ⟨g1,g2⟩:=yT hc1;have:=g2 0 (cs'[0]'(by omega)) (by rw [abv]);simp [Addr.add] at this;exact GG this
      have each:∀i,i<len->∃ds:List Dat,(u0 s' ds/\ds.length=P.cellsOf e)/\∃cs',w.cells? 0 (a.add (i * P.cellsOf e)) (P.cellsOf e)=some cs'/\aT w ux ds cs'/\∀v∈cs',one v=true:=by
       intro i hi;have:=hel i hi;rw [abv (by omega),adW] at this;obtain ⟨cs',hc1,hc2⟩:=this;obtain ⟨ds,d1,d2,d3⟩:=ih n e s' cs' _ h1 hc2 (fun q hq=>hwt q (by
        simp only [DataW.weights,hu,abY,abM];exact .inr (.inl (weightsAll_mem (i:=i) (by simp [abv (show i<elems.length by omega)]) q hq))))
       exact ⟨ds,⟨d1,by rw [<- aT.length d2];exact (yT hc1).1⟩,cs',hc1,d2,d3⟩
      obtain ⟨xs,hx1,hx2⟩:=zB len each;refine ⟨[.slice (P.cellsOf e) xs false],⟨xs,rfl,by omega,fun x hx=>?_⟩,⟨_,[],rfl,?_,rfl⟩,by simp [one]⟩
      ·obtain ⟨i,hi,he⟩:=ace.1 hx
       exact (hx2 i x (by rw [abv hi,he])).1.1
      ·by_cases hc:cap=0
       ·have hl0:len=0:=by omega
        have:xs=[]:=abz (by omega);subst this hc hl0;exact .inl ⟨⟨_,rfl,by simp⟩,rfl⟩
       ·obtain ⟨b,o,sp⟩:=a
        have hspot:sp=none:=spot hc;subst hspot;refine .inr ⟨b,o,cap,by rw [hx1],by omega,by simp,b8.of (fun i y hy=>?_)⟩;obtain ⟨⟨_,y1⟩,cs',y2,y3,y4⟩:=hx2 i y hy;refine ⟨y1,dB.ofL y3 y4 (fun j v hv=>?_)⟩;have:=(yT y2).2 j v hv;rw [addr_add,addr_add] at this;exact this
    ·cases hs
   ·rename_i fs hu
    rw [abx] at hs;obtain ⟨ts,hts,rfl⟩:=hs;obtain ⟨xs,n',hn',rfl,hl,hxl,hx⟩:=DataW.trod_struct hu h;have hn' : n' = m:=by omega
    subst hn';have:=B8 (enc:=enc) (P:=P) (w:=w) (m:=n') hl (fun t s cs x hg ht hq=>ih n t s cs x hg ht hq) fs.toList 0 ts hts (fun f hf=>by
     obtain ⟨i,hi,he⟩:=ace.1 hf;have hi' : i<fs.size:=by simpa using hi
     have:=hx i f (by rw [<- he];simp [hi']);rw [abv (by omega)] at this;refine ⟨_,this,fun q hq=>hwt q ?_⟩;simp only [DataW.weights,hu];exact DataW.weights_mem_each (j:=i) (t:=f.type) (by rw [abT,abv hi,he];rfl) (by rw [abT,abv (by omega)];rfl) q hq)
    simpa [u0] using this
   ·rename_i k e hu
    split at hs
    ·rename_i s' h1 h2
     simp at hs;subst hs;have h2:=abr h2;obtain ⟨xs,n',hn',rfl,hl,hxl,hx⟩:=DataW.trod_array hu h;have hn' : n' = m:=by omega
     subst hn';have:=E1 (w:=w) (s:=s') (k:=P.cellsOf e) k cs (by rw [hl,h2]) (fun i hi=>by
      have:=hx i hi;rw [abv (by omega)] at this;exact ih n e s' _ _ h1 this (fun q hq=>hwt q (by
       simp only [DataW.weights,hu];exact weightsAll_mem (i:=i) (by rw [abT,abv (by omega)];rfl) q hq)))
     simpa [u0] using this
    ·cases hs
   ·cases hs
theorem QT {H:Type} {enc:TypeId×Value->H} {P:Program} {w:World} {v:Value} {t:TypeId} {n:Nat} {s:Ty} {d:DataW H} {ps:List MemPlace} (hs:KU P n t=some s) (h:DataW.Trod enc P w 0 (fun _=>true) true t v d ps) (hw:∀n∈d.weights P t,n<=reachBytes) :
  ∃ds,u0 s ds/\aT w ux ds v.cells.toList:=by
 obtain ⟨fuel,h⟩:=h;obtain ⟨ds,h1,h2,_⟩:=QS fuel n t s _ _ hs h hw;exact ⟨ds,h1,h2⟩
theorem OC {H:Type} {P:Program} {ts:List TypeId} {ds:List (DataW H)} (h:(DataW.weightsEach P ts ds).all (·<=reachBytes)=true) (j:Nat) {t:TypeId} {d:DataW H} (ht:ts[j]? = some t) (hd:ds[j]? = some d):∀n∈d.weights P t,n<=reachBytes:=fun n hn=>by
 have:=aby.1 h n (DataW.weights_mem_each ht hd n hn);simpa using this
theorem QU:reachBytes<140737488355328:=by decide
theorem A8 {α β:Type} {f:α->β} {Q:α->Prop}:∀{xs:List β},(∀x∈xs,∃a,x=f a/\Q a)->∃l:List α,xs=l.map f/\∀a∈l,Q a
 | [],_=>⟨[],rfl,by simp⟩
 | x::xs,h=>by
  obtain ⟨a,h1,h2⟩:=h x (by simp);obtain ⟨l,h3,h4⟩:=A8 (xs:=xs) (fun y hy=>h y (by simp [hy]));exact ⟨a::l,by simp [h1,h3],fun b hb=>by
   rcases abY.1 hb with rfl|hb
   ·exact h2
   ·exact h4 b hb⟩
theorem KW {P:Program} {w w' : World} {r:Reach} {b:Nat} {t:TypeId} {fs:Array Field} {v:Value} {ds:List Dat} (ht:P.underlying t=some (.struct fs)) (hval:Value.okWide P w r b t v) (h:aT w' ux ds v.cells.toList):aI w' ux (.agg ds) v:=by
 unfold Value.okWide at hval;rw [ht] at hval;obtain ⟨cs,rfl,_⟩:=hval;exact ⟨cs.toList,by simp,by simpa [Value.cells] using h⟩
def E2 (P:Program) (t:TypeId):Bool:=
 match P.underlying t with
 | some (.struct _)=>true
 | _=>false
theorem Ip {P:Program} {w w' : World} {r:Reach} {b:Nat} {t:TypeId} {v:Value} {ds:List Dat} (ht:E2 P t=true) (hval:Value.okWide P w r b t v) (h:aT w' ux ds v.cells.toList):aI w' ux (.agg ds) v:=by
 unfold E2 at ht
 split at ht
 ·rename_i fs hu;exact KW hu hval h
 ·cases ht
end Uw
namespace Uw
open Go Go.Lib
theorem yU (s:List UInt8) (i:Nat) (b:UInt8) (h:s[i]? = some b):(⟨s.toArray⟩:ByteArray).get! i=b:=by
 show s.toArray[i]! = b;rw [getElem!_def];simp [h]
theorem E3 (s:List UInt8) (pos:Nat):bL s pos=decodeN (s.length - pos) ((⟨s.toArray⟩:ByteArray).get! pos).toNat ((⟨s.toArray⟩:ByteArray).get! (pos+1)).toNat ((⟨s.toArray⟩:ByteArray).get! (pos+2)).toNat ((⟨s.toArray⟩:ByteArray).get! (pos+3)).toNat:=by
 rw [EE,decode_at];rfl
theorem vF (s:List UInt8) (pos:Nat) (b:UInt8) (h:s[pos]? = some b) (hb:b.toNat<128):bL s pos=(b.toNat,1):=by
 rw [E3,yU s pos b h,decodeN,if_pos hb]
theorem GH (n b0 b1 b2 b3:Nat) (h:128<=b0) (hb:b0<256):128<=(decodeN n b0 b1 b2 b3).1/\(decodeN n b0 b1 b2 b3).1<=1114111/\1<=(decodeN n b0 b1 b2 b3).2:=by
 unfold decodeN
 repeat' split
 all_goals (simp only;omega)
theorem zC (s:List UInt8) (pos:Nat) (b:UInt8) (h:s[pos]? = some b) (hb:128<=b.toNat) :
  128<=(bL s pos).1/\(bL s pos).1<=1114111/\1<=(bL s pos).2/\pos+(bL s pos).2<=s.length/\∀j,j<(bL s pos).2->∃c,s[pos+j]? = some c/\128<=c.toNat:=by
 have hlt:pos<s.length:=by
  rcases acp pos s.length with h1|h1
  ·exact h1
  ·rw [abE h1] at h;cases h
 have hg:=yU s pos b h;rw [E3,hg];have h1:=GH (s.length - pos) b.toNat ((⟨s.toArray⟩:ByteArray).get! (pos+1)).toNat ((⟨s.toArray⟩:ByteArray).get! (pos+2)).toNat ((⟨s.toArray⟩:ByteArray).get! (pos+3)).toNat hb b.toNat_lt;have h2:=decodeN_conts (s.length - pos) b.toNat ((⟨s.toArray⟩:ByteArray).get! (pos+1)).toNat ((⟨s.toArray⟩:ByteArray).get! (pos+2)).toNat ((⟨s.toArray⟩:ByteArray).get! (pos+3)).toNat;generalize decodeN (s.length - pos) b.toNat ((⟨s.toArray⟩:ByteArray).get! (pos+1)).toNat ((⟨s.toArray⟩:ByteArray).get! (pos+2)).toNat ((⟨s.toArray⟩:ByteArray).get! (pos+3)).toNat=r at h1 h2;obtain ⟨r1,r2⟩:=r;simp only at h1 h2 ⊢;obtain ⟨a1,a2,a3⟩:=h1;obtain ⟨c1,c2,c3,c4⟩:=h2;refine ⟨a1,a2,a3,by omega,fun j hj=>?_⟩;have hjl:pos+j<s.length:=by omega
 refine ⟨s[pos+j],by simp [hjl],?_⟩;have hgj:=yU s (pos+j) s[pos+j] (by simp [hjl])
 rcases j with _|_|_|_|j
 ·have:s[pos+0]=b:=by
   have:=h;rw [abv hlt] at this;simpa using this
  rw [this];exact hb
 ·have:=(c1 (by omega)).1;rw [hgj] at this;omega
 ·have:=(c2 (by omega)).1;rw [hgj] at this;omega
 ·have:=(c3 (by omega)).1;rw [hgj] at this;omega
 ·omega
end Uw
namespace Uw
open Go
variable [Glob]
section
variable {P : Program} {Q : ay -> St -> Prop} {p q : Prop} [Decidable p] [Decidable q] {b : Bool} {y n : Tree}
theorem KX (h1:p->WT P Q y) (h2:¬p->WT P Q n):WT P Q (.test (decide p) y n):=⟨fun h=>h1 (of_decide_eq_true h),fun h=>h2 (of_decide_eq_false h)⟩
theorem UD (h1:¬p->WT P Q y) (h2:p->WT P Q n):WT P Q (.test (!decide p) y n):=⟨fun h=>h1 (by simpa using h),fun h=>h2 (by simpa using h)⟩
theorem GI (h1:p->WT P Q y) (h2:¬p->WT P Q n):WT P Q (.test (decide p == true) y n):=⟨fun h=>h1 (by simpa using h),fun h=>h2 (by simpa using h)⟩
theorem GK (h1:¬p->WT P Q y) (h2:p->WT P Q n):WT P Q (.test (decide p == false) y n):=⟨fun h=>h1 (by simpa using h),fun h=>h2 (by simpa using h)⟩
theorem B9 (h1:¬p->WT P Q y) (h2:p->WT P Q n):WT P Q (.test ((!decide p) == true) y n):=⟨fun h=>h1 (by simpa using h),fun h=>h2 (by simpa using h)⟩
theorem Cc (h1:p->WT P Q y) (h2:¬p->WT P Q n):WT P Q (.test ((!decide p) == false) y n):=⟨fun h=>h1 (by simpa using h),fun h=>h2 (by simpa using h)⟩
theorem QV (h1:b=true->WT P Q y) (h2:b=false->WT P Q n):WT P Q (.test (b == true) y n):=⟨fun h=>h1 (by simpa using h),fun h=>h2 (by simpa using h)⟩
theorem QW (h1:b=false->WT P Q y) (h2:b=true->WT P Q n):WT P Q (.test (b == false) y n):=⟨fun h=>h1 (by simpa using h),fun h=>h2 (by simpa using h)⟩
theorem QX (h1:b=false->WT P Q y) (h2:b=true->WT P Q n):WT P Q (.test (!b) y n):=⟨fun h=>h1 (by simpa using h),fun h=>h2 (by simpa using h)⟩
theorem YK (hb:b=true) (h1:WT P Q y):WT P Q (.test b y n):=⟨fun _=>h1,fun h=>(by rw [hb] at h;cases h)⟩
theorem Xr (hp:p) (h1:WT P Q y):WT P Q (.test (decide p) y n):=⟨fun _=>h1,fun h=>absurd hp (of_decide_eq_false h)⟩
theorem YL (hp:¬p) (h1:WT P Q n):WT P Q (.test (decide p) y n):=⟨fun h=>absurd (of_decide_eq_true h) hp,fun _=>h1⟩
theorem UE (hp:¬p) (h1:WT P Q y):WT P Q (.test (!decide p) y n):=⟨fun _=>h1,fun h=>absurd (by simpa using h) hp⟩
theorem Xt (hp:p) (h1:WT P Q n):WT P Q (.test (!decide p) y n):=⟨fun h=>absurd hp (by simpa using h),fun _=>h1⟩
theorem YM (hp:p) (h1:WT P Q y):WT P Q (.test (decide p == true) y n):=GI (fun _=>h1) (fun h=>absurd hp h)
theorem YN (hp:¬p) (h1:WT P Q n):WT P Q (.test (decide p == true) y n):=GI (fun h=>absurd h hp) (fun _=>h1)
theorem YO (hp:¬p) (h1:WT P Q y):WT P Q (.test (decide p == false) y n):=GK (fun _=>h1) (fun h=>absurd h hp)
theorem YP (hp:p) (h1:WT P Q n):WT P Q (.test (decide p == false) y n):=GK (fun h=>absurd hp h) (fun _=>h1)
theorem Xu (hp:¬p) (h1:WT P Q y):WT P Q (.test ((!decide p) == true) y n):=B9 (fun _=>h1) (fun h=>absurd h hp)
theorem Xv (hp:p) (h1:WT P Q n):WT P Q (.test ((!decide p) == true) y n):=B9 (fun h=>absurd hp h) (fun _=>h1)
theorem Xw (hp:p) (h1:WT P Q y):WT P Q (.test ((!decide p) == false) y n):=Cc (fun _=>h1) (fun h=>absurd hp h)
theorem Xx (hp:¬p) (h1:WT P Q n):WT P Q (.test ((!decide p) == false) y n):=Cc (fun h=>absurd h hp) (fun _=>h1)
theorem Xy (hb:b=true) (h1:WT P Q y):WT P Q (.test (b == true) y n):=QV (fun _=>h1) (fun h=>(by rw [hb] at h;cases h))
theorem Xz (hb:b=false) (h1:WT P Q n):WT P Q (.test (b == true) y n):=QV (fun h=>(by rw [hb] at h;cases h)) (fun _=>h1)
theorem XA (hb:b=false) (h1:WT P Q y):WT P Q (.test (b == false) y n):=QW (fun _=>h1) (fun h=>(by rw [hb] at h;cases h))
theorem XB (hb:b=true) (h1:WT P Q n):WT P Q (.test (b == false) y n):=QW (fun h=>(by rw [hb] at h;cases h)) (fun _=>h1)
theorem XC (hb:b=false) (h1:WT P Q y):WT P Q (.test (!b) y n):=QX (fun _=>h1) (fun h=>(by rw [hb] at h;cases h))
theorem XD (hb:b=true) (h1:WT P Q n):WT P Q (.test (!b) y n):=QX (fun h=>(by rw [hb] at h;cases h)) (fun _=>h1)
theorem E4 (hp:p/\q) (h1:WT P Q y):WT P Q (.test (decide p&&decide q) y n):=⟨fun _=>h1,fun h=>(by simp [hp.1,hp.2] at h)⟩
theorem XE {x:Int} (hp : -9223372036854775808<=x/\x<9223372036854775808) (h1:WT P Q y):WT P Q (.test (inR .i64 x) y n):=⟨fun _=>h1,fun h=>(by simp [inR,hp.1,hp.2] at h)⟩
theorem UF {α β:Type} {g:α->β} {l:List α} {k:Nat} (h1:k<l.length->WT P Q y) (h2:¬k<l.length->WT P Q n):WT P Q (.test (decide ((k:Int)<((l.map g).length:Nat))) y n):=KX (fun h=>h1 (by simpa using h)) (fun h=>h2 (by simpa using h))
theorem XF {α β:Type} {g:α->β} {l:List α} {k:Nat} (hk:k<l.length) (h1:WT P Q y):WT P Q (.test (decide ((0:Int)<=(k:Int))&&decide ((k:Int)<((l.map g).length:Nat))) y n):=E4 ⟨by omega,by simpa using hk⟩ h1
theorem XG {α:Type} {l:List α} {k:Nat} (hk:k<l.length) (h1:WT P Q y):WT P Q (.test (decide ((0:Int)<=(k:Int))&&decide ((k:Int)<(l.length:Nat))) y n):=E4 ⟨by omega,by simpa using hk⟩ h1
theorem KY {α:Type} {g:α->List Dat} {l:List α} {k:Nat} {t:List Dat->Tree} (hk:k<l.length) (h1:WT P Q (t (g l[k]))):WT P Q (.elem (l.map g) (k:Int).toNat t):=aF _ (by simp [hk]) h1
theorem KZ {s:List UInt8} {k:Nat} {t:UInt8->Tree} (hk:k<s.length) (h1:WT P Q (t s[k])):WT P Q (.byte s (k:Int).toNat t):=A5 _ (by simp [hk]) h1
theorem QY {α β:Type} {g:α->β} {l:List α} {k:Nat} (h1:k+1<l.length->WT P Q y) (h2:¬k+1<l.length->WT P Q n):WT P Q (.test (decide ((k:Int)+1<((l.map g).length:Nat))) y n):=KX (fun h=>h1 (by simp at h;omega)) (fun h=>h2 (by simp at h;omega))
theorem XH {α:Type} {l:List α} {k:Nat} (hk:k+1<l.length) (h1:WT P Q y):WT P Q (.test (decide ((0:Int)<=(k:Int)+1)&&decide ((k:Int)+1<(l.length:Nat))) y n):=E4 ⟨by omega,by omega⟩ h1
theorem UG {α β:Type} {g:α->β} {l:List α} {k:Nat} (hk:k+1<l.length) (h1:WT P Q y):WT P Q (.test (decide ((0:Int)<=(k:Int)+1)&&decide ((k:Int)+1<((l.map g).length:Nat))) y n):=E4 ⟨by omega,by simp;omega⟩ h1
theorem UH {α:Type} {g:α->List Dat} {l:List α} {k:Nat} {t:List Dat->Tree} (hk:k+1<l.length) (h1:WT P Q (t (g l[k+1]))):WT P Q (.elem (l.map g) ((k:Int)+1).toNat t):=KY (k:=k+1) hk h1
theorem UI {s:List UInt8} {k:Nat} {t:UInt8->Tree} (hk:k+1<s.length) (h1:WT P Q (t s[k+1])):WT P Q (.byte s ((k:Int)+1).toNat t):=KZ (k:=k+1) hk h1
theorem UJ {s:List UInt8} {t:UInt8->Tree} (hk:0<s.length) (h1:WT P Q (t s[0])):WT P Q (.byte s (0:Int).toNat t):=KZ (k:=0) hk h1
theorem UK {α:Type} {g:α->List Dat} {l:List α} {t:List Dat->Tree} (hk:0<l.length) (h1:WT P Q (t (g l[0]))):WT P Q (.elem (l.map g) (0:Int).toNat t):=KY (k:=0) hk h1
theorem XI {α:Type} {l:List α} (hk:0<l.length) (h1:WT P Q y):WT P Q (.test (decide ((0:Int)<=0)&&decide ((0:Int)<(l.length:Nat))) y n):=E4 ⟨by omega,by omega⟩ h1
theorem UL {α β:Type} {g:α->β} {l:List α} (hk:0<l.length) (h1:WT P Q y):WT P Q (.test (decide ((0:Int)<=0)&&decide ((0:Int)<((l.map g).length:Nat))) y n):=E4 ⟨by omega,by simp;omega⟩ h1
theorem UM {s:List UInt8} {k:Nat} {t:UInt8->Tree} (hk:k<s.length) (h1:WT P Q (t s[k])):WT P Q (.byte s k t):=A5 _ (by simp [hk]) h1
end
end Uw
namespace Uw
open Go Go.RowKit
variable [Glob]
def bk:Nat->List Blk->Heap
 | _,[]=>[]
 | i,b::r=>(i,b)::bk (i+1) r
def nameOf:List Nat->Nat->Nat->Nat
 | [],nx,i=>nx+i
 | a::r,nx,i=>match i with
  | 0=>a
  | i+1=>nameOf r nx i
def wI (ρ:Nat->Nat):Heap->Heap
 | []=>[]
 | (i,b)::r=>(ρ i,b.ren ρ)::wI ρ r
def Res.ren (ρ:Nat->Nat):Res->Res
 | .val v=>.val (v.ren ρ)
 | .pan d=>.pan d
theorem sN:∀(bs:List Blk) (j i:Nat),look (bk j bs) i=if j<=i then bs[i - j]? else none
 | [],j,i=>by simp [bk,look]
 | b::r,j,i=>by
  rw [bk,aE];by_cases h:j=i
  ·subst h;simp
  ·rw [if_neg h,sN r (j+1) i]
   by_cases h2:j<=i
   ·rw [if_pos (by omega),if_pos h2,show i - j=(i - (j+1))+1 by omega,List.getElem?_cons_succ]
   ·rw [if_neg (by omega),if_neg h2]
theorem zD (bs:List Blk) (i:Nat) (h:i<bs.length):∃b,look (bk 0 bs) i=some b:=⟨bs[i],by rw [sN];simp [h]⟩
theorem OD (bs:List Blk) (i:Nat) {b:Blk} (h:look (bk 0 bs) i=some b):i<bs.length:=by
 rw [sN] at h;simp at h;exact (abQ.1 h).1
theorem wJ:∀{ids:List Nat} {nx i:Nat},i<ids.length->nameOf ids nx i∈ids
 | [],_,_,h=>by simp at h
 | a::r,nx,0,_=>by simp [nameOf]
 | a::r,nx,i+1,h=>by
  rw [nameOf];exact adp _ (wJ (by simpa using h))
theorem mS:∀{ids:List Nat} {nx i:Nat},ids.length<=i->nameOf ids nx i=nx+(i - ids.length)
 | [],_,_,_=>rfl
 | a::r,nx,0,h=>by simp at h
 | a::r,nx,i+1,h=>by
  simp only [abI] at h;rw [nameOf,mS (by omega),abI];omega
theorem CB:∀{ids:List Nat} {nx i:Nat} (h:i<ids.length),nameOf ids nx i=ids[i]
 | [],_,_,h=>by simp at h
 | a::r,nx,0,_=>rfl
 | a::r,nx,i+1,h=>by
  rw [nameOf,CB (by simpa using h)];rfl
def CG:List Nat->Bool
 | []=>true
 | a::r=>(r.all fun b=>!(Nat.beq a b))&&CG r
theorem E5:∀{l:List Nat},CG l=true->l.Nodup
 | [],_=>adM
 | a::r,h=>by
  rw [CG,abq] at h;refine List.nodup_cons.2 ⟨fun hm=>?_,E5 h.2⟩;have:=aby.1 h.1 a hm;simp at this
theorem QZ {ids:List Nat} {nx:Nat} (hl:∀a∈ids,a<nx) (hn:ids.Nodup) {i j:Nat} (h:nameOf ids nx i=nameOf ids nx j):i=j:=by
 rcases acp i ids.length with h1|h1<;>rcases acp j ids.length with h2|h2
 ·rw [CB h1,CB h2] at h
  rcases Nat.lt_trichotomy i j with hlt|he|hlt
  ·exact absurd h (acv.1 hn i j h1 h2 hlt)
  ·exact he
  ·exact absurd h.symm (acv.1 hn j i h2 h1 hlt)
 ·have:=hl _ (wJ (nx:=nx) h1);rw [mS h2] at h;omega
 ·have:=hl _ (wJ (nx:=nx) h2);rw [mS h1] at h;omega
 ·rw [mS h1,mS h2] at h;omega
theorem kR:∀(a b:Heap) (j:Nat),look (a++b) j=match look a j with|some x=>some x|none=>look b j
 | [],b,j=>rfl
 | (i,x)::a,b,j=>by
  rw [acH,aE,aE];by_cases h:i=j
  ·rw [if_pos h,if_pos h]
  ·rw [if_neg h,if_neg h];exact kR a b j
theorem yV {ρ:Nat->Nat} (hi:∀i j,ρ i=ρ j->i=j):∀(h:Heap) (i:Nat),look (wI ρ h) (ρ i)=(look h i).map (Blk.ren ρ)
 | [],i=>rfl
 | (k,b)::r,i=>by
  rw [wI,aE,aE];by_cases h:k=i
  ·subst h;simp
  ·rw [if_neg h,if_neg (fun e=>h (hi _ _ e))];exact yV hi r i
theorem ju {ρ:Nat->Nat} {j:Nat} (hj:∀i,ρ i≠j):∀(h:Heap),look (wI ρ h) j=none
 | []=>rfl
 | (k,b)::r=>by rw [wI,aE,if_neg (hj k)];exact ju hj r
def Shp:Blk->Blk->Prop
 | .var _,.var _=>True
 | .arr k xs,.arr k' xs'=>k=k'/\xs=xs'
 | .mt k v xs,.mt k' v' xs'=>k=k'/\v=v'/\xs=xs'
 | .iter _ _,.iter _ _=>True
 | .map _ _,.map _ _=>True
 | _,_=>False
theorem Shp.ren (ρ:Nat->Nat) (b:Blk):Shp b (b.ren ρ):=by cases b<;>simp [Shp,Blk.ren]
section
variable {c c' : Cx} {ρ : Nat -> Nat} (hk : Keeps c.w c'.w (Imm c) (Imm c')) (hl : ∀ id b, look c.heap id = some b -> ∃ b', look c'.heap (ρ id) = some b' /\ Shp b b' /\ c'.pl (ρ id) = c.pl id)
include hk hl
mutual
theorem aD.push:∀(x:V) (v:Value),aD c x v->aD c' (x.ren ρ) v
 | .d x,v,r=>aI.keep hk x v r
 | .ptr id off,v,r=>by
  obtain ⟨⟨cs,h1⟩,h2⟩:=r;obtain ⟨b',e1,e2,e3⟩:=hl id _ h1
  cases b' with
  | var cs'=>exact ⟨⟨cs',e1⟩,by rw [e3];exact h2⟩
  | _=>exact e2.elim
 | .ro cs off,v,r=>by
  obtain ⟨b,o,h1,h2⟩:=r;exact ⟨b,o,h1,dB.keep hk _ _ _ h2⟩
 | .kM id ver i cc,v,r=>by
  simp only [aD,V.ren] at r ⊢
  cases hb:look c.heap id with
  | none=>rw [hb] at r;exact r.elim
  | some b=>
   obtain ⟨b',e1,e2,e3⟩:=hl id b hb;rw [hb] at r;rw [e1]
   cases b with
   | mt k v0 xs=>
    cases b' with
    | mt k' v' xs'=>
     obtain ⟨rfl,rfl,rfl⟩:=e2;unfold jl at *;rw [e3];exact r
    | _=>exact e2.elim
   | _=>exact r.elim
 | .ref id ver off len,v,r=>by
  simp only [aD,V.ren] at r ⊢
  cases hb:look c.heap id with
  | none=>rw [hb] at r;exact r.elim
  | some b=>
   obtain ⟨b',e1,e2,e3⟩:=hl id b hb;rw [hb] at r;rw [e1]
   cases b with
   | mt k v0 xs=>
    cases b' with
    | mt k' v' xs'=>
     obtain ⟨rfl,rfl,rfl⟩:=e2;unfold km at *;rw [e3];exact r
    | _=>exact e2.elim
   | arr k xs=>
    cases b' with
    | arr k' xs'=>
     obtain ⟨rfl,rfl⟩:=e2;unfold km at *;rw [e3];obtain ⟨r1,r2⟩:=r;refine ⟨r1,?_⟩
     rcases r2 with r2|⟨b,o,cap,r2,r3,r4,r5⟩
     ·exact .inl r2
     ·exact .inr ⟨b,o,cap,r2,r3,b8.keep hk _ _ _ _ r4,r5⟩
    | _=>exact e2.elim
   | _=>exact r.elim
 | .agg cs,v,r=>by
  obtain ⟨vs,h1,h2⟩:=r;exact ⟨vs,h1,aC.push cs vs h2⟩
 | .func f fs cap,v,r=>by
  obtain ⟨us,vs,h1,h2,h3⟩:=r;exact ⟨us,vs,h1,aC.push fs us h2,aC.push cap vs h3⟩
 | .tuple ds,v,r=>by
  obtain ⟨vs,h1,h2⟩:=r;exact ⟨vs,h1,aC.push ds vs h2⟩
 | .hnd id,v,r=>by
  simp only [aD,V.ren] at r ⊢
  cases hb:look c.heap id with
  | none=>rw [hb] at r;exact r.elim
  | some b=>
   obtain ⟨b',e1,e2,e3⟩:=hl id b hb;rw [hb] at r;rw [e1]
   cases b with
   | iter s p=>
    cases b' with
    | iter s' p'=>unfold eU at *;rw [e3];exact r
    | _=>exact e2.elim
   | map kk es=>
    cases b' with
    | map kk' es'=>unfold eU at *;rw [e3];exact r
    | _=>exact e2.elim
   | _=>exact r.elim
 | .row id len,v,r=>by
  obtain ⟨⟨cs,h1⟩,h2,h3⟩:=r;obtain ⟨b',e1,e2,e3⟩:=hl id _ h1
  cases b' with
  | var cs'=>exact ⟨⟨cs',e1⟩,by rw [e3];exact h2,h3⟩
  | _=>exact e2.elim
 | .undef,v,r=>trivial
theorem aC.push:∀(xs:List V) (vs:List Value),aC c xs vs->aC c' (nA ρ xs) vs
 | [],vs,r=>r
 | d::ds,vs,r=>by
  obtain ⟨v,vs',h1,h2,h3⟩:=r;exact ⟨v,vs',h1,aD.push d v h2,aC.push ds vs' h3⟩
end
theorem cw.push (hw:c'.w=c.w) {id:Nat} {b:Blk} (hp:c'.pl (ρ id)=c.pl id) (r:cw c id b):cw c' (ρ id) (b.ren ρ):=by
 cases b with
 | var cs=>obtain ⟨vs,e,h1,h2⟩:=r;exact ⟨vs,e,by rw [hp,hw];exact h1,aC.push hk hl _ _ h2⟩
 | arr k xs=>
  obtain ⟨h0,r⟩:=r;refine ⟨by rw [hp];exact h0,fun hc=>?_⟩;rw [hp] at hc ⊢;obtain ⟨vs,e,h1,h2,h4⟩:=r hc;exact ⟨vs,e,by rw [hw];exact h1,h2,b8.keep hk _ _ _ _ h4⟩
 | mt k v xs=>
  obtain ⟨h0,h4,r⟩:=r;refine ⟨by rw [hp];exact h0,h4,fun hc=>?_⟩;rw [hp] at hc ⊢;obtain ⟨vs,e,h1,h2,h5,h6⟩:=r hc;exact ⟨vs,e,by rw [hw];exact h1,h2,aT.keep hk _ _ h5,h6⟩
 | iter s p=>simp only [Blk.ren,cw] at r ⊢;rw [hp,hw];exact r
 | map kk es=>obtain ⟨ms,k,h1,h2⟩:=r;exact ⟨ms,k,by rw [hp,hw];exact h1,pS.keep hk _ _ h2⟩
end
theorem qN.trans {K:Nat} {a b c:Cx} (h1:qN K a b) (h2:qN K b c):qN K a c:=by
 refine ⟨fun x o hx=>?_,fun id x hid hx=>?_⟩
 ·obtain ⟨e1,e2⟩:=h1.keeps x o hx
  obtain ⟨e3,e4⟩:=h2.keeps x o e1;exact ⟨e3,e4.trans e2⟩
 ·obtain ⟨y,e1,e2⟩:=h1.blks id x hid hx
  obtain ⟨z,e3,e4⟩:=h2.blks id y hid e1;refine ⟨z,e3,?_⟩
  cases x<;>cases y<;>simp only [cK] at e2<;>cases z<;>simp only [cK] at e4 ⊢
  ·exact e2.trans e4
  ·obtain ⟨rfl,⟨ys,rfl⟩,p1⟩:=e2
   obtain ⟨rfl,⟨zs,rfl⟩,p2⟩:=e4;refine ⟨rfl,⟨ys++zs,by simp⟩,fun he=>?_⟩;have hlen:=congrArg List.length he;simp only [abZ] at hlen;obtain ⟨rfl,rfl⟩:ys=[]/\zs=[]:=⟨abz (by omega),abz (by omega)⟩
   rw [p2 (by simp),p1 (by simp)]
  ·obtain ⟨rfl,v1,p1⟩:=e2
   obtain ⟨rfl,v2,p2⟩:=e4;refine ⟨rfl,abX v1 v2,fun he=>?_⟩;obtain ⟨q1,q2⟩:=p1 (by omega);obtain ⟨q3,q4⟩:=p2 (by omega);exact ⟨q3.trans q1,q4.trans q2⟩
  ·exact e2.trans e4
  ·exact ⟨e2.1.trans e4.1,e2.2.trans e4.2⟩
theorem cK.refl (p:Pl) (b:Blk):cK p p b b:=by cases b<;>simp [cK]
theorem qN.refl (K:Nat) (c:Cx):qN K c c:=⟨fun _ _ h=>⟨h,rfl⟩,fun _ b _ h=>⟨b,h,cK.refl _ _⟩⟩
theorem Ph.ren {p:Pl} {b:Blk} {ρ:Nat->Nat}:Ph p (b.ren ρ)<->Ph p b:=by cases b<;>simp [Ph,Blk.ren]
theorem bQ.frame {P:Program} {f:FuncId} {vs0:List V} {bs:List Blk} {R0:Res->Heap->Nat->Prop} (hs:bQ P f vs0 (bk 0 bs) bs.length R0) (ids:List Nat) {H:Heap} {nx:Nat}
  (hm:ids.length<=bs.length) (OE:∀a∈ids,a<nx) (hnd:ids.Nodup)
  (hfit:∀i b',look (bk 0 bs) i=some b'->(∃b,look H (nameOf ids nx i)=some b/\pW (nameOf ids nx) H (bk 0 bs) b b')\/(look H (nameOf ids nx i)=none/\iV b'))
  {vs:List V} (hvs:VWL (nameOf ids nx) H (bk 0 bs) vs vs0) :
  bQ P f vs H nx (fun r h n=>∃r0 h0 n0,R0 r0 h0 n0/\r=r0.ren (nameOf ids nx)/\h=wI (nameOf ids nx) h0++H/\n=nx+(n0 - ids.length)):=by
 refine ⟨hs.1,?_⟩;rintro c w0 F gvs rfl hH hFK hFp hv;have hinj:∀i j,nameOf ids nx i=nameOf ids nx j->i=j:=fun i j h=>QZ OE hnd h;generalize hρ:nameOf ids nx=ρ at *
 -- the part's context
 let J:JX:=⟨Imm c,fun b=>c.Old b\/(b<c.w.heap.size/\∀i blk,look (bk 0 bs) i=some blk->Ph (c.pl (ρ i)) blk->(look c.heap (ρ i)).isSome=true->(c.pl (ρ i)).gb≠b)⟩
 let c1:Cx:=c.gR ρ (bk 0 bs) J
 have hz:∀i b',look c.heap (ρ i)=none->iV b'->¬Ph (c1.pl i) b':=by
  intro i b' hn hz hp;have:c1.pl i=⟨0,0⟩:=by simp [c1,Cx.gR,hn]
  rw [this] at hp
  cases b'<;>simp [iV,Ph] at hz hp
 have hpl:∀i b,look c.heap (ρ i)=some b->c1.pl i=c.pl (ρ i):=fun i b h=>by simp [c1,Cx.gR,h]
 have UN:∀b,c.Old b->c1.Old b:=fun b h=>.inr (.inl h);have ZZ:∀i b',look (bk 0 bs) i=some b'->Ph (c1.pl i) b'->¬c1.Old (c1.pl i).gb:=by
  intro i b' hl hph
  rcases hfit i b' hl with ⟨b,hb,dp⟩|⟨hn,hzz⟩
  ·rw [hpl i b hb] at hph ⊢
   have hg:=hH.ge (ρ i) b hb (dp.ph hph);rintro (h|h|⟨_,h⟩)
   ·exact hg (.inl h)
   ·exact hg h
   ·exact h i b' hl hph (by rw [hb];rfl) rfl
  ·exact (hz i b' hn hzz hph).elim
 have YQ:∀b o,Imm c b o->Imm c1 b o:=by
  intro b o hi;by_cases ho:c1.Old b
  ·exact .inl ⟨ho,hi⟩
  ·refine .inr ⟨ho,hH.BN hi,fun i blk hl hph hg=>?_⟩
   rcases hi with ⟨h1,_⟩|⟨h1,h2,h3⟩
   ·exact (ho (UN b h1)).elim
   ·rcases hfit i blk hl with ⟨b0,hb,dp⟩|⟨hn,hzz⟩
    ·have kO : Ph (c1.pl i) blk:=hph
     have hg' : (c1.pl i).gb=b:=hg;rw [hpl i b0 hb] at kO hg';obtain ⟨k,xs,e,hlt⟩:=h3 (ρ i) b0 hb (dp.ph kO) hg';subst e
     cases blk with
     | arr k' xs'=>obtain ⟨rfl,rfl⟩:=dp;exact ⟨k,xs,rfl,hlt⟩
     | _=>exact dp.elim
    ·exact (hz i blk hn hzz hph).elim
 have hk1:Keeps c.w c.w (Imm c) (Imm c1):=fun b o h=>⟨YQ b o h,rfl⟩
 have hH1:cI c1 c.w bs.length:=by
  refine ⟨Below.refl _ _,?_,⟨hH.BM,hH.jY.2.1,hH.glob.2.2⟩,?_,fun i b h=>OD bs i h,ZZ,?_⟩
  ·rintro b (h|⟨h,_⟩)
   ·exact ⟨hH.Ge h,rfl⟩
   ·exact ⟨h,rfl⟩
  ·intro i b' hl
   rcases hfit i b' hl with ⟨b,hb,dp⟩|⟨hn,hzz⟩
   ·exact cw.weak hfit hk1 hb dp (hH.blk (ρ i) b hb)
   ·have hp:c1.pl i=⟨0,0⟩:=by simp [c1,Cx.gR,hn]
    cases b' with
    | arr k xs=>simp [iV] at hzz;subst hzz;exact ⟨by simp,fun hc=>by rw [hp] at hc;simp at hc⟩
    | mt k v xs=>simp [iV] at hzz;subst hzz;exact ⟨by simp,by simp,fun hc=>by rw [hp] at hc;simp at hc⟩
    | _=>exact hzz.elim
  ·intro i i' b1 b2 h1 h2 p1 p2 hg
   rcases hfit i b1 h1 with ⟨x1,hb1,s1⟩|⟨hn,hzz⟩
   ·rcases hfit i' b2 h2 with ⟨x2,hb2,s2⟩|⟨hn,hzz⟩
    ·rw [hpl i x1 hb1] at p1 hg
     rw [hpl i' x2 hb2] at p2 hg;exact hinj _ _ (hH.inj (ρ i) (ρ i') x1 x2 hb1 hb2 (s1.ph p1) (s2.ph p2) hg)
    ·exact (hz i' b2 hn hzz p2).elim
   ·exact (hz i b1 hn hzz p1).elim
 let F1:Fr:=⟨bs.length,fun c2=>qN bs.length c1 c2,fun a b h1 h2=>h2.trans h1⟩
 refine (hs.2 c1 c.w F1 gvs rfl hH1 (abu _) (qN.refl _ _) (aC.vw hfit hk1 hvs hv)).mono ?_;rintro e w' ⟨c2,r0,n0,eB,eJ,rfl,hH2,hn0,hev,hend,hR⟩
 -- behind the call
 have OG:∀b,c2.Old b<->c1.Old b:=fun b=>by unfold Cx.Old;rw [eB,eJ]
 have hJ2:∀b o,c2.J0.J b o<->Imm c b o:=fun b o=>by rw [eJ];exact Iff.rfl
 have hout:∀b,c1.Old b->c2.w.heap[b]? = c.w.heap[b]?:=by
  intro b hb
  rcases hb with hb|hb
  ·have hb' : b<c2.B:=by rw [eB];exact hb
   exact hH2.below.block b hb'
  ·exact (hH2.other b (by rw [eJ];exact hb)).2
 classical
 let pl' : Nat->Pl:=fun j=>if h:∃i,ρ i=j then c2.pl h.choose else c.pl j
 have vG:∀i,pl' (ρ i)=c2.pl i:=by
  intro i;have h:∃i',ρ i' = ρ i:=⟨i,rfl⟩
  simp only [pl',dif_pos h];rw [hinj _ _ h.choose_spec]
 have hpl2:∀j,(∀i,ρ i≠j)->pl' j=c.pl j:=fun j h=>by simp only [pl',dif_neg (fun ⟨i,e⟩=>h i e:¬∃i,ρ i=j)]
 let c' : Cx:={ B:=c.B,J0:=c.J0,heap:=wI ρ c2.heap++c.heap,pl:=pl',w:=c2.w }
 have there:∀i,i<ids.length->∃b,look c2.heap i=some b:=by
  intro i hi;obtain ⟨b,hb⟩:=zD bs i (by omega);obtain ⟨b',hb',_⟩:=hev.blks i b (by omega) hb;exact ⟨b',hb'⟩
 -- the blocks behind the call: the part's,and those beside it
 have look1:∀i b,look c2.heap i=some b->look c'.heap (ρ i)=some (b.ren ρ):=by
  intro i b h;show look (wI ρ c2.heap++c.heap) (ρ i)=_;rw [kR,yV hinj,h];rfl
 have YR:∀j b,look c.heap j=some b->(∀i,ρ i≠j)->look c'.heap j=some b:=by
  intro j b h hj;show look (wI ρ c2.heap++c.heap) j=_;rw [kR,ju hj];exact h
 have split:∀j b,look c'.heap j=some b->(∃i b0,j=ρ i/\look c2.heap i=some b0/\b=b0.ren ρ)\/(look c.heap j=some b/\∀i,ρ i≠j):=by
  intro j b h;have h:look (wI ρ c2.heap++c.heap) j=some b:=h;rw [kR] at h;by_cases hj:∃i,ρ i=j
  ·obtain ⟨i,rfl⟩:=hj
   rw [yV hinj] at h
   cases hi:look c2.heap i with
   | some b0=>
    rw [hi] at h;simp only [adh,abL] at h;exact .inl ⟨i,b0,rfl,hi,h.symm⟩
   | none=>
    rw [hi] at h;simp only [acY] at h;exfalso;have hlt:=hH.lt _ _ h
    rcases acp i ids.length with h1|h1
    ·obtain ⟨b0,hb0⟩:=there i h1
     rw [hi] at hb0;cases hb0
    ·rw [<- hρ,mS h1] at hlt;omega
  ·have hj' : ∀i,ρ i≠j:=fun i e=>hj ⟨i,e⟩
   rw [ju hj'] at h;exact .inr ⟨h,hj'⟩
 -- a block beside the part is old to it
 have beside:∀j b,look c.heap j=some b->(∀i,ρ i≠j)->Ph (c.pl j) b->c1.Old (c.pl j).gb:=by
  intro j b h hj hph;refine .inr (.inr ⟨hH.iT h hph,fun i blk hl hp hs hg=>?_⟩)
  rcases hfit i blk hl with ⟨b0,hb,dp⟩|⟨hn,hzz⟩
  ·exact hj i (hH.inj (ρ i) j b0 b hb h (dp.ph hp) hph hg)
  ·rw [hn] at hs;cases hs
 have YS:∀b o,Imm c2 b o->Imm c' b o:=by
  intro b o hi
  rcases hi with ⟨h1,h2⟩|⟨h1,h2,h3⟩
  ·rw [OG] at h1
   rw [hJ2] at h2;by_cases ho:c.Old b
   ·rcases h2 with h2|h2
    ·exact .inl h2
    ·exact (h2.1 ho).elim
   ·rcases h2 with h2|⟨g1,g2,g3⟩
    ·exact (ho h2.1).elim
    ·refine .inr ⟨ho,abW g2 hH2.below.size,fun j blk hl hph hg=>?_⟩
     rcases split j blk hl with ⟨i,b0,rfl,hl0,rfl⟩|⟨hl0,hj⟩
     ·exfalso
      have kO : Ph (pl' (ρ i)) (b0.ren ρ):=hph;have hg' : (pl' (ρ i)).gb=b:=hg;rw [vG,Ph.ren] at kO;rw [vG] at hg';exact hH2.ge i b0 hl0 kO (by rw [hg',OG];exact h1)
     ·have kO : Ph (pl' j) blk:=hph
      have hg' : (pl' j).gb=b:=hg;rw [hpl2 j hj] at kO hg';exact g3 j blk hl0 kO hg'
  ·have h1' : ¬c1.Old b:=fun h=>h1 ((OG b).2 h)
   refine .inr ⟨fun h=>h1' (UN b h),h2,fun j blk hl hph hg=>?_⟩;have kO : Ph (pl' j) blk:=hph;have hg' : (pl' j).gb=b:=hg
   rcases split j blk hl with ⟨i,b0,rfl,hl0,rfl⟩|⟨hl0,hj⟩
   ·rw [vG,Ph.ren] at kO
    rw [vG] at hg';obtain ⟨k,xs,rfl,hlt⟩:=h3 i b0 hl0 kO hg';exact ⟨k,xs,rfl,hlt⟩
   ·rw [hpl2 j hj] at kO hg'
    exact (h1' (hg' ▸ beside j blk hl0 hj kO)).elim
 have hk2:Keeps c2.w c'.w (Imm c2) (Imm c'):=fun b o h=>⟨YS b o h,rfl⟩
 have hlk:∀i b,look c2.heap i=some b->∃b',look c'.heap (ρ i)=some b'/\Shp b b'/\c'.pl (ρ i)=c2.pl i:=fun i b h=>⟨_,look1 i b h,Shp.ren ρ b,vG i⟩
 have evo:Evo c c':=by
  refine ⟨fun b o hi=>?_,fun j b hb=>?_⟩
  ·obtain ⟨q1,q2⟩:=hev.keeps b o (YQ b o hi)
   exact ⟨YS b o q1,q2⟩
  ·by_cases hj:∃i,ρ i=j
   ·obtain ⟨i,rfl⟩:=hj
    have hlt:=hH.lt _ _ hb;have hi:i<ids.length:=by
     rcases acp i ids.length with h1|h1
     ·exact h1
     ·rw [<- hρ,mS h1] at hlt;omega
    obtain ⟨b0,hb0⟩:=zD bs i (by omega);obtain ⟨b1,hb1,he⟩:=hev.blks i b0 (by omega) hb0;refine ⟨b1.ren ρ,look1 i b1 hb1,?_⟩;show cK (c.pl (ρ i)) (pl' (ρ i)) b (b1.ren ρ);rw [vG]
    rcases hfit i b0 hb0 with ⟨x,hx,dp⟩|⟨hn,_⟩
    ·rw [hb] at hx;injection hx with hx;subst hx
     rw [hpl i b hb] at he
     cases b<;>cases b0<;>simp only [pW] at dp<;>cases b1<;>simp only [cK,Blk.ren] at he ⊢
     ·exact he
     ·obtain ⟨rfl,rfl⟩:=dp;exact he
     ·obtain ⟨rfl,rfl,rfl⟩:=dp;exact he
     ·exact he
     ·obtain ⟨rfl,rfl⟩:=dp;exact he
    ·rw [hb] at hn;cases hn
   ·have hj' : ∀i,ρ i≠j:=fun i e=>hj ⟨i,e⟩
    refine ⟨b,YR j b hb hj',?_⟩;show cK (c.pl j) (pl' j) b b;rw [hpl2 j hj'];exact cK.refl _ _
 have hH' : cI c' w0 (nx+(n0 - ids.length)):=by
  refine ⟨?_,?_,hH.jY,?_,?_,?_,?_⟩
  ·have:=hH2.below
   rw [eB] at this;exact hH.below.trans this
  ·intro b hb
   exact ⟨(hH.other b hb).1,(hout b (UN b (.inr hb))).trans (hH.other b hb).2⟩
  ·intro j b hl
   rcases split j b hl with ⟨i,b0,rfl,hl0,rfl⟩|⟨hl0,hj⟩
   ·exact cw.push hk2 hlk rfl (vG i) (hH2.blk i b0 hl0)
   ·exact cw.evo evo (hpl2 j hj) (fun hph=>hout _ (beside j b hl0 hj hph)) (hH.blk j b hl0)
  ·intro j b hl
   rcases split j b hl with ⟨i,b0,rfl,hl0,rfl⟩|⟨hl0,hj⟩
   ·have:=hH2.lt i b0 hl0
    rcases acp i ids.length with h1|h1
    ·have:=OE _ (wJ (nx:=nx) h1)
     rw [hρ] at this;omega
    ·rw [<- hρ,mS h1];omega
   ·have:=hH.lt j b hl0;omega
  ·intro j b hl hph
   have kO : Ph (pl' j) b:=hph;show ¬c'.Old (pl' j).gb
   rcases split j b hl with ⟨i,b0,rfl,hl0,rfl⟩|⟨hl0,hj⟩
   ·rw [vG,Ph.ren] at kO
    rw [vG];exact fun h=>hH2.ge i b0 hl0 kO ((OG _).2 (UN _ h))
   ·rw [hpl2 j hj] at kO ⊢
    exact hH.ge j b hl0 kO
  ·intro j j' b b' hl hl' hp hp' hg
   have hp:Ph (pl' j) b:=hp;have hp' : Ph (pl' j') b':=hp';have hg:(pl' j).gb=(pl' j').gb:=hg
   rcases split j b hl with ⟨i,b0,rfl,hl0,rfl⟩|⟨hl0,hj⟩
   ·rw [vG,Ph.ren] at hp
    rw [vG] at hg
    rcases split j' b' hl' with ⟨i',b0',rfl,hl0',rfl⟩|⟨hl0',hj'⟩
    ·rw [vG,Ph.ren] at hp'
     rw [vG] at hg;rw [hH2.inj i i' b0 b0' hl0 hl0' hp hp' hg]
    ·rw [hpl2 j' hj'] at hp' hg
     exact (hH2.ge i b0 hl0 hp (by rw [hg,OG];exact beside j' b' hl0' hj' hp')).elim
   ·rw [hpl2 j hj] at hp hg
    rcases split j' b' hl' with ⟨i',b0',rfl,hl0',rfl⟩|⟨hl0',hj'⟩
    ·rw [vG,Ph.ren] at hp'
     rw [vG] at hg;exact (hH2.ge i' b0' hl0' hp' (by rw [<- hg,OG];exact beside j b hl0 hj hp)).elim
    ·rw [hpl2 j' hj'] at hp' hg
     exact hH.inj j j' b b' hl0 hl0' hp hp' hg
 refine ⟨c',r0.ren ρ,nx+(n0 - ids.length),rfl,rfl,rfl,hH',by omega,F.ok c c' (evo.toK _) hFp,?_,r0,c2.heap,n0,hR,rfl,rfl,rfl⟩
 cases e with
 | returned gv=>
  cases r0 with
  | val v=>exact aD.push hk2 hlk v gv hend
  | pan d=>exact hend.elim
 | panicked ch=>
  cases r0 with
  | val v=>exact hend.elim
  | pan d=>obtain ⟨v,h1,h2⟩:=hend;exact ⟨v,h1,aI.keep hk2 _ _ h2⟩
 | outgrown=>cases r0<;>exact hend.elim
end Uw
namespace Uw
open Go
variable [Glob]
section
variable {P : Program} {Q : ay -> St -> Prop} {t t' y n : Tree} {p q : Prop}
theorem aw (hgo' : WT P Q t') (h:WT P Q t'->WT P Q t:=by
  first
  | (show _->WT _ _ (Tree.test _ _ _)
     first
     | exact XE (by omega)
     | exact Xp (by simp [inR];omega)
     | exact ah rfl
     | exact aS rfl
     | exact UL (by first|assumption|omega)
     | exact XI (by first|assumption|omega)
     | exact UG (by first|assumption|omega)
     | exact XH (by first|assumption|omega)
     | exact XF (by first|assumption|omega)
     | exact XG (by first|assumption|omega)
     | exact QO (by first|(simp [inR];done)|(simp [inR];omega))
     | exact YM (by first|assumption|omega|exact rfl)
     | exact YN (by first|assumption|omega)
     | exact YO (by first|assumption|omega)
     | exact YP (by first|assumption|omega|exact rfl)
     | exact Xu (by first|assumption|omega)
     | exact Xv (by first|assumption|omega|exact rfl)
     | exact Xw (by first|assumption|omega|exact rfl)
     | exact Xx (by first|assumption|omega)
     | exact Xy (by assumption)
     | exact Xz (by assumption)
     | exact XA (by assumption)
     | exact XB (by assumption)
     | exact Xr (by first|assumption|omega|exact rfl)
     | exact YL (by first|assumption|omega)
     | exact UE (by first|assumption|omega)
     | exact Xt (by first|assumption|omega|exact rfl)
     | exact YK (by assumption)
     | exact aS (by assumption)
     | exact XC (by assumption)
     | exact XD (by assumption))
  | (show _->WT _ _ (Tree.call _ _ _)
     exact aL _ (by assumption))
  | (show _->WT _ _ (Tree.elem _ _ _)
     first
     | exact aF _ (by assumption)
     | exact UK (by first|assumption|omega)
     | exact UH (by first|assumption|omega)
     | exact KY (by first|assumption|omega)
     | exact aF _ (UC _ _ _ (by first|assumption|omega))
     | exact aF _ (by assumption))
  | (show _->WT _ _ (Tree.byte _ _ _)
     first
     | exact UJ (by first|assumption|omega)
     | exact UI (by first|assumption|omega)
     | exact KZ (by first|assumption|omega)
     | exact UM (by first|assumption|omega))
  | (show _->WT _ _ (Tree.same _ _ _)
     exact aO rfl)):WT P Q t:=h hgo'
theorem bw (h1:p->WT P Q y) (h2:q->WT P Q n) (h:(p->WT P Q y)->(q->WT P Q n)->WT P Q t:=by
  show _->_->WT _ _ (Tree.test _ _ _)
  first
  | exact QY
  | exact UF
  | exact GI
  | exact GK
  | exact B9
  | exact Cc
  | exact QV
  | exact QW
  | exact KX
  | exact UD
  | exact QX
  | exact bF):WT P Q t:=h h1 h2
end
theorem wW {st st' : St} (h:Weak st st':=by
  refine Weak.of ?_ ?_ rfl rfl ?_ rfl rfl<;>repeat' first|exact trivial|refine ⟨⟨_,rfl,?_⟩,?_⟩|exact Gy (by first|with_reducible rfl|assumption|omega)|exact KR (by first|with_reducible rfl|assumption|omega|(simp;done)|(simp;omega)) rfl rfl|exact Or.inl ⟨rfl,rfl⟩|exact QP (by assumption)|exact Or.inr (Or.inl ⟨rfl,by first|exact ⟨_,_,_,rfl,rfl,Or.inl rfl⟩|exact ⟨_,_,_,rfl,rfl,Or.inr rfl⟩⟩)|exact Or.inr (Or.inr (Or.inl rfl))|exact Or.inr (Or.inr (Or.inr (Or.inl ⟨_,_,_,_,_,_,_,rfl,rfl,by first|assumption|exact rfl,rfl⟩)))|exact Or.inr (Or.inr (Or.inr ⟨_,_,_,_,_,_,_,rfl,rfl,by first|assumption|exact rfl,rfl⟩))|refine Or.inr (Or.inr (Or.inr (Or.inr (Or.inl ⟨_,_,rfl,rfl,?_⟩))))|refine ⟨⟨Or.inl ⟨_,rfl,?_⟩,rfl⟩,?_⟩|refine ⟨⟨Or.inr ⟨rfl,rfl⟩,rfl⟩,?_⟩|refine ⟨⟨Or.inr ⟨rfl,rfl,rfl⟩,rfl⟩,?_⟩|exact ⟨rfl,rfl⟩|exact ⟨rfl,by assumption⟩|exact ⟨rfl,rfl,rfl⟩|exact qZ rfl rfl|refine ⟨⟨rfl,fun _=>rfl⟩,?_⟩|refine And.intro ?_ ?_|refine ⟨⟨rfl,fun _=>rfl⟩,?_⟩):Weak st st':=h
end Uw
namespace Uw
open Go
variable [Glob]
theorem wM {st st' : St} (h:Weak st st':=by
  refine Weak.of ?_ ?_ rfl rfl ?_ rfl rfl<;>repeat' first|exact trivial|refine ⟨⟨_,rfl,?_⟩,?_⟩|exact Gy (by first|with_reducible rfl|assumption|omega)|exact KR (by first|with_reducible rfl|assumption|omega|(simp;done)|(simp;omega)) rfl rfl|exact Or.inl ⟨rfl,rfl⟩|exact QP (by assumption)|exact Or.inr (Or.inl ⟨rfl,by first|exact ⟨_,_,_,rfl,rfl,Or.inl rfl⟩|exact ⟨_,_,_,rfl,rfl,Or.inr rfl⟩⟩)|exact Or.inr (Or.inr (Or.inl rfl))|exact Or.inr (Or.inr (Or.inr (Or.inl ⟨_,_,_,_,_,_,_,rfl,rfl,by first|assumption|exact rfl,rfl⟩)))|exact Or.inr (Or.inr (Or.inr ⟨_,_,_,_,_,_,_,rfl,rfl,by first|assumption|exact rfl,rfl⟩))|refine Or.inr (Or.inr (Or.inr (Or.inr (Or.inl ⟨_,_,rfl,rfl,?_⟩))))|refine ⟨⟨Or.inl ⟨_,rfl,?_⟩,rfl⟩,?_⟩|refine ⟨⟨Or.inr ⟨rfl,rfl⟩,rfl⟩,?_⟩|refine ⟨⟨Or.inr ⟨rfl,rfl,rfl⟩,rfl⟩,?_⟩|exact ⟨rfl,rfl,by assumption⟩|exact ⟨rfl,by assumption⟩|exact ⟨rfl,rfl⟩|exact ⟨rfl,rfl,rfl⟩|exact qZ rfl rfl|refine ⟨⟨rfl,fun _=>rfl⟩,?_⟩|refine And.intro ?_ ?_|refine ⟨⟨rfl,fun _=>rfl⟩,?_⟩):Weak st st':=h
end Uw
namespace Uw
open Go
variable [Glob]
section
variable {P : Program} {Q : ay -> St -> Prop}
def UO (n:Nat) (good:Nat->Prop) (j:Nat):Prop:=j<=n/\∀m,m<j->good m
def forM (n:Nat) (j:Nat):Nat:=n - j
theorem kr (n:Nat) (S:Nat->St) (good:Nat->Prop) {m:bR} {st:St} {k:ay->St->Tree} (hw:Weak st (S 0))
  (last:(∀j,j<n->good j)->WT P (cQ S (UO n good) (forM n) n fun e s=>WT P Q (k e s)) (exec m (S n) Tree.done))
  (round:∀j,j<n->(∀i,i<j->good i)->WT P (cQ S (UO n good) (forM n) j fun e s=>WT P Q (k e s)) (exec m (S j) Tree.done)):WT P Q (.code (.loop m) st k):=by
 refine dC S (UO n good) (forM n) 0 hw ⟨acD _,fun j h=>absurd h (Nat.not_lt_zero _)⟩ ?_;rintro j ⟨h1,h2⟩
 rcases acp j n with h|h
 ·exact round j h h2
 ·obtain rfl:j=n:=Nat.le_antisymm h1 h
  exact last h2
theorem gI {n:Nat} {S:Nat->St} {good:Nat->Prop} {s:St} (j:Nat) (hg:good j) (hw:Weak s (S (j+1))) (hj:j<n:=by assumption) (hp:∀i,i<j->good i:=by assumption) :
  WT P (cQ S (UO n good) (forM n) j Q) (.done .normal s):=by
 refine aR (j+1) ⟨hj,fun i hi=>?_⟩ (by unfold forM;omega) hw
 rcases acp i j with h|h
 ·exact hp i h
 ·rw [show i=j by omega];exact hg
theorem UP {o:Option Dat} {v:Dat} {k:Dat->Tree} {n:Tree} (h:o=some v) (h2:WT P Q (k v)):WT P Q (.test o.isSome (.val o k) n):=
 ⟨fun _=>⟨v,h,h2⟩,fun hf=>(by rw [h] at hf;cases hf)⟩
theorem Q0 {o:Option Dat} {k:Dat->Tree} {n:Tree} (h:o=none) (h2:WT P Q n):WT P Q (.test o.isSome (.val o k) n):=
 ⟨fun hf=>(by rw [h] at hf;cases hf),fun _=>h2⟩
theorem m1 {t t' : Tree} (hgo' : WT P Q t') (h:WT P Q t'->WT P Q t:=by
  first
  | exact UP (by assumption)
  | exact Q0 (by assumption)):WT P Q t:=h hgo'
end
end Uw
namespace Uw
open Go Go.RowKit
def jv (t:List Deferred) (a:Act):Act:={ a with defers:=a.defers++t }
def E6 (t:List Deferred) (Q:Exit->Act->World->Prop) (e:Exit) (a:Act) (w:World):Prop:=∃a0,a=jv t a0/\Q e a0 w
section
variable {P : Program} {t : List Deferred} {Q : Exit -> Act -> World -> Prop} {ops : Array Oper}
theorem E7 (a:Act):(jv t a).eval=a.eval:=funext fun x=>by cases x<;>rfl
theorem nC (a:Act) (d:Option Tmp) (v:Value):(jv t a).put d v=jv t (a.put d v):=by cases d<;>rfl
theorem GL (h:LetsOut Q):LetsOut (E6 t Q):=by obtain ⟨a,w,h⟩:=h;exact ⟨_,w,a,rfl,h⟩
theorem MY {o:Oper} {a:Act} {w:World} {K K' : Act->World->Prop} (hK:∀a w,K a w->K' (jv t a) w) (h:o.wp P a w K Q):o.wp P (jv t a) w K' (E6 t Q):=by
 unfold Oper.wp at *;rw [E7];generalize (execOp a.eval o).run P w=r at *
 cases r with
 | ok nx w'=>
  cases nx with
  | value v=>show K' _ _;rw [nC];exact hK _ _ h
  | skip=>show K' _ _;rw [nC];exact hK _ _ h
  | defer d=>show K' (Act.put _ _ _) _;rw [show ({ jv t a with defers:=d::(jv t a).defers }:Act)=jv t { a with defers:=d::a.defers } from rfl,nC];exact hK _ _ h
  | enter f args=>
   rw [Oper.upon_enter] at h ⊢;refine Calls.mono h ?_;intro e w'' hh
   cases e with
   | returned v=>show K' _ _;rw [nC];exact hK _ _ hh
   | panicked ch=>exact ⟨a,rfl,hh⟩
   | outgrown=>exact GL hh
  | row rw' args=>exact Rows.mono h fun v w'' hh=>by show K' _ _;rw [nC];exact hK _ _ hh
  | _=>exact h.elim
 | halt s w'=>
  cases s<;>first|exact ⟨a,rfl,h⟩|exact h.elim
theorem yW (hno:¬LetsOut Q):∀(L:List Oper) (a:Act) (w:World),wpList P ops Q L a w->wpList P ops (E6 t Q) L (jv t a) w
 | [],a,w,h=>⟨a,rfl,h⟩
 | o::L,a,w,h=>by
  simp only [wpList] at h ⊢;show if Region.wanted o (yielded ops a.tmps) then _ else _
  split
  ·rename_i hw
   rw [if_pos hw] at h
   rcases h with h|h
   ·exact .inl (MY (fun a w h=>yW hno L a w h) h)
   ·exact (hno h.2).elim
  ·rename_i hw
   rw [if_neg hw] at h;rw [nC];exact yW hno L _ _ h
theorem wK {md:Region.Mode} (hno:¬LetsOut Q):∀(fuel:Nat) (L:Array Bool) (a:Act) (w:World),wpAny P md ops Q fuel L a w->wpAny P md ops (E6 t Q) fuel L (jv t a) w
 | 0,L,a,w,h=>⟨h.1,a,rfl,h.2⟩
 | fuel+1,L,a,w,h=>by
  refine ⟨fun hr=>⟨a,rfl,h.1 hr⟩,fun i hi=>?_⟩;have h:=h.2 i hi;unfold wpOp at h ⊢
  split
  ·rename_i ho
   rw [ho] at h;exact wK hno fuel _ _ _ h
  ·rename_i o ho
   rw [ho] at h;simp only at h;show if Region.wanted o (yielded ops a.tmps) then _ else _
   split
   ·rename_i hw
    rw [if_pos hw] at h
    rcases h with h|h
    ·exact .inl (MY (fun a w h=>wK hno fuel _ _ _ h) h)
    ·exact (hno h.2).elim
   ·rename_i hw
    rw [if_neg hw] at h;rw [nC];exact wK hno fuel _ _ _ h
end
def tailW (P:Program) (t:List Deferred):WPS P where
 W:=fun c Q a w=>Code.wp P c (E6 t Q) (jv t a) w
 dfr:=true
 mono:=fun h hq=>Go.wp_mono h fun e a w ⟨a0,h1,h2⟩=>⟨a0,h1,hq _ _ _ h2⟩
 skip:=fun h=>wp_skip ⟨_,rfl,h⟩
 exit:=fun h=>wp_exit ⟨_,rfl,h⟩
 ret:=fun h=>wp_ret ⟨_,rfl,h⟩
 seq:=fun h=>wp_seq (Go.wp_mono h fun e a w ⟨a0,h1,h2⟩=>by
  subst h1
  cases e with
  | normal=>exact h2
  | exit id=>exact ⟨a0,rfl,h2⟩
  | goto l=>exact ⟨a0,rfl,h2⟩
  | ret=>exact ⟨a0,rfl,h2⟩
  | panic ch=>exact ⟨a0,rfl,h2⟩
  | outgrown=>exact ⟨a0,rfl,h2⟩)
 cond:=fun hc h1 h2=>wp_cond_split (by rw [E7];exact hc) h1 h2
 block:=fun {id c Q a w} h=>wp_block (Go.wp_mono h fun e a w ⟨a0,h1,h2⟩=>by
  subst h1
  cases e with
  | exit j=>
   simp only [Exit.inBlock] at h2 ⊢
   split
   ·rename_i hj;rw [if_pos hj] at h2;exact ⟨a0,rfl,h2⟩
   ·rename_i hj;rw [if_neg hj] at h2;exact ⟨a0,rfl,h2⟩
  | normal=>exact ⟨a0,rfl,h2⟩
  | goto l=>exact ⟨a0,rfl,h2⟩
  | ret=>exact ⟨a0,rfl,h2⟩
  | panic ch=>exact ⟨a0,rfl,h2⟩
  | outgrown=>exact ⟨a0,rfl,h2⟩)
 loop:=fun {c Q a w} I μ h0 h=>wp_loop_ghost (fun n a w=>∃a0,a=jv t a0/\I a0 w/\μ a0 w=n) (μ a w) ⟨a,rfl,h0,rfl⟩ (by
  rintro n _ w ⟨a0,rfl,h1,rfl⟩;refine Go.wp_mono (h a0 w h1) ?_;rintro e _ w ⟨a1,rfl,h2⟩
  cases e with
  | normal=>exact ⟨_,h2.2,a1,rfl,h2.1,rfl⟩
  | exit id=>exact ⟨a1,rfl,h2⟩
  | goto l=>exact ⟨a1,rfl,h2⟩
  | ret=>exact ⟨a1,rfl,h2⟩
  | panic ch=>exact ⟨a1,rfl,h2⟩
  | outgrown=>exact ⟨a1,rfl,h2⟩)
 scope:=fun _ {c Q a w} h=>wp_scope_straight (Go.wp_mono h fun e a w ⟨a0,h1,h2⟩=>by
  subst h1
  cases e with
  | goto l=>exact h2
  | normal=>exact ⟨a0,rfl,h2⟩
  | exit id=>exact ⟨a0,rfl,h2⟩
  | ret=>exact ⟨a0,rfl,h2⟩
  | panic ch=>exact ⟨a0,rfl,h2⟩
  | outgrown=>exact ⟨a0,rfl,h2⟩)
 label:=fun h=>wp_label ⟨_,rfl,h⟩
 list:=fun hno _ h=>wp_region_list (yW hno _ _ _ h)
 any:=fun hm hno _ h=>wp_region_any hm (wK hno _ _ _ _ h)
variable [Glob]
section
variable {c : Cx} {w00 w0 : World} {n : Nat} {gs : Fr} {st : St} {a : Act}
theorem cI.gok {next:Nat} (r:cI c w0 next):GOk c.B c.w:=
 ⟨abX r.jY.1 r.below.size,r.jY.2.1,Glob.ok w0 c.w (fun k hk=>r.below.block k (abW hk r.jY.2.1)) r.jY.2.2⟩
theorem Rel.YT {c' : Cx} (r:Rel c w00 n gs st a) (h:Evo c c') (hh:c'.heap=st.heap) (hH:cI c' w0 st.next):Rel c' w0 n gs st a:=
 ⟨hh,hH,r.size,r.regs.evo h,gs.ok c c' (h.toK _) r.frames,r.nj,r.base,r.defers.evo h⟩
def Cx.others (c:Cx) (X:Nat->Prop):Cx:={ c with J0:=⟨fun b o=>c.J0.J b o\/X b,fun b=>c.J0.X b\/X b⟩ }
theorem Evo.others (X:Nat->Prop):Evo c (c.others X):=by
 refine ⟨fun b o hi=>⟨?_,rfl⟩,fun id b hb=>⟨b,hb,by cases b<;>simp [cK,Cx.others]⟩⟩
 rcases hi with ⟨h1,h2⟩|⟨h1,h2,h3⟩
 ·exact .inl ⟨h1.imp (fun h=>h) .inl,.inl h2⟩
 ·by_cases hx:X b
  ·exact .inl ⟨.inr (.inr hx),.inr hx⟩
  ·refine .inr ⟨fun h=>?_,h2,h3⟩
   rcases h with h|h|h
   ·exact h1 (.inl h)
   ·exact h1 (.inr h)
   ·exact hx h
theorem Rel.others (r:Rel c w0 n gs st a) (X:Nat->Prop) (hX:∀b,X b->b<c.w.heap.size) (hn:∀b,X b->∀id blk,look c.heap id=some blk->Ph (c.pl id) blk->(c.pl id).gb≠b):Rel (c.others X) c.w n gs st a:=by
 refine r.YT (Evo.others X) r.heap ⟨Below.refl _ _,?_,r.hrel.gok,fun id b hl=>cw.evo (Evo.others X) rfl (fun _=>rfl) (r.hrel.blk id b hl),r.hrel.lt,?_,r.hrel.inj⟩
 ·rintro b (hb|hb)
  ·exact ⟨abW (r.hrel.other b hb).1 r.hrel.below.size,rfl⟩
  ·exact ⟨hX b hb,rfl⟩
 ·intro id b hl hp hold
  rcases hold with h|h|h
  ·exact r.hrel.ge id b hl hp (.inl h)
  ·exact r.hrel.ge id b hl hp (.inr h)
  ·exact hn _ h id b hl hp rfl
theorem Rel.UQ (r:Rel c w0 n gs st a) {L:Nat} {o o' : Obj} (hL:c.J0.X L) (hB:c.B<=L) (ho:c.w.heap[L]? = some o) (h1:o.isCells=false) (h2:o'.isCells=false):Rel { c with w:=c.w.putObj L o' } (c.w.putObj L o') n gs st a:=by
 have hlt:L<c.w.heap.size:=(acr.1 ho).1;have hsz:(c.w.putObj L o').heap.size=c.w.heap.size:=by simp [World.putObj]
 have hcell:∀b i,(c.w.putObj L o').cell? ⟨b,i,none⟩=c.w.cell? ⟨b,i,none⟩:=by
  intro b i;by_cases hb:b=L
  ·subst hb
   unfold World.cell?;rw [World.putObj_heap_same hlt,ho]
   cases o<;>cases o'<;>simp_all [Obj.isCells]
  ·exact World.cell?_of_block (World.putObj_heap_other (fun e=>hb e))
 have hev:Evo c { c with w:=c.w.putObj L o' }:=by
  refine ⟨fun b i hi=>⟨?_,hcell b i⟩,fun id b hb=>⟨b,hb,by cases b<;>simp [cK]⟩⟩
  rcases hi with h|⟨h1,h2,h3⟩
  ·exact .inl h
  ·exact .inr ⟨h1,by rw [hsz];exact h2,h3⟩
 refine r.YT hev r.heap ⟨Below.refl _ _,fun b hb=>⟨by rw [hsz];exact abW (r.hrel.other b hb).1 r.hrel.below.size,rfl⟩,?_,?_,r.hrel.lt,r.hrel.ge,r.hrel.inj⟩
 ·obtain ⟨g1,g2,g3⟩:=r.hrel.gok
  exact ⟨by rw [hsz];exact g1,g2,Glob.ok c.w _ (fun k hk=>World.putObj_heap_other (by omega)) g3⟩
 ·intro id b hl
  refine cw.evo hev rfl (fun hp=>World.putObj_heap_other ?_) (r.hrel.blk id b hl);rintro rfl;exact r.hrel.ge id b hl hp (.inr hL)
end
end Uw
namespace Uw
open Go Go.RowKit
variable [Glob]
theorem mT {B L:Nat} {w:World} {o:Obj} (h:B<=L):Below B w (w.putObj L o):=
 ⟨rfl,rfl,rfl,by simp [World.putObj],fun k hk=>World.putObj_heap_other (fun e=>absurd e (by omega))⟩
theorem fold_size (ps:List (Tmp×Value)) (t:Array Value):(ps.foldl (fun t (p:Tmp×Value)=>t.setIfInBounds p.1 p.2) t).size=t.size:=by
 induction ps generalizing t with
 | nil=>rfl
 | cons p ps ih=>rw [acZ,ih];simp
def Iter (P:Program) (gf:FuncId) (lb:Array Value) (encs:Nat->Array Value) (N:Nat) (OK:World->Prop):Prop:=
 ∀(l:Nat) (J:Nat->World->Prop) (W:World),(∀k W1,J k W1->k<N->YieldAt Fence.wide 0 P l (encs k) W1 fun e W'=>e = .returned (.bool true)/\J (k+1) W')->(∀k W1,J k W1->OK W1)->J 0 W->
  CallsIn Fence.wide 0 P gf (#[.func (.yield l) #[] #[]]++lb) W fun e W'=>(∃v,e = .returned v)/\J N W'
section
variable {P : Program} {n : Nat} {gs : Fr} {c0 : Cx} {w00 : World} {a : Act}
def RI (n:Nat) (gs:Fr) (S:Nat->St) (c0:Cx) (a:Act) (rdy:Obj) (k:Nat) (W:World):Prop:=
 ∃c:Cx,c.w=W/\c.B=c0.B/\c.J0=(c0.others fun b=>b=c0.w.heap.size\/b=c0.w.heap.size+1).J0/\Rel c W n gs (S k) a/\Below c0.B c0.w W/\
  (∀b,c0.J0.X b->W.heap[b]? = c0.w.heap[b]?)/\W.heap[c0.w.heap.size]? = some (.deferred (some []))/\W.heap[c0.w.heap.size+1]? = some rdy
theorem RI.start {S:Nat->St} {rdy:Obj} (r:Rel c0 w00 n gs (S 0) a):RI n gs S c0 a rdy 0 ((c0.w.alloc (.deferred (some []))).alloc rdy):=by
 have hb:Below c0.w.heap.size c0.w ((c0.w.alloc (.deferred (some []))).alloc rdy):=((Below.refl _ c0.w).alloc (abu _) _).alloc (by simp) _;have r1:=r.grow hb;refine ⟨({ c0 with w:=(c0.w.alloc (.deferred (some []))).alloc rdy }:Cx).others (fun b=>b=c0.w.heap.size\/b=c0.w.heap.size+1),rfl,rfl,rfl,r1.others (fun b=>b=c0.w.heap.size\/b=c0.w.heap.size+1) ?_ ?_,hb.mono r.hrel.BM,fun b hx=>?_,?_,?_⟩
 ·rintro b (rfl|rfl)<;>simp<;>omega
 ·rintro b hx id blk hl hp rfl
  have:=r.hrel.iT hl hp
  rcases hx with h|h
  ·have h:(c0.pl id).gb=c0.w.heap.size:=h
   omega
  ·have h:(c0.pl id).gb=c0.w.heap.size+1:=h
   omega
 ·exact hb.block b (abW (r.hrel.other b hx).1 r.hrel.below.size)
 ·exact (Below.heap_alloc _ _ _ (by simp)).trans (World.alloc_heap_new c0.w _)
 ·have:=World.alloc_heap_new (c0.w.alloc (.deferred (some []))) rdy
  rwa [World.size_alloc] at this
theorem Q5 {g:Operand} {ps:Array Tmp} {as bd:Code} {Q:Exit->Act->World->Prop} {gf:Nat} {lb:Array Value} (hg:a.eval g = .func (.func gf) #[] lb) (eg:∀args w,(callFunc gf args).run P w = .ok (.enter gf args) w)
  (N:Nat) (encs:Nat->Array Value) (hps:∀k,(encs k).size=ps.size) (R:jf) (base:Nat) (S:Nat->St) (hS:∀k,(S k).regs=R/\(S k).defers=[]/\(S k).base=base) (r:Rel c0 w00 n gs (S 0) a)
  (OK:World->Prop) (hOK:∀c:Cx,gs.p c->(∀b,c0.J0.X b->c.w.heap[b]? = c0.w.heap[b]?)->OK c.w) (hit:Iter P gf lb encs N OK)
  {pol Z1 : Pol} {mas mbd:bR} (hcas:comp P n pol as=some mas) (Z2:comp P n Z1 bd=some mbd) (hn1:noD as=true) (hn2:noD bd=true) (XJ:Nat->jf)
  (YU:∀(k:Nat) (c:Cx),k<N->gs.p c->mP c R a.tmps->mP c (XJ k++R) ((ps.zip (encs k)).foldl (fun t (p,v)=>t.setIfInBounds p v) a.tmps))
  (round:∀k,k<N->WT P (fun e s=>e = .normal/\WT P (fun e s'=>e = .normal/\s'.defers=[]/\Weak ⟨R,s'.heap,s'.next,[],base⟩ (S (k+1))) (exec mbd s Tree.done)) (exec mas ⟨XJ k++R,(S k).heap,(S k).next,[],(S k).next⟩ Tree.done))
  (hdone:∀(c:Cx),c.B=c0.B->c.J0=(c0.others fun b=>b=c0.w.heap.size\/b=c0.w.heap.size+1).J0->Rel c c.w n gs (S N) a->Below c0.B c0.w c.w->c.w.heap[c0.w.heap.size]? = some (.deferred (some []))->
   Q .normal { a with defers:={ target:=.collected c0.w.heap.size,args:=#[] }::a.defers } c.w):(Code.rangeFunc g ps as bd).wp P Q a c0.w:=by
 refine (wpIn_wide (n:=0)).1 (wpIn_rangeFunc ?_);intro fn _;obtain ⟨rec,hrec⟩:∃rec:LoopState->Loop,rec=fun st=>{ state:=st,pending:=none,fn,tmps:=a.tmps,params:=ps,assign:=as,body:=bd,defers:=c0.w.heap.size }:=⟨_,rfl⟩
 obtain ⟨W1,hW1⟩:∃W1,(c0.w.alloc (.deferred (some []))).alloc (.loop (rec .ready))=W1:=⟨_,rfl⟩
 have h0:RI n gs S c0 a (.loop (rec .ready)) 0 W1:=by rw [<- hW1];exact RI.start r
 obtain ⟨L,hL⟩:∃L,c0.w.heap.size+1=L:=⟨_,rfl⟩
 have hBL:c0.B<=L:=by have:=r.hrel.BM;omega
 refine ⟨L,[{ target:=.collected c0.w.heap.size,args:=#[] }],W1,{ target:=.fn (.func gf) lb,args:=#[.func (.yield L) #[] #[]] },W1,gf,#[.func (.yield L) #[] #[]]++lb,W1,?_,?_,fun _ _=>trivial,?_,fun h=>(by simp [Fence.wide] at h),?_⟩
 ·rw [<- hW1,hrec,<- hL];exact run_enterLoop_outer _ _ _ _ _
 ·simp only [resolve,hg]
  simp [go_sem]
 ·simp [invoke,go_sem,eg]
 refine (hit L (RI n gs S c0 a (.loop (rec .ready))) W1 ?_ ?_ h0).mono ?_
 ·-- one round
  rintro k W ⟨c,rfl,hB,hJ,rk,hbel,hX,hD,hLo⟩ hk;rw [hL] at hLo;obtain ⟨e1,e2,e3⟩:=hS k;have hXL:c.J0.X L:=by rw [hJ];exact .inr (.inr hL.symm)
  have hXD:c.J0.X c0.w.heap.size:=by rw [hJ];exact .inr (.inl rfl)
  have hX0:∀b,c0.J0.X b->c.J0.X b:=fun b hb=>by rw [hJ];exact .inl hb
  have Z3:∀b,c0.J0.X b->b≠L:=fun b hb e=>by
   have h1:=(r.hrel.other b hb).1;have h2:=r.hrel.below.size;omega
  have hy:=run_yield (P:=P) (args:=encs k) hLo (by rw [hrec];exact hps k);rw [hrec] at hy;refine ⟨fn,_,as,bd,hy,roundIn_of_wpIn trivial ?_⟩;have rr:Rel c c.w n (BV gs (S k) a rk.frK) ⟨XJ k++R,(S k).heap,(S k).next,[],(S k).next⟩ { tmps:=(ps.zip (encs k)).foldl (fun t (p,v)=>t.setIfInBounds p v) a.tmps,defers:=[] }:=by
   refine ⟨rk.heap,rk.hrel,?_,YU k c hk rk.frames (by rw [<- e1];exact rk.regs),rk.W4,abu _,abu _,rfl⟩;have:=fold_size (ps.zip (encs k)).toList a.tmps;rw [<- adv];exact this.trans rk.size
  refine wpIn_mono (kF (bA P L 0) as mas hcas (.inr hn1) Tree.done c _ _ rr (round k hk)) ?_;rintro e a1 w1 ⟨c1,me,st1,b1,j1,rfl,x1,r1,hq1⟩;simp only [WT] at hq1;obtain ⟨rfl,hq1⟩:=hq1
  cases e<;>simp only [bE] at x1
  have o1:c1.w.heap[L]? = some (.loop (rec .ready)):=((r1.hrel.other L (by rw [j1];exact hXL)).2).trans hLo;refine ⟨_,run_beginRound o1 (by rw [hrec]),?_⟩;have r2:=r1.UQ (o':=.loop { rec .ready with state:=.busy }) (by rw [j1];exact hXL) (by rw [b1,hB];exact hBL) o1 rfl rfl;refine wpIn_mono (kF (bA P L 0) bd mbd Z2 (.inr hn2) Tree.done _ _ _ r2 hq1) ?_;rintro e a2 w2 ⟨c2,me,st2,b2,j2,rfl,x2,r3,hq2⟩;simp only [WT] at hq2;obtain ⟨rfl,hd2,hw2⟩:=hq2
  cases e<;>simp only [bE] at x2
  have hlt1:L<c1.w.heap.size:=(acr.1 o1).1;have o2:c2.w.heap[L]? = some (.loop { rec .ready with state:=.busy }):=((r3.hrel.other L (by rw [j2];show c1.J0.X L;rw [j1];exact hXL)).2).trans (World.putObj_heap_same hlt1);refine ⟨_,_,run_endRound none o2,rfl,?_⟩;have hfr:=r3.frames;have r4:Rel c2 (c1.w.putObj L (.loop { rec .ready with state:=.busy })) n gs ⟨R,st2.heap,st2.next,[],base⟩ a:=by
   refine ⟨r3.heap,r3.hrel,rk.size,fun i v hv=>(hfr.1 i v (by rw [e1];exact hv)).2,hfr.2.2,by rw [<- e3];exact rk.nj,?_,?_⟩
   ·rw [<- e3];exact abX rk.base (abX r3.nj r3.base)
   ·have:=hfr.2.1.2;rw [e2] at this;exact this
  obtain ⟨c3,b3,j3,w3,_,r5⟩:=r4.weak hw2;have hJ3:c3.J0=c.J0:=j3.trans (j2.trans j1);have hB3:c3.B=c0.B:=b3.trans (b2.trans (b1.trans hB));have r6:=r5.UQ (o:=.loop { rec .ready with state:=.busy }) (o':=.loop (rec .ready)) (by rw [hJ3];exact hXL) (by rw [hB3];exact hBL) (by rw [w3];exact o2) rfl rfl;have hlt2:L<c2.w.heap.size:=(acr.1 o2).1;rw [w3] at r6;have YV:(Obj.loop { ({ rec .ready with state:=.busy }:Loop) with state:=if (none:Option Code).isNone then .ready else .done,pending:=none }) = .loop (rec .ready):=by rw [hrec];rfl
  rw [YV];have keep:∀b,c.J0.X b->b≠L->(c2.w.putObj L (.loop (rec .ready))).heap[b]? = c.w.heap[b]?:=by
   intro b hb hbL;rw [World.putObj_heap_other hbL,(r3.hrel.other b (by rw [j2];show c1.J0.X b;rw [j1];exact hb)).2,World.putObj_heap_other hbL,(r1.hrel.other b (by rw [j1];exact hb)).2]
  refine ⟨{ c3 with w:=c2.w.putObj L (.loop (rec .ready)) },rfl,hB3,hJ3.trans hJ,r6,?_,fun b hb=>(keep b (hX0 b hb) (Z3 b hb)).trans (hX b hb),(keep _ hXD (by omega)).trans hD,?_⟩
  ·have q1:=r1.hrel.below
   have q2:=r3.hrel.below;rw [b1,hB] at q1;rw [b2,show ({ c1 with w:=c1.w.putObj L (.loop { rec .ready with state:=.busy }) }:Cx).B=c0.B from b1.trans hB] at q2;exact (((hbel.trans q1).trans (mT hBL)).trans q2).trans (mT hBL)
  ·rw [hL];exact World.putObj_heap_same hlt2
 ·rintro k W ⟨c,rfl,hB,hJ,rk,hbel,hX,hD,hLo⟩
  exact hOK c rk.frames hX
 ·rintro e W ⟨⟨v,rfl⟩,c,rfl,hB,hJ,rk,hbel,hX,hD,hLo⟩
  rw [hL] at hLo;have hXL:c.J0.X L:=by rw [hJ];exact .inr (.inr hL.symm)
  refine ⟨none,_,by have:=run_endLoop (P:=P) hLo (by rw [hrec];simp);rw [hrec] at this;exact this,?_⟩;have r1:=rk.UQ (o':=.loop { state:=.exhausted,pending:=none,fn,tmps:=a.tmps,params:=ps,assign:=as,body:=bd,defers:=c0.w.heap.size }) hXL (by rw [hB];exact hBL) hLo rfl rfl;exact hdone { c with w:=c.w.putObj L _ } hB hJ r1 (hbel.trans (mT hBL)) ((World.putObj_heap_other (by omega)).trans hD)
end
end Uw
namespace Uw
open Go Go.RowKit
def cL:Code->Code
 | .seq x _=>x
 | .block _ x=>x
 | .loop x=>x
 | .rangeFunc _ _ x _=>x
 | c=>c
def cR:Code->Code
 | .seq _ y=>y
 | .rangeFunc _ _ _ y=>y
 | c=>c
def gg (P:Program) (f:FuncId):Code:=match P.funcs[f]? with
 | some fn=>fn.body.getD .skip
 | none=>.skip
def MZ (P:Program) (f:FuncId) (n:Nat) (res:List kp) (code:Code):Prop:=∃fn,P.funcs[f]? = some fn/\fn.body=some code/\fn.ntmps=n/\gG P fn.results.toList=some res
variable [Glob]
section
variable {P : Program} {n : Nat} {gs : Fr} {c : Cx} {w0 : World} {st : St} {a : Act} {Q : Exit -> Act -> World -> Prop}
theorem Be {x y:Code} {pol:Pol} {m:bR} (hc:comp P n pol x=some m) (r:Rel c w0 n gs st a) (S1:St) (h:WT P (fun e s=>e = .normal/\Weak s S1) (exec m st Tree.done))
  (next:∀(c' : Cx) (a' : Act),c'.B=c.B->c'.J0=c.J0->Rel c' w0 n gs S1 a'->Code.wp P y Q a' c'.w):Code.wp P (.seq x y) Q a c.w:=by
 refine wp_seq (Go.wp_mono (kF (plainW P) x m hc (.inl rfl) Tree.done c st a r h) ?_);rintro e a' w' ⟨c1,me,st1,b1,j1,rfl,x1,r1,hq⟩;simp only [WT] at hq;obtain ⟨rfl,hw⟩:=hq
 cases e<;>simp only [bE] at x1
 obtain ⟨c2,b2,j2,w2,_,r2⟩:=r1.weak hw;have:=next c2 a' (b2.trans b1) (j2.trans j1) r2;rw [w2] at this;exact this
theorem zA.of {st st' : St} (h1:OB (di []) st.regs st.heap st'.heap st'.regs) (h2:QK (di []) st.heap st'.heap st'.next st'.heap) (h3:st'.base=st.base) (h4:Nat.ble st.base st'.next=true) (h5:EZ (di []) st.heap st'.heap st.base)
  (h6:eh st'.heap st'.defers=true) (h7:st.defers=nA (di []) st'.defers):zA (di []) st st':=
 ⟨fun i v h=>qa h1 i v h,fun i b h=>(kq h2 i b h).1,fun i b h=>(kq h2 i b h).2,h3,abA h4,nB h5,fun id id' _ _ he=>he,h6,h7⟩
theorem Rel.forget (r:Rel c w0 n gs st a) {st' : St} (h:zA (di []) st st') {id0:Nat} {cs0:List V} (hid:look st.heap id0=some (.var cs0)) (hno:look st'.heap id0=none) :
  Rel (c.weak (di []) st'.heap) w0 n gs st' a/\∀id blk,look (c.weak (di []) st'.heap).heap id=some blk->Ph ((c.weak (di []) st'.heap).pl id) blk->((c.weak (di []) st'.heap).pl id).gb≠(c.pl id0).gb:=by
 refine ⟨r.QF h,fun id blk hl hp hg=>?_⟩;have hs:∀id b',look st'.heap id=some b'->(∃b,look c.heap (di [] id)=some b/\pW (di []) c.heap st'.heap b b')\/(look c.heap (di [] id)=none/\iV b'):=by rw [r.heap];exact h.heap
 have hl' : look st'.heap id=some blk:=hl
 rcases hs id blk hl' with ⟨b,hb,dp⟩|⟨hn,hz⟩
 ·rw [fw hs hb] at hp hg
  rw [<- r.heap] at hid;have:=r.hrel.inj id id0 b _ hb hid (dp.ph hp) trivial hg;subst this;rw [hno] at hl';cases hl'
 ·rw [sK hs hn] at hp
  cases blk<;>simp [iV,Ph] at hz hp
theorem OH {c' : Cx} {fn:Func} {res:List kp} {J:Nat->Nat->Prop} {w:World} {st' : St} {a' : Act} (e5:Rel c' w0 n gs st' a') (hres:gG P fn.results.toList=some res) (hB:c'.B=w.heap.size)
  (hJ:∀b o,c'.Old b->c'.J0.J b o->J b o\/(w.heap.size<=b/\b<c'.w.heap.size))
  {vs:List V} {ds:List Dat} (g1:resV st' res=some vs) (g2:fJ st'.heap vs=some ds) (g3:vD st'.heap vs=true) :
  ∃v,(results fn a'.tmps).run P c'.w = .ok v c'.w/\aI c'.w (fun b o=>J b o\/(w.heap.size<=b/\b<c'.w.heap.size)) (fZ ds) v:=by
 have hk:Keeps c'.w c'.w (Imm c') (fun b o=>J b o\/(w.heap.size<=b/\b<c'.w.heap.size)):=by
  intro b o hi;refine ⟨?_,rfl⟩
  rcases hi with ⟨h1,hi⟩|⟨hi1,hi2,_⟩
  ·exact hJ b o h1 hi
  ·exact .inr ⟨acK fun h=>hi1 (.inl (by rw [hB];exact h)),hi2⟩
 obtain ⟨us,f1,f2⟩:=sL (P:=P) e5 hres g1;rw [<- e5.heap] at g2 g3;have k1:=wC e5.hrel hk (fun b o h1 h2=>.inr ⟨acK fun h=>h1 (.inl (by rw [hB];exact h)),h2⟩) g2 g3 f2;refine ⟨_,mR f1,?_⟩;have hl:=k1.length
 match ds,k1,hl with
 | [],k1,hl=>simp [aT] at k1;subst k1;exact ⟨[],by simp,rfl⟩
 | [d],k1,hl=>
  obtain ⟨u,us',rfl,h1,h2⟩:=k1;simp [aT] at h2;subst h2;simpa [fZ] using h1
 | d::d'::r,k1,hl=>
  rw [dif_neg (by simp at hl ⊢;omega)];exact ⟨us,rfl,k1⟩
def UR (w:World) (J:Nat->Nat->Prop) (r:Dat) (e:Ending) (w' : World):Prop:=∃v,e = .returned v/\aI w' (fun b o=>J b o\/(w.heap.size<=b/\b<w'.heap.size)) r v/\Below w.heap.size w w'
theorem XK {fn:Func} {res:List kp} {J:Nat->Nat->Prop} {w:World} {y:Code} {pol:Pol} {m:bR} {rr:Dat} (hres:gG P fn.results.toList=some res) (hc:comp P n pol y=some m) {D:Nat} (r:Rel c c.w n gs st a) (hd:a.defers=[])
  (hB:c.B=w.heap.size) (hX:c.J0.X D) (hXB:∀b,c.J0.X b->w.heap.size<=b) (hJ:∀b o,c.J0.J b o->J b o\/c.J0.X b) (hD:c.w.heap[D]? = some (.deferred (some []))) (hbel:Below w.heap.size w c.w)
  (h:WT P (KO res rr) (exec m st Tree.done)):Code.wp P y (bodyPostM Fence.wide 0 P fn (UR w J rr)) { a with defers:={ target:=.collected D,args:=#[] }::a.defers } c.w:=by
 have hex:=kF (tailW P [{ target:=.collected D,args:=#[] }]) y m hc (.inl rfl) Tree.done c st a r h;have e' : Code.wp P y (E6 [{ target:=.collected D,args:=#[] }] (Came P (KO res rr) Tree.done c c.w n gs)) (jv [{ target:=.collected D,args:=#[] }] a) c.w:=hex;have ea:jv [{ target:=.collected D,args:=#[] }] a={ a with defers:={ target:=.collected D,args:=#[] }::a.defers }:=by unfold jv;rw [hd];rfl
 rw [ea] at e';refine Go.wp_mono e' ?_;clear hex e';rintro ex a2 w2 ⟨a0,rfl,c',me,st',e1,e2,rfl,e4,e5,e6⟩;simp only [WT] at e6;obtain ⟨g1,g2,vs',ds,g3,g4,g5,rfl⟩:=e6;have hXD:c'.J0.X D:=by rw [e2];exact hX
 have hD2:c'.w.heap[D]? = some (.deferred (some [])):=(e5.hrel.other D hXD).2.trans hD;have hBD:c'.B<=D:=by rw [e1,hB];exact hXB D hX
 have e7:=e5.UQ (o':=.deferred none) hXD hBD hD2 rfl rfl;have hsz:(c'.w.putObj D (.deferred none)).heap.size=c'.w.heap.size:=by simp [World.putObj]
 obtain ⟨v,hv1,hv2⟩:=OH (P:=P) (w:=w) (J:=J) e7 hres (e1.trans hB) (by
  intro b o h1 h2
  rcases hJ b o (by rw [<- e2];exact h2) with h3|h3
  ·exact .inl h3
  ·refine .inr ⟨hXB b h3,?_⟩
   show b<(c'.w.putObj D (.deferred none)).heap.size;rw [hsz];have:=(e5.hrel.other b (by rw [e2];exact h3)).1;exact abW this e5.hrel.below.size) g3 g4 g5
 have YW:Below w.heap.size w (c'.w.putObj D (.deferred none)):=by
  have:=e5.hrel.below;rw [e1,hB] at this;exact (hbel.trans this).trans (mT (by rw [<- hB,<- e1];exact hBD))
 have hdf:a0.defers=[]:=by have:=e5.defers;rw [g2] at this;exact this
 have key:LeavesInM Fence.wide 0 P fn (jv [{ target:=.collected D,args:=#[] }] a0).tmps (UR w J (fZ ds)) (jv [{ target:=.collected D,args:=#[] }] a0).defers .returning c'.w:=by
  unfold jv;rw [hdf];exact ⟨by simp,.inl ⟨D,_,rfl,run_takeDeferred hD2,v,hv1,v,rfl,hv2,YW⟩⟩
 cases ex with
 | normal=>exact key
 | ret=>exact key
 | exit id=>cases me<;>simp only [bE] at e4;simp at g1
 | goto l=>cases me<;>simp only [bE] at e4
 | panic ch=>cases me<;>simp only [bE] at e4;simp at g1
 | outgrown=>cases me<;>simp only [bE] at e4
theorem OI {f:FuncId} {res:List kp} {code:Code} {args:List Dat} {rr:Dat} (hf:MZ P f n res code) (hn:args.length<=n)
  (h:∀(fn:Func) (w:World) (J:Nat->Nat->Prop) (c:Cx) (a:Act),gG P fn.results.toList=some res->c.B=w.heap.size->c.J0=⟨J,fun _=>False⟩->c.w=w->a.defers=[]->Rel c w n Fr.none (pC args) a->Code.wp P code (bodyPostM Fence.wide 0 P fn (UR w J rr)) a w):Ret P f args rr:=by
 obtain ⟨fn,h1,h2,h3,h4⟩:=hf;intro w J vs hG hrel;refine (callsIn_wide (n:=0)).1 (callsIn_of_wp_marks h1 h2 trivial ?_ rfl);rw [h3];exact wpIn_wide.2 (h fn w J _ _ h4 rfl rfl rfl rfl (Rel.init hG hrel hn))
end
end Uw
namespace Uw
open Go
variable [Glob]
def US (ρ:Nat->Nat) (H h0:Heap):Nat->List Blk->Prop
 | _,[]=>True
 | i,b'::r=>((∃b,look H (ρ i)=some b/\pW ρ H h0 b b')\/(look H (ρ i)=none/\iV b'))/\US ρ H h0 (i+1) r
theorem Q6 {ρ:Nat->Nat} {H h0:Heap}:∀{bs:List Blk} {i:Nat},US ρ H h0 i bs->∀j b',look (bk i bs) j=some b'->(∃b,look H (ρ j)=some b/\pW ρ H h0 b b')\/(look H (ρ j)=none/\iV b')
 | [],_,_,j,b',h=>by simp [bk,look] at h
 | b0::r,i,⟨h1,h2⟩,j,b',h=>by
  rw [bk,aE] at h;by_cases e:i=j
  ·subst e
   rw [if_pos rfl] at h;injection h with h;subst h;exact h1
  ·rw [if_neg e] at h
   exact Q6 h2 j b' h
theorem YX {P:Program} {Q:ay->St->Prop} {f:FuncId} {vs vs0:List V} {H:Heap} {nx:Nat} {k:Res->Heap->Nat->Tree} {bs:List Blk} {R0:Res->Heap->Nat->Prop} (ids:List Nat) (hs:bQ P f vs0 (bk 0 bs) bs.length R0)
  (hm:Nat.ble ids.length bs.length=true) (OE:(ids.all fun a=>Nat.blt a nx)=true) (hnd:CG ids=true) (hfit:US (nameOf ids nx) H (bk 0 bs) 0 bs) (hvs:VWL (nameOf ids nx) H (bk 0 bs) vs vs0)
  (h2:∀r0 h0 n0,R0 r0 h0 n0->WT P Q (k (r0.ren (nameOf ids nx)) (wI (nameOf ids nx) h0++H) (nx+(n0 - ids.length)))):WT P Q (.sub f vs H nx k):=by
 refine av (bQ.frame hs ids (abA hm) (fun a ha=>by have:=aby.1 OE a ha;simpa using this) (E5 hnd) (Q6 hfit) hvs) ?_;rintro r h n ⟨r0,h0,n0,h1,rfl,rfl,rfl⟩;exact h2 r0 h0 n0 h1
def eN (P:Program) (f:FuncId) (vs:List V) (bs:List Blk) (r:V) (bs' : List Blk):Prop:=bQ P f vs (bk 0 bs) bs.length fun r' h n=>r' = .val r/\h=bk 0 bs'/\n=bs'.length
section
variable {P : Program} {Q : ay -> St -> Prop} {f : FuncId} {vs vs0 : List V} {H : Heap} {k : Res -> Heap -> Nat -> Tree} {bs bs' : List Blk} {v : V} {d : Dat}
theorem cS (nx:Nat) (ids:List Nat) (hs:eN P f vs0 bs v bs')
  (h2:WT P Q (k (.val (v.ren (nameOf ids nx))) (wI (nameOf ids nx) (bk 0 bs')++H) (nx+(bs'.length - ids.length))))
  (hm:Nat.ble ids.length bs.length=true:=by rfl) (OE:(ids.all fun a=>Nat.blt a nx)=true:=by rfl) (hnd:CG ids=true:=by rfl)
  (hfit:US (nameOf ids nx) H (bk 0 bs) 0 bs:=by
   repeat' first
    | exact trivial
    | refine And.intro (Or.inl ⟨_,rfl,⟨rfl,rfl⟩⟩) ?_
    | refine And.intro (Or.inl ⟨_,rfl,⟨rfl,rfl,rfl⟩⟩) ?_
    | refine And.intro (Or.inl ⟨_,rfl,?_⟩) ?_
    | refine And.intro (Or.inr ⟨rfl,rfl⟩) ?_
    | refine And.intro (Or.inr ⟨rfl,rfl,rfl⟩) ?_
    | exact Gy (by first|with_reducible rfl|assumption|omega)
    | exact KR (by first|with_reducible rfl|assumption|omega|(simp;done)|(simp;omega)) rfl rfl
    | exact Or.inl ⟨rfl,rfl⟩
    | exact Or.inr (Or.inl ⟨rfl,by first|exact ⟨_,_,_,rfl,rfl,Or.inl rfl⟩|exact ⟨_,_,_,rfl,rfl,Or.inr rfl⟩⟩)
    | refine And.intro ?_ ?_)
  (hvs:VWL (nameOf ids nx) H (bk 0 bs) vs vs0:=by
   repeat' first
    | exact trivial
    | refine And.intro (Gy (by first|with_reducible rfl|assumption|omega)) ?_
    | refine And.intro (Or.inl ⟨rfl,rfl⟩) ?_
    | refine And.intro (Or.inr (Or.inl ⟨rfl,by first|exact ⟨_,_,_,rfl,rfl,Or.inl rfl⟩|exact ⟨_,_,_,rfl,rfl,Or.inr rfl⟩⟩)) ?_):WT P Q (.sub f vs H nx k):=by
 refine YX ids hs hm OE hnd hfit hvs ?_;rintro r0 h0 n0 ⟨rfl,rfl,rfl⟩;exact h2
theorem bQ.YY {P:Program} {f:FuncId} {vs:List V} {h:Heap} {nx:Nat} {R0 R:Res->Heap->Nat->Prop} (hs:bQ P f vs h nx R0)
  (hq:∀r h0 n0,R0 r h0 n0->∃v v' h1 n1,r = .val v/\Weak ⟨[(0,v)],h0,n0,[],nx⟩ ⟨[(0,v')],h1,n1,[],nx⟩/\R (.val v') h1 n1):bQ P f vs h nx R:=by
 refine ⟨hs.1,fun c w0 F gvs h1 h2 h3 h4 h5=>(hs.2 c w0 F gvs h1 h2 h3 h4 h5).mono ?_⟩;rintro e w' ⟨c',r,nx',e1,e2,e3,e4,e5,e6,e7,e8⟩;obtain ⟨v,v',h1',n1,rfl,hw,hr⟩:=hq _ _ _ e8
 cases e with
 | returned gv=>
  have r0:Rel c' w0 1 F ⟨[(0,v)],c'.heap,nx',[],nx⟩ { tmps:=#[gv],defers:=[] }:=by
   refine ⟨rfl,e4,rfl,?_,e6,h3,e5,rfl⟩;intro i u hu;rw [aE] at hu;by_cases hi:0=i
   ·subst hi
    rw [if_pos rfl] at hu;injection hu with hu;subst hu
    exact e7
   ·rw [if_neg hi] at hu;simp [look] at hu
  obtain ⟨c2,k1,k2,k3,k4,k5⟩:=r0.weak hw;refine ⟨c2,.val v',n1,k1.trans e1,k2.trans e2,k3.trans e3,k5.hrel,k5.base,k5.frames,?_,by rw [k5.heap];exact hr⟩;have:=k5.regs 0 v' (by simp [aE]);show aD c2 v' gv;simpa using this
 | panicked ch=>exact e7.elim
 | outgrown=>exact e7.elim
def EQ (b:Nat) (res:List kp) (v:V) (bs' : List Blk) (e:ay) (st:St):Prop:=(e = .normal\/e = .ret)/\st.defers=[]/\∃vs,resV st res=some vs/\Weak ⟨[(0,pX vs)],st.heap,st.next,[],b⟩ ⟨[(0,v)],bk 0 bs',bs'.length,[],b⟩
theorem dD {m:aP} (hf:az P f m) (hn:Nat.ble vs.length m.n=true) (hw:WT P (EQ bs.length m.res v bs') (exec m.code ⟨dM 0 vs,bk 0 bs,bs.length,[],bs.length⟩ Tree.done)):eN P f vs bs v bs':=by
 refine bQ.YY (R0:=fun r h n=>∃u,r = .val u/\Weak ⟨[(0,u)],h,n,[],bs.length⟩ ⟨[(0,v)],bk 0 bs',bs'.length,[],bs.length⟩) (qV hf hn (WT.mono ?_ _ hw)) ?_
 ·rintro e st ⟨he,hd,vs,hr,hw⟩
  refine ⟨st,.inl rfl,?_⟩
  rcases he with rfl|rfl<;>exact ⟨hd,vs,hr,_,rfl,hw⟩
 ·rintro r h0 n0 ⟨u,rfl,hw⟩
  exact ⟨u,v,_,_,rfl,hw,rfl,rfl,rfl⟩
theorem dh (b:Nat) {res:List kp} {vs' : List V} {st:St} (hd:st.defers=[]) (hr:resV st res=some vs') (hw:Weak ⟨[(0,pX vs')],st.heap,st.next,[],b⟩ ⟨[(0,v)],bk 0 bs',bs'.length,[],b⟩):WT P (EQ b res v bs') (.done .ret st):=⟨.inr rfl,hd,vs',hr,hw⟩
theorem wL (b:Nat) {res:List kp} {vs' : List V} {st:St} (hd:st.defers=[]) (hr:resV st res=some vs') (hw:Weak ⟨[(0,pX vs')],st.heap,st.next,[],b⟩ ⟨[(0,v)],bk 0 bs',bs'.length,[],b⟩):WT P (EQ b res v bs') (.done .normal st):=⟨.inl rfl,hd,vs',hr,hw⟩
end
end Uw
namespace Uw
open Go Go.RowKit
variable [Glob]
theorem K0 {ids:List Nat} {nx j:Nat} (hj:j<nx) (hn:ids.contains j=false) (i:Nat):nameOf ids nx i≠j:=by
 intro e
 rcases acp i ids.length with h|h
 ·have:=wJ (nx:=nx) h
  rw [e] at this;rw [List.contains_eq_mem] at hn;simp at hn;exact hn this
 ·rw [mS h] at e
  omega
theorem Weak.rest {ids:List Nat} {nx:Nat} {h0 H H' : Heap} {n n' : Nat} {regs Wa : jf} {ds:List V} {b:Nat} (hR:∀p∈Wa,look regs p.1=some p.2/\p.2.closed H' = true/\p.2=p.2.ren (di [])) (hH:∀p∈H',p.1<n'/\p.1<nx/\ids.contains p.1=false/\look H p.1=look H' p.1/\p.2.closed H' = true/\p.2=p.2.ren (di []))
  (hc:eh H' ds=true) (hd:ds=nA (di []) ds) (hb:b=0):Weak ⟨regs,wI (nameOf ids nx) h0++H,n,ds,b⟩ ⟨Wa,H',n',ds,b⟩:=by
 have hl:∀{α:Type} (l:List (Nat×α)) (i:Nat) (x:α),look l i=some x->(i,x)∈l:=by
  intro α l
  induction l with
  | nil=>intro i x h;simp [look] at h
  | cons p l ih=>
   intro i x h;obtain ⟨j,y⟩:=p;rw [aE] at h;by_cases e:j=i
   ·subst e;rw [if_pos rfl] at h;injection h with h;subst h;exact List.mem_cons_self ..
   ·rw [if_neg e] at h;exact adp _ (ih i x h)
 refine ⟨di [],?_,?_,?_,rfl,?_,?_,fun _ _ _ _ e=>e,hc,?_⟩
 ·intro i v' h
  obtain ⟨h1,h2,h3⟩:=hR _ (hl _ _ _ h);exact ⟨v',h1,.inl ⟨h3,h2⟩⟩
 ·intro id b' h
  obtain ⟨_,h2,h3,h4,h5,h6⟩:=hH _ (hl _ _ _ h);refine .inl ⟨b',?_,qZ h6 h5⟩;show look (wI (nameOf ids nx) h0++H) id=_;rw [kR,ju (K0 h2 h3)];show look H id=_;rw [h4,h]
 ·intro id x h
  exact (hH _ (hl _ _ _ h)).1
 ·subst hb;exact acD _
 ·subst hb;intro id h;exact absurd h (Nat.not_lt_zero _)
 ·exact hd
section
variable {P : Program} {Q : ay -> St -> Prop} {f : FuncId} {vs vs0 : List V} {H : Heap} {k : Res -> Heap -> Nat -> Tree} {bs bs' : List Blk} {v : V} {d : Dat}
end
end Uw
namespace Uw
open Go
variable [Glob]
end Uw
namespace Uw
open Go
structure Ev where
 F:FuncId->List Dat->Option Dat
 L:bR->St->Option (ay×St)
 S:FuncId->List V->Heap->Nat->Option (V×Heap×Nat)
variable [Glob]
structure aaP (P:Program) (E:Ev):Prop where
 F:∀f ds r,E.F f ds=some r->Ret P f ds r
 L:∀m st e st',E.L m st=some (e,st')->e≠.normal/\∃N,∀Q:ay->St->Prop,Q e st'->Rounds P m Q N st
 S:∀f vs h nx v h' n',E.S f vs h nx=some (v,h',n')->bQ P f vs h nx fun r h2 n2=>r = .val v/\h2=h'/\n2=n'
def Q7 (P:Program):List (Nat×aP)->Prop
 | []=>True
 | (f,m)::r=>az P f m/\Q7 P r
theorem M1 {P:Program}:∀{tab:List (Nat×aP)},Q7 P tab->∀f m,look tab f=some m->az P f m
 | [],_,_,_,h=>by cases h
 | (g,a)::r,⟨h1,h2⟩,f,m,h=>by
  rw [aE] at h
  split at h
  ·rename_i e
   injection h with h
   rw [<- e,<- h];exact h1
  ·exact M1 h2 f m h
end Uw
namespace Uw
open Go Go.RowKit
variable [Glob]
section
variable {c : Cx} {w0 : World} {nx : Nat} {J : Nat -> Nat -> Prop} (hh : cI c w0 nx) (hk : Keeps c.w c.w (Imm c) J)
include hh hk
theorem XL {id ver off len k:Nat} {xs:List (List Dat)} {gv:Value} (hl:look c.heap id=some (.mt k ver xs)) (hnew:0<(c.pl id).cap->∀o,J (c.pl id).gb o) (h:aD c (.ref id ver off len) gv):aI c.w J (.slice k ((xs.drop off).take len) false) gv:=by
 simp only [aD,hl] at h;obtain ⟨_,_,h⟩:=h;obtain ⟨h1,h2⟩:=h rfl;have hlen:((xs.drop off).take len).length=len:=by simp;omega
 rcases h2 with ⟨h2,h3,_⟩|⟨b,o,h2,h3⟩
 ·exact .inl ⟨⟨_,h2,by simp⟩,abz (by omega)⟩
 ·obtain ⟨b3,b4,bb⟩:=hh.blk id _ hl
  refine .inr ⟨b,o,(c.pl id).cap - off,by rw [hlen];exact h2,by rw [hlen];omega,by simp,?_⟩;by_cases hl0:len=0
  ·subst hl0;simp [b8]
  ·obtain ⟨vs,e,g1,g2,g3,g4⟩:=bb (by omega)
   obtain ⟨rfl,rfl⟩:=h3 (by omega);have hfl:=np b4 off len (by omega);refine b8.of_flat (us:=((vs.toList.take (xs.length * k)).drop (off * k)).take (len * k)) (fun x hx=>b4 x (acy (abR hx))) ?_ ?_
   ·rw [hfl];exact aT.keep hk _ _ ((g3.drop _).take _)
   ·intro j v hv
    refine ⟨?_,hnew (by omega) _,g4 v (acy (abR (abP hv)))⟩;rw [abw] at hv
    split at hv
    ·rw [abB,abw] at hv
     split at hv
     ·rw [bS g1];simpa using hv
     ·simp at hv
    ·simp at hv
def frz (h h' : Heap):List V->Option (List Dat)
 | []=>some []
 | .d x::r=>(frz h h' r).map (x::·)
 | .ref id ver off len::r=>match look h id,look h' id,frz h h' r with
  | some (.arr k xs),_,some l=>some (.slice k ((xs.drop off).take len) false::l)
  | some (.mt k dA xs),none,some l=>match Nat.beq ver dA with
   | true=>some (.slice k ((xs.drop off).take len) false::l)
   | false=>none
  | _,_,_=>none
 | _=>none
theorem Bf {h' : Heap} (hnew:∀id k ver xs,look c.heap id=some (.mt k ver xs)->look h' id=none->0<(c.pl id).cap->∀o,J (c.pl id).gb o):∀{vs:List V} {ds:List Dat} {us:List Value},frz c.heap h' vs=some ds->aC c vs us->aT c.w J ds us
 | [],ds,us,h,r=>by simp [frz] at h;subst h;simpa [aT,aC] using r
 | v::vs,ds,us,h,r=>by
  obtain ⟨u,us',rfl,r1,r2⟩:=r;unfold frz at h
  split at h
  ·rename_i heq;simp at heq
  ·rename_i x rr heq
   simp only [ab5] at heq;obtain ⟨rfl,rfl⟩:=heq;rw [abx] at h;obtain ⟨l,hl,rfl⟩:=h;exact ⟨u,us',rfl,aI.keep hk _ _ r1,Bf hnew hl r2⟩
  ·rename_i id ver off len rr heq
   simp only [ab5] at heq;obtain ⟨rfl,rfl⟩:=heq
   split at h
   ·rename_i k xs _ l hl1 hl2
    simp at h;subst h;exact ⟨u,us',rfl,aI.keep hk _ _ (ue hl1 r1),Bf hnew hl2 r2⟩
   ·rename_i k dA xs l hl1 hl2 hl3
    split at h
    ·rename_i hb
     simp at h;subst h;have hb:=abr hb;subst hb;exact ⟨u,us',rfl,XL hh hk hl1 (hnew _ _ _ _ hl1 hl2) r1,Bf hnew hl3 r2⟩
    ·simp at h
   ·simp at h
  ·simp at h
end
mutual
theorem Q8:∀v:V,v.ren (di [])=v
 | .ptr id o=>rfl
 | .kM id v i c=>rfl
 | .ref id v o l=>rfl
 | .agg cs=>by rw [V.ren,ng cs]
 | .func f fs cs=>by rw [V.ren,ng fs,ng cs]
 | .tuple cs=>by rw [V.ren,ng cs]
 | .d x=>rfl
 | .ro cs o=>rfl
 | .hnd id=>rfl
 | .row id len=>rfl
 | .undef=>rfl
theorem ng:∀l:List V,nA (di []) l=l
 | []=>rfl
 | v::r=>by rw [nA,Q8 v,ng r]
end
theorem bQ.freeze {P:Program} {f:FuncId} {vs:List V} {h:Heap} {nx:Nat} {R0 R:Res->Heap->Nat->Prop} (hs:bQ P f vs h nx R0)
  (hq:∀r h0 n0,R0 r h0 n0->∃cs ds h1 n1,r = .val (.agg cs)/\frz h0 h1 cs=some ds/\(∀id x,look h1 id=some x->look h0 id=some x/\x.closed h1=true/\id<n1)/\nx<=n1/\(∀id,id<nx->(look h0 id).isSome=true->(look h1 id).isSome=true)/\R (.val (.agg (ds.map V.d))) h1 n1):bQ P f vs h nx R:=by
 refine ⟨hs.1,fun c w0 F gvs h1 h2 h3 h4 h5=>(hs.2 c w0 F gvs h1 h2 h3 h4 h5).mono ?_⟩;rintro e w' ⟨c',r,nx',e1,e2,e3,e4,e5,e6,e7,e8⟩;obtain ⟨cs,ds,h1',n1,rfl,hd,hw,hn1,hkp,hr⟩:=hq _ _ _ e8
 cases e with
 | returned gv=>
  obtain ⟨us,rfl,e7⟩:=e7;have r0:Rel c' w0 0 F ⟨[],c'.heap,nx',[],nx⟩ { tmps:=#[],defers:=[] }:=
   ⟨rfl,e4,rfl,fun i v hv=>by simp [look] at hv,e6,h3,e5,rfl⟩
  have hwr:zA (di []) ⟨[],c'.heap,nx',[],nx⟩ ⟨[],h1',n1,[],nx⟩:=by
   refine ⟨fun i v hv=>by simp [look] at hv,fun i x hx=>.inl ⟨x,(hw i x hx).1,qZ ?_ (hw i x hx).2.1⟩,fun i x hx=>(hw i x hx).2.2,rfl,hn1,fun id hid=>⟨rfl,hkp id hid⟩,fun id id' _ _ he=>he,rfl,rfl⟩
   cases x with
   | var cs=>show Blk.var cs=Blk.var (nA (di []) cs);rw [ng]
   | _=>rfl
  have r1:=r0.QF hwr;have hs' : ∀id b',look h1' id=some b'->(∃b,look c'.heap (di [] id)=some b/\pW (di []) c'.heap h1' b b')\/(look c'.heap (di [] id)=none/\iV b'):=hwr.heap;refine ⟨c'.weak (di []) h1',.val (.agg (ds.map V.d)),n1,e1,e2,e3,r1.hrel,hn1,r1.frames,?_,hr⟩;refine ⟨us,rfl,aC.ofL ?_⟩;refine Bf (c:=c') e4 (iI hs') ?_ hd e7;intro id k ver xs hl hl1 hcap o;refine .inr ⟨e4.ge id _ hl hcap,e4.iT hl hcap,fun id2 XM g1 g2 g3=>?_⟩;exfalso;obtain ⟨k1,_,_⟩:=hw id2 XM g1;have hp:(c'.weak (di []) h1').pl id2=c'.pl id2:=fw hs' k1;rw [hp] at g2 g3;have:=e4.inj id2 id XM _ k1 hl g2 hcap g3;subst this;have g1:look h1' id2=some XM:=g1;rw [hl1] at g1;cases g1
 | panicked ch=>exact e7.elim
 | outgrown=>exact e7.elim
end Uw
namespace Uw
open Go
mutual
def Dat.eqb:Dat->Dat->Bool
 | .bool a,.bool b=>a == b
 | .int k a,.int k' b=>decide (k=k')&&decide (a=b)
 | .str a,.str b=>decide (a=b)
 | .nil,.nil=>true
 | .slice k xs z,.slice k' ys z'=>Nat.beq k k'&&(z == z')&&CH xs ys
 | .agg xs,.agg ys=>Iq xs ys
 | .func f,.func g=>Nat.beq f g
 | .nilFunc,.nilFunc=>true
 | .nilIface,.nilIface=>true
 | .nilPtr,.nilPtr=>true
 | .cv,.cv=>true
 | .iface t d,.iface t' d'=>Nat.beq t t'&&d.eqb d'
 | .tuple xs,.tuple ys=>Iq xs ys
 | _,_=>false
def Iq:List Dat->List Dat->Bool
 | [],[]=>true
 | x::r,y::r'=>x.eqb y&&Iq r r'
 | _,_=>false
def CH:List (List Dat)->List (List Dat)->Bool
 | [],[]=>true
 | x::r,y::r'=>Iq x y&&CH r r'
 | _,_=>false
end
mutual
def Dat.leb:Dat->Dat->Bool
 | .nil,.slice _ [] false=>true
 | .slice k xs _,.slice k' ys false=>Nat.beq k k'&&E8 xs ys
 | .agg xs,.agg ys=>CJ xs ys
 | .tuple xs,.tuple ys=>CJ xs ys
 | x,y=>x.eqb y
def CJ:List Dat->List Dat->Bool
 | [],[]=>true
 | x::r,y::r'=>x.leb y&&CJ r r'
 | _,_=>false
def E8:List (List Dat)->List (List Dat)->Bool
 | [],[]=>true
 | x::r,y::r'=>CJ x y&&E8 r r'
 | _,_=>false
end
mutual
theorem Dat.jo:∀(x y:Dat),x.eqb y=true->x=y
 | .bool a,y,h=>by cases y<;>simp [Dat.eqb] at h;rw [h]
 | .int k a,y,h=>by cases y<;>simp [Dat.eqb] at h;rw [h.1,h.2]
 | .str a,y,h=>by cases y<;>simp [Dat.eqb] at h;rw [h]
 | .nil,y,h=>by cases y<;>simp [Dat.eqb] at h;rfl
 | .slice k xs z,y,h=>by
  cases y<;>simp [Dat.eqb] at h
  rw [h.1.1,h.1.2,wN xs _ h.2]
 | .agg xs,y,h=>by
  cases y<;>simp [Dat.eqb] at h
  rw [wO xs _ h]
 | .func f,y,h=>by cases y<;>simp [Dat.eqb] at h;rw [h]
 | .nilFunc,y,h=>by cases y<;>simp [Dat.eqb] at h;rfl
 | .nilIface,y,h=>by cases y<;>simp [Dat.eqb] at h;rfl
 | .nilPtr,y,h=>by cases y<;>simp [Dat.eqb] at h;rfl
 | .cv,y,h=>by cases y<;>simp [Dat.eqb] at h;rfl
 | .iface t d,y,h=>by
  cases y<;>simp [Dat.eqb] at h
  rw [h.1,Dat.jo d _ h.2]
 | .tuple xs,y,h=>by
  cases y<;>simp [Dat.eqb] at h
  rw [wO xs _ h]
theorem wO:∀(x y:List Dat),Iq x y=true->x=y
 | [],y,h=>by cases y<;>simp [Iq] at h;rfl
 | a::r,y,h=>by
  cases y<;>simp [Iq] at h
  rw [Dat.jo a _ h.1,wO r _ h.2]
theorem wN:∀(x y:List (List Dat)),CH x y=true->x=y
 | [],y,h=>by cases y<;>simp [CH] at h;rfl
 | a::r,y,h=>by
  cases y<;>simp [CH] at h
  rw [wO a _ h.1,wN r _ h.2]
end
mutual
def V.eqb:V->V->Bool
 | .d x,.d y=>x.eqb y
 | .ptr a b,.ptr c d=>Nat.beq a c&&Nat.beq b d
 | .ro a b,.ro c d=>Iq a c&&Nat.beq b d
 | .kM a b c d,.kM a' b' c' d'=>Nat.beq a a'&&Nat.beq b b'&&Nat.beq c c'&&Nat.beq d d'
 | .ref a b c d,.ref a' b' c' d'=>Nat.beq a a'&&Nat.beq b b'&&Nat.beq c c'&&Nat.beq d d'
 | .agg a,.agg b=>Ek a b
 | .func f a b,.func g c d=>Nat.beq f g&&Ek a c&&Ek b d
 | .tuple a,.tuple b=>Ek a b
 | .hnd a,.hnd b=>Nat.beq a b
 | .row a b,.row c d=>Nat.beq a c&&Nat.beq b d
 | .undef,.undef=>true
 | _,_=>false
def Ek:List V->List V->Bool
 | [],[]=>true
 | x::r,y::r'=>x.eqb y&&Ek r r'
 | _,_=>false
end
mutual
theorem V.jo:∀(x y:V),x.eqb y=true->x=y
 | .d x,y,h=>by
  cases y<;>simp [V.eqb] at h
  rw [Dat.jo x _ h]
 | .ptr a b,y,h=>by cases y<;>simp [V.eqb] at h;rw [h.1,h.2]
 | .ro a b,y,h=>by cases y<;>simp [V.eqb] at h;rw [wO a _ h.1,h.2]
 | .kM a b c d,y,h=>by cases y<;>simp [V.eqb] at h;rw [h.1.1.1,h.1.1.2,h.1.2,h.2]
 | .ref a b c d,y,h=>by cases y<;>simp [V.eqb] at h;rw [h.1.1.1,h.1.1.2,h.1.2,h.2]
 | .agg a,y,h=>by
  cases y<;>simp [V.eqb] at h
  rw [q9 a _ h]
 | .func f a b,y,h=>by
  cases y<;>simp [V.eqb] at h
  rw [h.1.1,q9 a _ h.1.2,q9 b _ h.2]
 | .tuple a,y,h=>by
  cases y<;>simp [V.eqb] at h
  rw [q9 a _ h]
 | .hnd a,y,h=>by cases y<;>simp [V.eqb] at h;rw [h]
 | .row a b,y,h=>by cases y<;>simp [V.eqb] at h;rw [h.1,h.2]
 | .undef,y,h=>by cases y<;>simp [V.eqb] at h;rfl
theorem q9:∀(x y:List V),Ek x y=true->x=y
 | [],y,h=>by cases y<;>simp [Ek] at h;rfl
 | a::r,y,h=>by
  cases y<;>simp [Ek] at h
  rw [V.jo a _ h.1,q9 r _ h.2]
end
def OJ:Option V->Option V->Bool
 | none,none=>true
 | some x,some y=>x.eqb y
 | _,_=>false
theorem GM:∀{x y:Option V},OJ x y=true->x=y
 | none,none,_=>rfl
 | some x,some y,h=>by rw [V.jo x y h]
 | none,some _,h=>by cases h
 | some _,none,h=>by cases h
def OL:List (oz×Dat)->List (oz×Dat)->Bool
 | [],[]=>true
 | (k,x)::r,(k',y)::r'=>decide (k=k')&&x.eqb y&&OL r r'
 | _,_=>false
theorem M3:∀(x y:List (oz×Dat)),OL x y=true->x=y
 | [],y,h=>by cases y<;>simp [OL] at h;rfl
 | (k,a)::r,y,h=>by
  cases y with
  | nil=>simp [OL] at h
  | cons b s=>
   obtain ⟨k',b⟩:=b;simp only [OL,abq,decide_eq_true_eq] at h;rw [h.1.1,Dat.jo a b h.1.2,M3 r s h.2]
def Blk.eqb:Blk->Blk->Bool
 | .var a,.var b=>Ek a b
 | .arr k xs,.arr k' ys=>Nat.beq k k'&&CH xs ys
 | .mt k v xs,.mt k' v' ys=>Nat.beq k k'&&Nat.beq v v'&&CH xs ys
 | .iter s n,.iter s' n'=>decide (s=s')&&Nat.beq n n'
 | .map k es,.map k' es'=>decide (k=k')&&OL es es'
 | _,_=>false
theorem Blk.jo:∀(x y:Blk),x.eqb y=true->x=y
 | .var a,y,h=>by
  cases y<;>simp [Blk.eqb] at h
  rw [q9 a _ h]
 | .arr k a,y,h=>by
  cases y<;>simp [Blk.eqb] at h
  rw [h.1,wN a _ h.2]
 | .mt k v a,y,h=>by
  cases y<;>simp [Blk.eqb] at h
  rw [h.1.1,h.1.2,wN a _ h.2]
 | .iter s n,y,h=>by cases y<;>simp [Blk.eqb] at h;rw [h.1,h.2]
 | .map k es,y,h=>by
  cases y<;>simp [Blk.eqb] at h
  rw [h.1,M3 es _ h.2]
def M4 (ρ:Nat->Nat) (st:jf):jf->Bool
 | []=>true
 | (i,v)::r=>OJ (look st i) (some (v.ren ρ))&&M4 ρ st r
theorem Ir {ρ:Nat->Nat} {st:jf}:∀{r:jf},M4 ρ st r=true->r.map (fun p=>look st p.1)=r.map (fun p=>some (p.2.ren ρ))
 | [],_=>rfl
 | (i,v)::r,h=>by
  simp only [M4,abq] at h;rw [acj,acj,Ir h.2,GM h.1]
def M5 (ρ:Nat->Nat) (h:Heap):Heap->Bool
 | []=>true
 | (i,b)::r=>(match look h (ρ i) with|some b'=>b'.eqb (b.ren ρ)|none=>false)&&M5 ρ h r
theorem Is {ρ:Nat->Nat} {h:Heap}:∀{r:Heap},M5 ρ h r=true->r.map (fun p=>look h (ρ p.1))=r.map (fun p=>some (p.2.ren ρ))
 | [],_=>rfl
 | (i,b)::r,e=>by
  simp only [M5,abq] at e;obtain ⟨e1,e2⟩:=e
  split at e1
  ·rename_i b' hb
   rw [acj,acj,Is e2,hb,Blk.jo _ _ e1]
  ·cases e1
def Q9 (l:List (Nat×Nat)) (st st' : St):Bool:=
 M4 (di l) st.regs st'.regs&&(st'.regs.all fun p=>p.2.closed st'.heap)&&M5 (di l) st.heap st'.heap&&(st'.heap.all fun p=>p.2.closed st'.heap&&Nat.blt p.1 st'.next)
 &&Nat.beq st'.base st.base&&Nat.ble st.base st'.next&&Ik (di l) st.heap st'.heap st.base&&yQ (di l) (KP st'.heap)&&eh st'.heap st'.defers&&Ek st.defers (nA (di l) st'.defers)
def hasK {α:Type} (i:Nat):List (Nat×α)->Bool
 | []=>false
 | (j,_)::r=>Nat.beq i j||hasK i r
def once {α:Type}:List (Nat×α)->List (Nat×α)->List (Nat×α)
 | acc,[]=>acc
 | acc,(i,v)::r=>match hasK i acc with|true=>once acc r|false=>once ((i,v)::acc) r
def tidy (st:St):St:={ st with regs:=once [] st.regs,heap:=once [] st.heap }
mutual
def Wb:V->V->List (Nat×Nat)
 | .ptr a _,.ptr b _=>[(a,b)]
 | .ref a _ _ _,.ref b _ _ _=>[(a,b)]
 | .hnd a,.hnd b=>[(a,b)]
 | .row a _,.row b _=>[(a,b)]
 | .func _ a b,.func _ c d=>vH a c++vH b d
 | .agg a,.agg b=>vH a b
 | .tuple a,.tuple b=>vH a b
 | _,_=>[]
def vH:List V->List V->List (Nat×Nat)
 | x::r,y::r'=>Wb x y++vH r r'
 | _,_=>[]
end
def Wc (st:jf):jf->List (Nat×Nat)
 | []=>[]
 | (i,v)::r=>(match look st i with|some v'=>Wb v v' | none=>([]:List (Nat×Nat)))++Wc st r
def isN:ay->Bool
 | .normal=>true
 | _=>false
def YZ:Option Blk->Option Blk->List (Nat×Nat)
 | some (.var a),some (.var b)=>vH a b
 | _,_=>[]
def Rb (h h' : Heap):Nat->List (Nat×Nat)->List (Nat×Nat)->List (Nat×Nat)
 | 0,_,seen=>seen
 | _+1,[],seen=>seen
 | n+1,(a,b)::w,seen=>match hasK a seen with
  | true=>Rb h h' n w seen
  | false=>Rb h h' n (YZ (look h a) (look h' b)++w) ((a,b)::seen)
def Wg (s s' : St):List (Nat×Nat):=Rb s.heap s'.heap 3000 (Wc s'.regs s.regs++vH s.defers s'.defers) []
def reached (st:St):St:=
 let s:=tidy st
 { s with heap:=s.heap.filter fun p=>Nat.blt p.1 s.base||hasK p.1 (Wg s s) }
def Rf:List (ay×St)->Option (ay×St)
 | [x]=>some x
 | x::r=>match (x::r).all fun y=>isN y.1&&Q9 (Wg (reached x.2) y.2) y.2 (reached x.2) with
  | true=>some (.normal,reached x.2)
  | false=>none
 | []=>none
structure Rk where
 F:FuncId->List Dat->Option Dat
 L:bR->St->Option (ay×St)
 R:Nat->List DOp->St->Option (ay×St)
 S:FuncId->List V->Heap->Nat->Option (Res×Heap×Nat)
 D:FuncId->List V->Heap->Nat->Option Dat->Option (Heap×Nat)
noncomputable def rkT (E:Rk) (t:Tree):Option (ay×St):=
 Tree.rec (motive:=fun _=>Option (ay×St))
  (fun e st=>some (e,st))
  none
  (fun b _ _ y n=>match b with|true=>y|false=>n)
  (fun _ _ _ _=>none)
  (fun x y _ n=>match OJ x y with|true=>n|false=>none)
  (fun xs i _ k=>match xs[i]? with|some x=>k x|none=>none)
  (fun s i _ k=>match s[i]? with|some x=>k x|none=>none)
  (fun o _ k=>match o with|some x=>k x|none=>none)
  (fun o _ k=>match o with|some x=>k x|none=>none)
  (fun o _ k=>match o with|some x=>k x|none=>none)
  (fun h _ k=>k h)
  (fun f ds _ k=>match E.F f ds with|some r=>k r|none=>none)
  (fun f vs h nx _ k=>match E.S f vs h nx with|some x=>k x.1 x.2.1 x.2.2|none=>none)
  (fun c st _ k=>match c with
   | .loop m=>match E.L m st with|some x=>k x.1 x.2|none=>none
   | .draw n l=>match E.R n l st with|some x=>k x.1 x.2|none=>none
   | _=>none)
  t
noncomputable def rkB (E:Rk) (t:Tree):Option (List (ay×St)):=
 Tree.rec (motive:=fun _=>Option (List (ay×St)))
  (fun e st=>some [(e,st)])
  none
  (fun b _ _ y n=>match b with|true=>y|false=>n)
  (fun _ _ y n=>match y,n with|some a,some b=>some (a++b)|_,_=>none)
  (fun x y _ n=>match OJ x y with|true=>n|false=>none)
  (fun xs i _ k=>match xs[i]? with|some x=>k x|none=>none)
  (fun s i _ k=>match s[i]? with|some x=>k x|none=>none)
  (fun o _ k=>match o with|some x=>k x|none=>none)
  (fun o _ k=>match o with|some x=>k x|none=>none)
  (fun o _ k=>match o with|some x=>k x|none=>none)
  (fun h _ k=>k h)
  (fun f ds _ k=>match E.F f ds with|some r=>k r|none=>none)
  (fun f vs h nx _ k=>match E.S f vs h nx with|some x=>k x.1 x.2.1 x.2.2|none=>none)
  (fun c st _ k=>match c with
   | .loop m=>match E.L m st with|some x=>k x.1 x.2|none=>none
   | .draw n l=>match E.R n l st with|some x=>k x.1 x.2|none=>none
   | _=>none)
  t
def wP (res:List kp) (st:St):Option Dat:=
 match resV st res with
 | some vs=>match fJ st.heap vs,vD st.heap vs with
  | some ds,true=>some (fZ ds)
  | _,_=>none
 | none=>none
def M6 (E:Rk) (res:List kp) (x:ay×St):Option Dat:=
 match x.2.defers with
 | []=>match x.1 with
  | .ret=>wP res x.2
  | .normal=>wP res x.2
  | _=>none
 | [.func g fs cs]=>match x.1 with
  | .ret=>match E.D g (fs++cs) x.2.heap x.2.next none with
   | some y=>wP res { x.2 with heap:=y.1,next:=y.2 }
   | none=>none
  | .normal=>match E.D g (fs++cs) x.2.heap x.2.next none with
   | some y=>wP res { x.2 with heap:=y.1,next:=y.2 }
   | none=>none
  | .panic d=>match E.D g (fs++cs) x.2.heap x.2.next (some d) with
   | some y=>wP res { x.2 with heap:=y.1,next:=y.2 }
   | none=>none
  | _=>none
 | _=>none
def E9 (res:List kp) (x:ay×St):Option (Res×Heap×Nat):=
 match x.2.defers with
 | []=>match x.1 with
  | .ret=>match resV x.2 res with|some vs=>some (.val (pX vs),x.2.heap,x.2.next)|none=>none
  | .normal=>match resV x.2 res with|some vs=>some (.val (pX vs),x.2.heap,x.2.next)|none=>none
  | .panic d=>some (.pan d,x.2.heap,x.2.next)
  | _=>none
 | _=>none
def UT (nx:Nat) (x:Res×Heap×Nat):Option (Res×Heap×Nat):=
 let h1:=(once [] x.2.1).filter fun p=>Nat.blt p.1 nx
 match x.1 with
 | .val (.agg cs)=>match frz x.2.1 h1 cs,(h1.all fun p=>(match look x.2.1 p.1 with|some b=>b.eqb p.2|none=>false)&&p.2.closed h1&&Nat.blt p.1 x.2.2)&&Nat.ble nx x.2.2&&(x.2.1.all fun p=>!Nat.blt p.1 nx||hasK p.1 h1) with
  | some ds,true=>some (.val (.agg (ds.map V.d)),h1,x.2.2)
  | _,_=>none
 | _=>none
noncomputable def XO (orc:FuncId->List Dat->Option Dat) (orS:FuncId->List V->Heap->Nat->Option (Res×Heap×Nat)) (tab:List (Nat×aP)) (ra:List (Nat×yS)) (fz:List Nat) (E:Rk):Rk where
 F:=fun f ds=>match orc f ds with
  | some r=>some r
  | none=>match look tab f with
   | some m=>match Nat.ble ds.length m.n with
    | true=>match rkT E (exec m.code (pC ds) Tree.done) with
     | some x=>M6 E m.res x
     | none=>none
    | false=>none
   | none=>none
 L:=fun m st=>match rkT E (exec m st Tree.done) with
  | some (.normal,st')=>E.L m st'
  | r=>r
 R:=fun n l st=>match rkB E (uT l (keepR l st.regs) n [] [] st Tree.done) with
  | some xs=>Rf xs
  | none=>none
 S:=fun f vs h nx=>match orS f vs h nx with
  | some x=>some x
  | none=>match look tab f with
  | some m=>match Nat.ble vs.length m.n with
   | true=>match rkT E (exec m.code ⟨dM 0 vs,h,nx,[],nx⟩ Tree.done) with
    | some x=>match qK fz f with
     | true=>match E9 m.res x with|some y=>UT nx y|none=>none
     | false=>E9 m.res x
    | none=>none
   | false=>none
  | none=>none
 D:=fun g vs h nx mode=>match look ra g with
  | some m=>match Nat.ble vs.length m.n with
   | true=>match rkT E (MX m (put (some m.t) (.d (E0 mode)) ⟨dM 0 vs,h,nx,[],nx⟩) Tree.done) with
    | some (.ret,st)=>match st.defers with|[]=>some (st.heap,st.next)|_=>none
    | some (.normal,st)=>match st.defers with|[]=>some (st.heap,st.next)|_=>none
    | _=>none
   | false=>none
  | none=>none
noncomputable def rkN (orc:FuncId->List Dat->Option Dat) (orS:FuncId->List V->Heap->Nat->Option (Res×Heap×Nat)) (tab:List (Nat×aP)) (ra:List (Nat×yS)) (fz:List Nat) (n:Nat):Rk:=
 Nat.rec (motive:=fun _=>Rk) ⟨fun _ _=>none,fun _ _=>none,fun _ _ _=>none,fun _ _ _ _=>none,fun _ _ _ _ _=>none⟩ (fun _ E=>XO orc orS tab ra fz E) n
variable [Glob]
theorem Rh {l:List (Nat×Nat)} {st st' : St} (h:Q9 l st st' = true):Weak st st':=by
 simp only [Q9,abq] at h;obtain ⟨⟨⟨⟨⟨⟨⟨⟨⟨h1,h2⟩,h3⟩,h4⟩,h5⟩,h6⟩,h7⟩,h8⟩,h9⟩,h10⟩:=h;exact Weak.eqs l (Ir h1) h2 (Is h3) h4 (abr h5) h6 h7 h8 h9 (q9 _ _ h10)
theorem DLe.jx {x y:Dat} (h:x.eqb y=true):DLe x y:=Dat.jo x y h ▸ .refl x
mutual
theorem Dat.XP:∀(x y:Dat),x.leb y=true->DLe x y
 | .slice k xs z,y,h=>by
  cases y with
  | slice k' ys z'=>
   cases z' with
   | false=>
    simp only [Dat.leb,abq] at h;rw [abr h.1];exact .slice (Iu xs ys h.2)
   | true=>exact DLe.jx (by simpa [Dat.leb] using h)
  | _=>exact DLe.jx (by simpa [Dat.leb] using h)
 | .agg xs,y,h=>by
  cases y with
  | agg ys=>exact .agg (rb xs ys (by simpa [Dat.leb] using h))
  | _=>exact DLe.jx (by simpa [Dat.leb] using h)
 | .tuple xs,y,h=>by
  cases y with
  | tuple ys=>exact .tuple (rb xs ys (by simpa [Dat.leb] using h))
  | _=>exact DLe.jx (by simpa [Dat.leb] using h)
 | .nil,y,h=>by
  cases y with
  | slice k' ys z'=>
   cases z'<;>cases ys<;>first|exact .nil _|(simp [Dat.leb,Dat.eqb] at h;done)
  | _=>exact DLe.jx (by simpa [Dat.leb] using h)
 | .bool a,y,h=>by exact DLe.jx (by cases y<;>simpa [Dat.leb] using h)
 | .int k a,y,h=>by exact DLe.jx (by cases y<;>simpa [Dat.leb] using h)
 | .str a,y,h=>by exact DLe.jx (by cases y<;>simpa [Dat.leb] using h)
 | .func a,y,h=>by exact DLe.jx (by cases y<;>simpa [Dat.leb] using h)
 | .nilFunc,y,h=>by exact DLe.jx (by cases y<;>simpa [Dat.leb] using h)
 | .nilIface,y,h=>by exact DLe.jx (by cases y<;>simpa [Dat.leb] using h)
 | .nilPtr,y,h=>by exact DLe.jx (by cases y<;>simpa [Dat.leb] using h)
 | .cv,y,h=>by exact DLe.jx (by cases y<;>simpa [Dat.leb] using h)
 | .iface t d,y,h=>by exact DLe.jx (by cases y<;>simpa [Dat.leb] using h)
theorem rb:∀(x y:List Dat),CJ x y=true->wF x y
 | [],y,h=>by cases y<;>simp [CJ] at h;exact .refl _
 | a::r,y,h=>by
  cases y with
  | nil=>simp [CJ] at h
  | cons b s=>
   simp only [CJ,abq] at h;exact .cons (Dat.XP a b h.1) (rb r s h.2)
theorem Iu:∀(x y:List (List Dat)),E8 x y=true->Gx x y
 | [],y,h=>by cases y<;>simp [E8] at h;exact .refl _
 | a::r,y,h=>by
  cases y with
  | nil=>simp [E8] at h
  | cons b s=>
   simp only [E8,abq] at h;exact .cons (rb a b h.1) (Iu r s h.2)
end
structure UU (P:Program) (E:Rk):Prop where
 F:∀f ds r,E.F f ds=some r->Ret P f ds r
 L:∀m st e st',E.L m st=some (e,st')->e≠.normal/\∃N,∀Q:ay->St->Prop,Q e st'->Rounds P m Q N st
 R:∀n l st e st',E.R n l st=some (e,st')->∀Q:ay->St->Prop,Q e st'->KC P (.draw n l) st Q
 S:∀f vs h nx r h' n',E.S f vs h nx=some (r,h',n')->bQ P f vs h nx fun r2 h2 n2=>r2=r/\h2=h'/\n2=n'
 D:∀f vs h nx mode h' n',E.D f vs h nx mode=some (h',n')->uw P f vs h nx mode fun h2 n2=>h2=h'/\n2=n'
theorem yX {P:Program} {E:Rk} (hE:UU P E) {Q:ay->St->Prop}:∀(t:Tree) (e:ay) (st:St),rkT E t=some (e,st)->Q e st->WT P Q t:=by
 intro t
 induction t with
 | done e0 st0=>
  intro e st h hq;injection h with h
  injection h with h1 h2
  subst h1 h2;exact hq
 | fail=>intro e st h _;cases h
 | test b y n hy hn=>
  intro e st h hq
  cases b with
  | true=>exact ah rfl (hy e st h hq)
  | false=>exact aS rfl (hn e st h hq)
 | both=>intro e st h _;cases h
 | same x y n ih=>
  intro e st h hq
  cases hx:OJ x y with
  | true=>simp only [rkT,hx] at h;exact aO (GM hx) (ih e st h hq)
  | false=>simp only [rkT,hx] at h;cases h
 | elem xs i k ih=>
  intro e st h hq
  cases hx:xs[i]? with
  | none=>simp only [rkT,hx] at h;cases h
  | some x=>simp only [rkT,hx] at h;exact aF x hx (ih x e st h hq)
 | byte xs i k ih=>
  intro e st h hq
  cases hx:xs[i]? with
  | none=>simp only [rkT,hx] at h;cases h
  | some x=>simp only [rkT,hx] at h;exact A5 x hx (ih x e st h hq)
 | val o k ih=>
  intro e st h hq
  cases o with
  | none=>cases h
  | some x=>exact QJ x rfl (ih x e st h hq)
 | blk o k ih=>
  intro e st h hq
  cases o with
  | none=>cases h
  | some x=>exact Gw x rfl (ih x e st h hq)
 | Eg o k ih=>
  intro e st h hq
  cases o with
  | none=>cases h
  | some x=>exact A6 x rfl (ih x e st h hq)
 | heq hh k ih=>intro e st h hq;exact MU (ih hh e st h hq)
 | call f ds k ih=>
  intro e st h hq
  cases hx:E.F f ds with
  | none=>simp only [rkT,hx] at h;cases h
  | some x=>simp only [rkT,hx] at h;exact aL x (hE.F f ds x hx) (ih x e st h hq)
 | sub f vs hh nx k ih=>
  intro e st h hq
  cases hx:E.S f vs hh nx with
  | none=>simp only [rkT,hx] at h;cases h
  | some x=>
   obtain ⟨v,h',n'⟩:=x;simp only [rkT,hx] at h;refine av (hE.S f vs hh nx v h' n' hx) ?_;rintro r h2 n2 ⟨rfl,rfl,rfl⟩;exact ih r h2 n2 e st h hq
 | code c st0 k ih=>
  intro e st h hq
  cases c with
  | loop m=>
   cases hx:E.L m st0 with
   | none=>simp only [rkT,hx] at h;cases h
   | some x=>
    obtain ⟨e1,st1⟩:=x;simp only [rkT,hx] at h;obtain ⟨_,N,hN⟩:=hE.L m st0 e1 st1 hx;exact fN N (hN _ (ih e1 st1 e st h hq))
  | draw n l=>
   cases hx:E.R n l st0 with
   | none=>simp only [rkT,hx] at h;cases h
   | some x=>
    obtain ⟨e1,st1⟩:=x;simp only [rkT,hx] at h;exact qW (hE.R n l st0 e1 st1 hx _ (ih e1 st1 e st h hq))
  | skip=>cases h
  | ops=>cases h
  | seq=>cases h
  | cond=>cases h
  | block=>cases h
  | exit=>cases h
  | ret=>cases h
theorem XQ {P:Program} {E:Rk} (hE:UU P E) {Q:ay->St->Prop}:∀(t:Tree) (xs:List (ay×St)),rkB E t=some xs->(∀x∈xs,Q x.1 x.2)->WT P Q t:=by
 intro t
 induction t with
 | done e0 st0=>
  intro xx h hq;injection h with h
  subst h;exact hq _ (ac4.2 rfl)
 | fail=>intro xx h _;cases h
 | test b y n hy hn=>
  intro xx h hq
  cases b with
  | true=>exact ah rfl (hy xx h hq)
  | false=>exact aS rfl (hn xx h hq)
 | both y n hy hn=>
  intro xx h hq
  cases ha:rkB E y with
  | none=>simp only [rkB] at h ha;rw [ha] at h;cases h
  | some a=>cases hb:rkB E n with
   | none=>simp only [rkB] at h ha hb;rw [ha,hb] at h;cases h
   | some b=>
    have h:(match rkB E y,rkB E n with|some a,some b=>some (a++b)|_,_=>none)=some xx:=h;rw [ha,hb] at h;injection h with h
    subst h;exact wE (hy a ha fun x hx=>hq x (abM.2 (.inl hx))) (hn b hb fun x hx=>hq x (abM.2 (.inr hx)))
 | same x y n ih=>
  intro xx h hq
  cases hx:OJ x y with
  | true=>simp only [rkB,hx] at h;exact aO (GM hx) (ih xx h hq)
  | false=>simp only [rkB,hx] at h;cases h
 | elem xs i k ih=>
  intro xx h hq
  cases hx:xs[i]? with
  | none=>simp only [rkB,hx] at h;cases h
  | some x=>simp only [rkB,hx] at h;exact aF x hx (ih x xx h hq)
 | byte xs i k ih=>
  intro xx h hq
  cases hx:xs[i]? with
  | none=>simp only [rkB,hx] at h;cases h
  | some x=>simp only [rkB,hx] at h;exact A5 x hx (ih x xx h hq)
 | val o k ih=>
  intro xx h hq
  cases o with
  | none=>cases h
  | some x=>exact QJ x rfl (ih x xx h hq)
 | blk o k ih=>
  intro xx h hq
  cases o with
  | none=>cases h
  | some x=>exact Gw x rfl (ih x xx h hq)
 | Eg o k ih=>
  intro xx h hq
  cases o with
  | none=>cases h
  | some x=>exact A6 x rfl (ih x xx h hq)
 | heq hh k ih=>intro xx h hq;exact MU (ih hh xx h hq)
 | call f ds k ih=>
  intro xx h hq
  cases hx:E.F f ds with
  | none=>simp only [rkB,hx] at h;cases h
  | some x=>simp only [rkB,hx] at h;exact aL x (hE.F f ds x hx) (ih x xx h hq)
 | sub f vs hh nx k ih=>
  intro xx h hq
  cases hx:E.S f vs hh nx with
  | none=>simp only [rkB,hx] at h;cases h
  | some x=>
   obtain ⟨v,h',n'⟩:=x;simp only [rkB,hx] at h;refine av (hE.S f vs hh nx v h' n' hx) ?_;rintro r h2 n2 ⟨rfl,rfl,rfl⟩;exact ih r h2 n2 xx h hq
 | code c st0 k ih=>
  intro xx h hq
  cases c with
  | loop m=>
   cases hx:E.L m st0 with
   | none=>simp only [rkB,hx] at h;cases h
   | some x=>
    obtain ⟨e1,st1⟩:=x;simp only [rkB,hx] at h;obtain ⟨_,N,hN⟩:=hE.L m st0 e1 st1 hx;exact fN N (hN _ (ih e1 st1 xx h hq))
  | draw n l=>
   cases hx:E.R n l st0 with
   | none=>simp only [rkB,hx] at h;cases h
   | some x=>
    obtain ⟨e1,st1⟩:=x;simp only [rkB,hx] at h;exact qW (hE.R n l st0 e1 st1 hx _ (ih e1 st1 xx h hq))
  | skip=>cases h
  | ops=>cases h
  | seq=>cases h
  | cond=>cases h
  | block=>cases h
  | exit=>cases h
  | ret=>cases h
theorem Iw {res:List kp} {st:St} {r:Dat} (h:wP res st=some r):∃vs ds,resV st res=some vs/\fJ st.heap vs=some ds/\vD st.heap vs=true/\fZ ds=r:=by
 unfold wP at h
 split at h
 ·rename_i vs h1
  split at h
  ·rename_i ds h2 h3
   injection h with h
   exact ⟨vs,ds,h1,h2,h3,h⟩
  ·cases h
 ·cases h
theorem Ri {P:Program} {E:Rk} (hE:UU P E) {res:List kp} {x:ay×St} {r:Dat} (h:M6 E res x=some r):Io P res r x.1 x.2:=by
 obtain ⟨e,st⟩:=x;unfold M6 at h;simp only at h ⊢
 split at h
 ·rename_i hd
  have key:wP res st=some r->(e = .normal\/e = .ret)->Io P res r e st:=fun h he=>by
   obtain ⟨vs,ds,h1⟩:=Iw h;exact .inl ⟨he,hd,vs,ds,h1⟩
  cases e with
  | ret=>exact key h (.inr rfl)
  | normal=>exact key h (.inl rfl)
  | exit _=>cases h
  | panic _=>cases h
 ·rename_i g fs cs hd
  have key:∀mode,((e = .normal\/e = .ret)/\mode=none\/∃d,e = .panic d/\mode=some d)->(match E.D g (fs++cs) st.heap st.next mode with|some y=>wP res { st with heap:=y.1,next:=y.2 }|none=>none)=some r->Io P res r e st:=fun mode hm h=>by
   split at h
   ·rename_i y hy
    obtain ⟨h',n'⟩:=y;obtain ⟨vs,ds,h1⟩:=Iw h;refine .inr ⟨mode,g,fs,cs,hm,hd,uw.mono (hE.D g (fs++cs) st.heap st.next mode h' n' hy) ?_⟩;rintro _ _ ⟨rfl,rfl⟩;exact ⟨vs,ds,h1⟩
   ·cases h
  cases e with
  | ret=>exact key none (.inl ⟨.inr rfl,rfl⟩) h
  | normal=>exact key none (.inl ⟨.inl rfl,rfl⟩) h
  | exit _=>cases h
  | panic d=>exact key (some d) (.inr ⟨d,rfl,rfl⟩) h
 ·cases h
theorem Ix {res:List kp} {x:ay×St} {v:Res} {h' : Heap} {n' : Nat} (h:E9 res x=some (v,h',n')):Gu res (fun r h2 n2=>r=v/\h2=h'/\n2=n') x.1 x.2:=by
 obtain ⟨e,st⟩:=x;unfold E9 at h;simp only at h ⊢
 split at h
 ·rename_i hd
  cases e with
  | exit _=>cases h
  | panic d=>
   injection h with h
   injection h with h1 h2
   injection h2 with h2 h3
   exact ⟨hd,h1,h2,h3⟩
  | ret=>
   simp only at h
   split at h
   ·rename_i vs hv
    injection h with h
    injection h with h1 h2
    injection h2 with h2 h3
    exact ⟨hd,vs,hv,h1,h2,h3⟩
   ·cases h
  | normal=>
   simp only at h
   split at h
   ·rename_i vs hv
    injection h with h
    injection h with h1 h2
    injection h2 with h2 h3
    exact ⟨hd,vs,hv,h1,h2,h3⟩
   ·cases h
 ·cases h
theorem Fb {α:Type} {i:Nat}:∀{l:List (Nat×α)},hasK i l=true->(look l i).isSome=true
 | [],h=>by cases h
 | (j,a)::r,h=>by
  rw [aE]
  split
  ·rfl
  ·rename_i hne
   rw [hasK,abV] at h
   rcases h with h|h
   ·exact absurd (abr h).symm hne
   ·exact Fb h
theorem UV {P:Program} {f:FuncId} {vs:List V} {h:Heap} {nx:Nat} {r1:Res} {h1:Heap} {n1:Nat} (hs:bQ P f vs h nx fun r h2 n2=>r=r1/\h2=h1/\n2=n1) {v:Res} {h' : Heap} {n' : Nat} (e:UT nx (r1,h1,n1)=some (v,h',n')):bQ P f vs h nx fun r h2 n2=>r=v/\h2=h'/\n2=n':=by
 refine hs.freeze ?_;rintro _ _ _ ⟨rfl,rfl,rfl⟩;unfold UT at e;simp only at e
 split at e
 ·rename_i cs
  split at e
  ·rename_i ds hfr hb
   injection e with e
   injection e with e1 e2
   injection e2 with e2 e3
   rw [abq,abq] at hb;obtain ⟨⟨b1,b2⟩,b3⟩:=hb;subst e3;rw [e2] at hfr b1 b3;refine ⟨cs,ds,h',_,rfl,hfr,?_,abA b2,?_,e1,rfl,rfl⟩
   ·intro id x hx
    have hm:=aby.1 b1 (id,x) (qb hx);rw [abq,abq] at hm;obtain ⟨⟨m1,m2⟩,m3⟩:=hm;refine ⟨?_,m2,by simpa using m3⟩
    split at m1
    ·rename_i b hb
     have e:b=x:=Blk.jo _ _ m1;rw [<- e];exact hb
    ·cases m1
   ·intro id hid hs
    obtain ⟨x,hx⟩:=adT.1 hs;have hm:=aby.1 b3 (id,x) (qb hx);rw [abV] at hm
    rcases hm with hm|hm
    ·simp only [aci] at hm
     have:Nat.blt id nx=true:=by simpa using hid
     rw [this] at hm;cases hm
    ·exact Fb hm
  ·cases e
 ·cases e
theorem Rj {P:Program} {orc:FuncId->List Dat->Option Dat} {orS:FuncId->List V->Heap->Nat->Option (Res×Heap×Nat)} {tab:List (Nat×aP)} {ra:List (Nat×yS)} {fz:List Nat} (ho:∀f ds r,orc f ds=some r->Ret P f ds r) (hos:∀f vs h nx r h' n',orS f vs h nx=some (r,h',n')->bQ P f vs h nx fun r2 h2 n2=>r2=r/\h2=h'/\n2=n') (ht:∀f m,look tab f=some m->az P f m) (hd:∀f m,look ra f=some m->rP P f m):∀n,UU P (rkN orc orS tab ra fz n)
 | 0=>⟨fun _ _ _ h=>(by cases h),fun _ _ _ _ h=>(by cases h),fun _ _ _ _ _ h=>(by cases h),fun _ _ _ _ _ _ _ h=>(by cases h),fun _ _ _ _ _ _ _ h=>(by cases h)⟩
 | n+1=>by
  have ih:=Rj (fz:=fz) ho hos ht hd n;refine ⟨fun f ds r h=>?_,fun m st e st' h=>?_,fun k l st e st' h Q hq=>?_,fun f vs hh nx v h' n' h=>?_,fun f vs hh nx mode h' n' h=>?_⟩
  ·have h:(match orc f ds with
    | some r=>some r
    | none=>match look tab f with
     | some m=>match Nat.ble ds.length m.n with
      | true=>match rkT (rkN orc orS tab ra fz n) (exec m.code (pC ds) Tree.done) with
       | some x=>M6 (rkN orc orS tab ra fz n) m.res x
       | none=>none
      | false=>none
     | none=>none)=some r:=h
   split at h
   ·rename_i r' hr
    injection h with h
    exact ho f ds r (by rw [hr,h])
   ·split at h
    ·rename_i m hm
     split at h
     ·rename_i hn
      split at h
      ·rename_i x hx
       exact qY (ht f m hm) hn (yX ih _ x.1 x.2 hx (Ri ih h))
      ·cases h
     ·cases h
    ·cases h
  ·have h:(match rkT (rkN orc orS tab ra fz n) (exec m st Tree.done) with
    | some (.normal,st')=>(rkN orc orS tab ra fz n).L m st'
    | r=>r)=some (e,st'):=h
   split at h
   ·rename_i st2 hx
    obtain ⟨h1,N,hN⟩:=ih.L m st2 e st' h;exact ⟨h1,N+1,fun Q hq=>yX ih _ _ _ hx (hN Q hq)⟩
   ·rename_i r hne
    have hx:=h;have hen:e≠.normal:=fun e1=>hne st' (by rw [hx,e1]);refine ⟨hen,1,fun Q hq=>yX ih _ _ _ hx ?_⟩
    cases e with
    | normal=>exact absurd rfl hen
    | exit j=>exact hq
    | ret=>exact hq
    | panic d=>exact hq
  ·have h:(match rkB (rkN orc orS tab ra fz n) (uT l (keepR l st.regs) k [] [] st Tree.done) with
    | some xs=>Rf xs
    | none=>none)=some (e,st'):=h
   split at h
   ·rename_i xs hx
    refine uh (XQ ih _ xs hx ?_);unfold Rf at h
    split at h
    ·rename_i x
     injection h with h
     rintro y hy;rw [ac4.1 hy,h];exact ⟨st',.inl rfl,hq⟩
    ·rename_i x r _
     split at h
     ·rename_i hall
      injection h with h
      injection h with h1 h2
      subst h1 h2;rintro ⟨ey,sy⟩ hy;have hh:=aby.1 hall _ hy;rw [abq] at hh
      cases ey with
      | normal=>exact ⟨_,.inr (Rh hh.2),hq⟩
      | exit _=>cases hh.1
      | ret=>cases hh.1
      | panic _=>cases hh.1
     ·cases h
    ·cases h
   ·cases h
  ·have h:(match orS f vs hh nx with
    | some x=>some x
    | none=>match look tab f with
    | some m=>match Nat.ble vs.length m.n with
     | true=>match rkT (rkN orc orS tab ra fz n) (exec m.code ⟨dM 0 vs,hh,nx,[],nx⟩ Tree.done) with
      | some x=>match qK fz f with
       | true=>match E9 m.res x with|some y=>UT nx y|none=>none
       | false=>E9 m.res x
      | none=>none
     | false=>none
    | none=>none)=some (v,h',n'):=h
   split at h
   ·rename_i x hx
    injection h with h
    subst h;exact hos f vs hh nx v h' n' hx
   ·split at h
    ·rename_i m hm
     split at h
     ·rename_i hn
      split at h
      ·rename_i x hx
       split at h
       ·split at h
        ·rename_i y hy
         obtain ⟨r1,h1,n1⟩:=y;exact UV (A7 (ht f m hm) hn (yX ih _ x.1 x.2 hx (Ix hy))) h
        ·cases h
       ·exact A7 (ht f m hm) hn (yX ih _ x.1 x.2 hx (Ix h))
      ·cases h
     ·cases h
    ·cases h
  ·have h:(match look ra f with
    | some m=>match Nat.ble vs.length m.n with
     | true=>match rkT (rkN orc orS tab ra fz n) (MX m (put (some m.t) (.d (E0 mode)) ⟨dM 0 vs,hh,nx,[],nx⟩) Tree.done) with
      | some (.ret,st)=>match st.defers with|[]=>some (st.heap,st.next)|_=>none
      | some (.normal,st)=>match st.defers with|[]=>some (st.heap,st.next)|_=>none
      | _=>none
     | false=>none
    | none=>none)=some (h',n'):=h
   have key:∀m e st,look ra f=some m->Nat.ble vs.length m.n=true->rkT (rkN orc orS tab ra fz n) (MX m (put (some m.t) (.d (E0 mode)) ⟨dM 0 vs,hh,nx,[],nx⟩) Tree.done)=some (e,st)->(e = .normal\/e = .ret)->(match st.defers with|[]=>some (st.heap,st.next)|_=>none)=some (h',n')->uw P f vs hh nx mode fun h2 n2=>h2=h'/\n2=n':=by
    intro m e st hm hn hx he h
    split at h
    ·rename_i hdd
     injection h with h
     injection h with h1 h2
     exact jt (hd f m hm) hn (yX ih _ e st hx ⟨he,hdd,h1,h2⟩)
    ·cases h
   split at h
   ·rename_i m hm
    split at h
    ·rename_i hn
     split at h
     ·rename_i st hx
      exact key m _ st hm hn hx (.inr rfl) h
     ·rename_i st hx
      exact key m _ st hm hn hx (.inl rfl) h
     ·cases h
    ·cases h
   ·cases h
def Rl (P:Program):List (Nat×yS)->Prop
 | []=>True
 | (f,m)::r=>rP P f m/\Rl P r
theorem M7 {P:Program}:∀{tab:List (Nat×yS)},Rl P tab->∀f m,look tab f=some m->rP P f m
 | [],_,_,_,h=>by cases h
 | (g,a)::r,⟨h1,h2⟩,f,m,h=>by
  rw [aE] at h
  split at h
  ·rename_i e
   injection h with h
   rw [<- e,<- h];exact h1
  ·exact M7 h2 f m h
theorem XR {P:Program} {orc:FuncId->List Dat->Option Dat} {orS:FuncId->List V->Heap->Nat->Option (Res×Heap×Nat)} {tab:List (Nat×aP)} {ra:List (Nat×yS)} {fz:List Nat} (n:Nat) (ho:∀f ds r,orc f ds=some r->Ret P f ds r) (hos:∀f vs h nx r h' n',orS f vs h nx=some (r,h',n')->bQ P f vs h nx fun r2 h2 n2=>r2=r/\h2=h'/\n2=n') (ht:∀f m,look tab f=some m->az P f m) (hd:∀f m,look ra f=some m->rP P f m) {f:FuncId} {ds:List Dat} {r:Dat} (h:(rkN orc orS tab ra fz n).F f ds=some r):Ret P f ds r:=(Rj ho hos ht hd n).F f ds r h
end Uw
namespace Uw
open Go Go.RowKit
section
variable {P : Program} [Glob] {Q : ay -> St -> Prop} {t t' : Tree}
end
end Uw
