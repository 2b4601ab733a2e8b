/- L3: Un Uz Uz2 Uz3 Uz4 Uz5 Uz6 Uz7 Uz8 Uz9 Uza Uze Uzf Uzg Uzh Uzi Uzb Uzc Uzl Uzm Uzk Uzn Uzd (merged by merge2.py from the working texts). -/
import Derived.KernelRfl
import Derived.Test.YtikpfliiodgonaaGreatDoorL2
import Derived.LoopN
import Derived.Recover
import Derived.Carry
import Derived.ProofKit
import Derived.OpenShut
import Derived.SizedLaws
import Derived.Lib.SpaceUEq
import Derived.RangeFuncNested
import Derived.RangeFuncLeaves
set_option linter.unusedSimpArgs false
set_option linter.unnecessarySimpa false
set_option linter.unusedVariables false
set_option linter.unusedSectionVars false
namespace Uw
open Go Go.RowKit
variable [Glob]
theorem kN {P:Program} (S:WPS P) {n:Nat} {pol:Pol} {Q:az->St->Prop} {w0:World} {gs:Fr}:∀(code:Code) (m:bE),comp P n pol code=some m->(S.dfr=true\/noD code=true)->∀(q:az->St->Tree) (c:Cx) (st:St) (a:Act),Rel c w0 n gs st a->
  WT P Q (exec m st q)->S.W code (Came P Q q c w0 n gs) a c.w:=by
 intro code
 induction code with
 | skip=>
  intro m hc hdf q c st a r h;simp [comp] at hc;subst hc;exact S.skip ⟨c,.normal,st,rfl,rfl,rfl,trivial,r,h⟩
 | region id ops draw=>
  intro m hc hdf q c st a r h
  cases draw with
  | true=>
   simp only [comp] at hc
   split at hc
   ·rename_i l hm hl
    split at hc
    ·rename_i hd
     simp at hc;subst hc;have:=Ni S (id:=id) (Q:=Q) (q:=q) (w0:=w0) (gs:=gs) hdf hm hl hd r h;simpa using this
    ·rename_i hd
     have hc' : comp P n pol (.region id ops true)=some m:=by simp only [comp,hm,hl,hd];exact hc
     split at hc
     ·simp only [Y8] at hc;subst hc
      simp only [pL,rK,rL,pM,nB,pN,pO,rM,pP,WT] at h;exact h S n pol _ hc' hdf c w0 gs a r
     ·simp at hc
   ·simp at hc
  | false=>
   simp only [comp,Pe] at hc;obtain ⟨l,hl,rfl⟩:=hc;have:=uj (P:=P) (n:=n) (ops:=ops.toList) (Q:=Q) (q:=q) (w0:=w0) (gs:=gs) (c0:=c) ops.toList l none c st a hl rfl rfl r (by intro t w' h' hh;simp at hh) h;exact S.list D8 hdf (by simpa using this)
 | seq x y ihx ihy=>
  intro m hc hdf q c st a r h;simp only [comp] at hc
  split at hc
  ·rename_i mx my hx hy
   simp at hc;subst hc;simp only [pL,rK,rL,pM,nB,pN,pO,rM,pP] at h;refine S.seq (S.mono (ihx mx hx (hdf.imp id fun h=>by simp [noD] at h;exact h.1) _ c st a r h) ?_);intro e a' w' hq;obtain ⟨c',me,st',e1,e2,e3,e4,e5,e6⟩:=hq;subst e3
   cases e with
   | normal=>
    cases me<;>simp only [bu] at e4
    have:=ihy my hy (hdf.imp id fun h=>by simp [noD] at h;exact h.2) q c' st' a' e5 e6;refine S.mono this ?_;intro e a'' w'' ⟨c'',me',uU,f1,f2,f3,f4,f5,f6⟩;exact ⟨c'',me',uU,f1.trans e1,f2.trans e2,f3,f4,f5,f6⟩
   | exit id=>cases me<;>simp only [bu] at e4;rename_i j;exact ⟨c',.exit j,st',e1,e2,rfl,e4,e5,e6⟩
   | goto l=>cases me<;>simp only [bu] at e4
   | ret=>cases me<;>simp only [bu] at e4;exact ⟨c',.ret,st',e1,e2,rfl,trivial,e5,e6⟩
   | panic ch=>cases me<;>simp only [bu] at e4;rename_i d;exact ⟨c',.panic d,st',e1,e2,rfl,e4,e5,e6⟩
   | outgrown=>cases me<;>simp only [bu] at e4
  ·simp at hc
 | cond x y z ihy ihz=>
  intro m hc hdf q c st a r h;simp only [comp] at hc
  split at hc
  ·rename_i cx my mz hx hy hz
   simp at hc;subst hc;simp only [pL,rK,rL,pM,nB,pN,pO,rM,pP] at h
   split at h
   ·rename_i b hb
    have e:=aF r hx hb;simp only [aD,aG] at e;simp only [WT] at h;exact S.cond e (fun hb'=>ihy my hy (hdf.imp id fun h=>by simp [noD] at h;exact h.1) q c st a r (h.1 hb')) (fun hb'=>ihz mz hz (hdf.imp id fun h=>by simp [noD] at h;exact h.2) q c st a r (h.2 hb'))
   ·exact h.elim
  ·simp at hc
 | block id x ih=>
  intro m hc hdf q c st a r h;simp only [comp,Pe] at hc;obtain ⟨mx,hx,rfl⟩:=hc;simp only [pL,rK,rL,pM,nB,pN,pO,rM,pP] at h;refine S.block (S.mono (ih mx hx (hdf.imp (fun h=>h) fun h=>by simp [noD] at h;exact h) _ c st a r h) ?_);intro e a' w' hq;obtain ⟨c',me,st',e1,e2,e3,e4,e5,e6⟩:=hq
  cases e with
  | normal=>cases me<;>simp only [bu] at e4;exact ⟨c',.normal,st',e1,e2,e3,trivial,e5,e6⟩
  | exit j=>
   cases me<;>simp only [bu] at e4
   rename_i j';subst e4;simp only [Exit.inBlock];by_cases hj:j=id
   ·subst hj
    simp only [if_true];simp at e6;exact ⟨c',.normal,st',e1,e2,e3,trivial,e5,e6⟩
   ·have hb:Nat.beq j id=false:=by
     rw [Bool.eq_false_iff];intro hb;exact hj (wt hb)
    simp only [hb] at e6;simp only [hj,if_false];exact ⟨c',.exit j,st',e1,e2,e3,rfl,e5,e6⟩
  | goto l=>cases me<;>simp only [bu] at e4
  | ret=>cases me<;>simp only [bu] at e4;exact ⟨c',.ret,st',e1,e2,e3,trivial,e5,e6⟩
  | panic ch=>cases me<;>simp only [bu] at e4;rename_i d;exact ⟨c',.panic d,st',e1,e2,e3,e4,e5,e6⟩
  | outgrown=>cases me<;>simp only [bu] at e4
 | loop x ih=>
  intro m hc hdf q c st a r h;have hc':=hc;simp only [comp,Pe] at hc;obtain ⟨mx,hx,rfl⟩:=hc;simp only [pL,rK,rL,pM,nB,pN,pO,rM,pP,WT] at h;exact h S n pol _ hc' hdf c w0 gs a r
 | exit id=>
  intro m hc hdf q c st a r h;simp [comp] at hc;subst hc;exact S.exit ⟨c,.exit id,st,rfl,rfl,rfl,rfl,r,h⟩
 | ret=>
  intro m hc hdf q c st a r h;simp [comp] at hc;subst hc;exact S.ret ⟨c,.ret,st,rfl,rfl,rfl,trivial,r,h⟩
 | scope x ih=>
  intro m hc hdf q c st a r h;simp only [comp,Pe] at hc;obtain ⟨mx,hx,rfl⟩:=hc;have hd:S.dfr=true:=hdf.resolve_right (by simp [noD]);have h' : WT P Q (exec mx st q):=h;refine S.scope hd (S.mono (ih mx hx (.inl hd) q c st a r h') ?_);intro e a' w' hq;have hq':=hq;obtain ⟨c',me,st',e1,e2,e3,e4,e5,e6⟩:=hq
  cases e with
  | goto l=>cases me<;>simp only [bu] at e4
  | normal=>exact hq'
  | exit j=>exact hq'
  | ret=>exact hq'
  | panic ch=>exact hq'
  | outgrown=>exact hq'
 | label l=>
  intro m hc hdf q c st a r h;simp [comp] at hc;subst hc;exact S.label ⟨c,.normal,st,rfl,rfl,rfl,trivial,r,h⟩
 | _=>intro m hc;simp [comp] at hc
theorem WT.mono {P:Program} {Q Q' : az->St->Prop} (hq:∀e st,Q e st->Q' e st):∀(t:Tree),WT P Q t->WT P Q' t:=by
 intro t
 induction t with
 | done e st=>exact hq e st
 | fail=>exact fun h=>h
 | test b y n ih1 ih2=>exact fun h=>⟨fun hb=>ih1 (h.1 hb),fun hb=>ih2 (h.2 hb)⟩
 | elem xs i k ih=>rintro ⟨x,h1,h2⟩;exact ⟨x,h1,ih x h2⟩
 | byte s i k ih=>rintro ⟨x,h1,h2⟩;exact ⟨x,h1,ih x h2⟩
 | val o k ih=>rintro ⟨x,h1,h2⟩;exact ⟨x,h1,ih x h2⟩
 | blk o k ih=>rintro ⟨x,h1,h2⟩;exact ⟨x,h1,ih x h2⟩
 | A7 o k ih=>rintro ⟨x,h1,h2⟩;exact ⟨x,h1,ih x h2⟩
 | heq h k ih=>rintro ⟨x,h1,h2⟩;exact ⟨x,h1,ih x h2⟩
 | call f ds k ih=>rintro ⟨r,h1,h2⟩;exact ⟨r,h1,ih r h2⟩
 | both y n ih1 ih2=>exact fun h=>⟨ih1 h.1,ih2 h.2⟩
 | same x y t ih=>exact fun h=>⟨h.1,ih h.2⟩
 | sub f vs h nx k ih=>
  rintro ⟨hb,h⟩;refine ⟨hb,fun c w0 F gvs h1 h2 h3 h4 h5=>(h c w0 F gvs h1 h2 h3 h4 h5).mono ?_⟩;rintro e w' ⟨c',r,nx',e1,e2,e3,e4,e5,e6,e7,e8⟩;exact ⟨c',r,nx',e1,e2,e3,e4,e5,e6,e7,ih r _ nx' e8⟩
 | code m st k ih=>
  intro h S n pol code hc hdf c w0 gs a r;refine S.mono (h S n pol code hc hdf c w0 gs a r) ?_;intro e a' w' ⟨c',me,st',e1,e2,e3,e4,e5,e6⟩;exact ⟨c',me,st',e1,e2,e3,e4,e5,ih me st' e6⟩
mutual
def V.closed (h:Heap):V->Bool
 | .ptr id _=>(look h id).isSome
 | .kV id _ _ _=>(look h id).isSome
 | .ref id _ _ _=>(look h id).isSome
 | .agg cs=>eb h cs
 | .func _ fs cs=>eb h fs&&eb h cs
 | .tuple cs=>eb h cs
 | .d _=>true
 | .ro _ _=>true
 | .hnd id=>(look h id).isSome
 | .row id _=>(look h id).isSome
 | .undef=>true
def eb (h:Heap):List V->Bool
 | []=>true
 | v::r=>v.closed h&&eb h r
end
mutual
def V.ren (ρ:Nat->Nat):V->V
 | .ptr id o=>.ptr (ρ id) o
 | .kV id v i c=>.kV (ρ id) v i c
 | .ref id v o l=>.ref (ρ id) v o l
 | .agg cs=>.agg (nL ρ cs)
 | .func f fs cs=>.func f (nL ρ fs) (nL ρ cs)
 | .tuple cs=>.tuple (nL ρ cs)
 | .d x=>.d x
 | .ro cs o=>.ro cs o
 | .hnd id=>.hnd (ρ id)
 | .row id len=>.row (ρ id) len
 | .undef=>.undef
def nL (ρ:Nat->Nat):List V->List V
 | []=>[]
 | v::r=>v.ren ρ::nL ρ r
end
def Zero (ρ:Nat->Nat) (h h' : Heap) (v:V):Prop:=∃ver id k,v = .ref id ver 0 0/\look h (ρ id)=none/\(look h' id=some (.arr k [])\/look h' id=some (.mt k ver []))
def Tc (h:Heap) (v v' : V):Prop:=∃id ver off len k xs ys,v = .ref id ver off len/\look h id=some (.arr k xs)/\(xs.drop off).take len=ys/\v' = .d (.slice k ys false)
def VW0 (ρ:Nat->Nat) (h h' : Heap) (v v' : V):Prop:=(v=v'.ren ρ/\v'.closed h' = true)\/(v = .d .nil/\Zero ρ h h' v')\/v' = .undef\/Tc h v v'
def UN (ρ:Nat->Nat) (h h' : Heap):List V->List V->Prop
 | [],[]=>True
 | v::r,v'::r'=>VW0 ρ h h' v v'/\UN ρ h h' r r'
 | _,_=>False
def XS (v v' : V):Prop:=v = .d .nil/\∃k z,v' = .d (.slice k [] z)
def VW (ρ:Nat->Nat) (h h' : Heap) (v v' : V):Prop:=(v=v'.ren ρ/\v'.closed h' = true)\/(v = .d .nil/\Zero ρ h h' v')\/v' = .undef\/Tc h v v'\/(∃cs cs',v = .agg cs/\v' = .agg cs'/\UN ρ h h' cs cs')\/XS v v'
theorem VW0.up {ρ:Nat->Nat} {h h' : Heap} {v v' : V} (hw:VW0 ρ h h' v v'):VW ρ h h' v v':=by
 rcases hw with h|h|h|h
 ·exact .inl h
 ·exact .inr (.inl h)
 ·exact .inr (.inr (.inl h))
 ·exact .inr (.inr (.inr (.inl h)))
def VWL (ρ:Nat->Nat) (h h' : Heap):List V->List V->Prop
 | [],[]=>True
 | v::r,v'::r'=>VW ρ h h' v v'/\VWL ρ h h' r r'
 | _,_=>False
def pW (ρ:Nat->Nat) (h h' : Heap):Blk->Blk->Prop
 | .var cs,.var cs'=>VWL ρ h h' cs cs'
 | .arr k xs,.arr k' xs'=>k=k'/\xs=xs'
 | .mt k v xs,.mt k' v' xs'=>k=k'/\v=v'/\xs=xs'
 | .iter s p,.iter s' p'=>s=s'/\p=p'
 | .map k es,.map k' es'=>k=k'/\es=es'
 | _,_=>False
def ja:Blk->Prop
 | .arr _ xs=>xs=[]
 | .mt _ _ xs=>xs=[]
 | _=>False
structure x5 (ρ:Nat->Nat) (st st' : St):Prop where
 regs:∀i v',look st'.regs i=some v'->∃v,look st.regs i=some v/\VW ρ st.heap st'.heap v v'
 heap:∀id b',look st'.heap id=some b'->(∃b,look st.heap (ρ id)=some b/\pW ρ st.heap st'.heap b b')\/(look st.heap (ρ id)=none/\ja b')
 lt:∀id b,look st'.heap id=some b->id<st'.next
 base:st'.base=st.base
 next:st.base<=st'.next
 keep:∀id,id<st.base->ρ id=id/\((look st.heap id).isSome=true->(look st'.heap id).isSome=true)
 inj:∀id id',(look st'.heap id).isSome=true->(look st'.heap id').isSome=true->ρ id=ρ id'->id=id'
 defers:eb st'.heap st'.defers=true
 defers' : st.defers=nL ρ st'.defers
def Weak (st st' : St):Prop:=∃ρ,x5 ρ st st'
def Cx.gP (c:Cx) (ρ:Nat->Nat) (h' : Heap) (J:JX):Cx:={ c with J0:=J,heap:=h',pl:=fun i=>match look c.heap (ρ i) with|some _=>c.pl (ρ i)|none=>⟨0,0⟩ }
abbrev Cx.weak (c:Cx) (ρ:Nat->Nat) (h' : Heap):Cx:=c.gP ρ h' c.J0
section
variable {c : Cx} {h' : Heap} {ρ : Nat -> Nat} {J : JX} (hs : ∀ id b', look h' id = some b' -> (∃ b, look c.heap (ρ id) = some b /\ pW ρ c.heap h' b b') \/ (look c.heap (ρ id) = none /\ ja b'))
include hs
theorem fm {id:Nat} {b:Blk} (h:look c.heap (ρ id)=some b):(c.gP ρ h' J).pl id=c.pl (ρ id):=by simp [Cx.gP,h]
theorem rS {id:Nat} (h:look c.heap (ρ id)=none):(c.gP ρ h' J).pl id=⟨0,0⟩:=by simp [Cx.gP,h]
theorem Imm.weak (b o:Nat) (h:Imm c b o):Imm (c.weak ρ h') b o:=by
 rcases h with h|⟨h1,h2,h3⟩
 ·exact .inl h
 ·refine .inr ⟨h1,h2,fun id blk hl hph hg=>?_⟩
  rcases hs id blk hl with ⟨b0,hb,dM⟩|⟨hn,hz⟩
  ·rw [fm hs hb] at hph hg
   have XT:Ph (c.pl (ρ id)) b0:=by
    cases b0<;>cases blk<;>simp [pW] at dM<;>first|exact hph|trivial
   obtain ⟨k,xs,e,hlt⟩:=h3 (ρ id) b0 hb XT hg;subst e
   cases blk with
   | arr k' xs'=>obtain ⟨rfl,rfl⟩:=dM;exact ⟨k,xs,rfl,hlt⟩
   | _=>exact dM.elim
  ·rw [rS hs hn] at hph
   exfalso
   cases blk<;>simp [ja,Ph] at hz hph
theorem iJ:Keeps c.w c.w (Imm c) (Imm (c.weak ρ h')):=fun b o h=>⟨Imm.weak hs b o h,rfl⟩
theorem nu {id:Nat} {b:Blk} (hc:(look h' id).isSome=true) (hb:look c.heap (ρ id)=some b):∃b',look h' id=some b'/\pW ρ c.heap h' b b':=by
 cases hl:look h' id with
 | none=>rw [hl] at hc;simp at hc
 | some b'=>
  rcases hs id b' hl with ⟨b0,hb0,dM⟩|⟨hn,_⟩
  ·rw [hb] at hb0;injection hb0 with hb0;subst hb0;exact ⟨b',rfl,dM⟩
  ·rw [hb] at hn;cases hn
variable (hk : Keeps c.w c.w (Imm c) (Imm (c.gP ρ h' J)))
include hk
mutual
theorem aD.weak:∀(x:V) (v:Value),x.closed h' = true->aD c (x.ren ρ) v->aD (c.gP ρ h' J) x v
 | .d x,v,_,r=>aG.keep (hk) x v r
 | .ptr id off,v,hc,r=>by
  obtain ⟨⟨cs,h1⟩,h2⟩:=r;obtain ⟨b',hb',dM⟩:=nu hs hc h1
  cases b' with
  | var cs'=>exact ⟨⟨cs',hb'⟩,by rw [fm hs h1];exact h2⟩
  | _=>exact dM.elim
 | .ro cs off,v,_,r=>by
  obtain ⟨b,o,h1,h2⟩:=r;exact ⟨b,o,h1,du.keep (hk) _ _ _ h2⟩
 | .kV id ver i cc,v,hc,r=>by
  simp only [aD,V.ren] at r ⊢
  cases hl:look c.heap (ρ id) with
  | none=>rw [hl] at r;exact r.elim
  | some b=>
   obtain ⟨b',hb',dM⟩:=nu hs hc hl;rw [hl] at r;show jr (c.gP ρ h' J) id ver i cc v (look h' id);rw [hb']
   cases b with
   | mt k v0 xs=>
    cases b' with
    | mt k' v' xs'=>
     obtain ⟨rfl,rfl,rfl⟩:=dM;unfold jr at *;rw [fm hs hl];exact r
    | _=>exact dM.elim
   | _=>exact r.elim
 | .ref id ver off len,v,hc,r=>by
  simp only [aD,V.ren] at r ⊢
  cases hl:look c.heap (ρ id) with
  | none=>rw [hl] at r;exact r.elim
  | some b=>
   obtain ⟨b',hb',dM⟩:=nu hs hc hl;rw [hl] at r;show kB (c.gP ρ h' J) id ver off len v (look h' id);rw [hb']
   cases b with
   | mt k v0 xs=>
    cases b' with
    | mt k' v' xs'=>
     obtain ⟨rfl,rfl,rfl⟩:=dM;unfold kB at *;rw [fm hs hl];exact r
    | _=>exact dM.elim
   | arr k xs=>
    cases b' with
    | arr k' xs'=>
     obtain ⟨rfl,rfl⟩:=dM;unfold kB at *;rw [fm hs hl];obtain ⟨r1,r2⟩:=r;refine ⟨r1,?_⟩
     rcases r2 with r2|⟨b,o,cap,r2,r3,r4,r5⟩
     ·exact .inl r2
     ·exact .inr ⟨b,o,cap,r2,r3,bU.keep (hk) _ _ _ _ r4,r5⟩
    | _=>exact dM.elim
   | _=>exact r.elim
 | .agg cs,v,hc,r=>by
  obtain ⟨vs,h1,h2⟩:=r;exact ⟨vs,h1,aC.weak cs vs hc h2⟩
 | .func f fs cap,v,hc,r=>by
  obtain ⟨us,vs,h1,h2,h3⟩:=r;simp only [V.closed,i9] at hc;exact ⟨us,vs,h1,aC.weak fs us hc.1 h2,aC.weak cap vs hc.2 h3⟩
 | .tuple ds,v,hc,r=>by
  obtain ⟨vs,h1,h2⟩:=r;exact ⟨vs,h1,aC.weak ds vs hc h2⟩
 | .hnd id,v,hc,r=>by
  simp only [aD,V.ren] at r ⊢
  cases hl:look c.heap (ρ id) with
  | none=>rw [hl] at r;exact r.elim
  | some b=>
   obtain ⟨b',hb',dM⟩:=nu hs hc hl;rw [hl] at r;show eP (c.gP ρ h' J) id v (look h' id);rw [hb']
   cases b with
   | iter s p=>
    cases b' with
    | iter s' p'=>unfold eP at *;rw [fm hs hl];exact r
    | _=>exact dM.elim
   | map kk es=>
    cases b' with
    | map kk' es'=>unfold eP at *;rw [fm hs hl];exact r
    | _=>exact dM.elim
   | _=>exact r.elim
 | .row id len,v,hc,r=>by
  obtain ⟨⟨cs,h1⟩,h2,h3⟩:=r;obtain ⟨b',hb',dM⟩:=nu hs hc h1
  cases b' with
  | var cs'=>exact ⟨⟨cs',hb'⟩,by rw [fm hs h1];exact h2,h3⟩
  | _=>exact dM.elim
 | .undef,v,_,r=>trivial
theorem aC.weak:∀(xs:List V) (vs:List Value),eb h' xs=true->aC c (nL ρ xs) vs->aC (c.gP ρ h' J) xs vs
 | [],vs,_,r=>r
 | d::ds,vs,hc,r=>by
  obtain ⟨v,vs',h1,h2,h3⟩:=r;simp only [eb,i9] at hc;exact ⟨v,vs',h1,aD.weak d v hc.1 h2,aC.weak ds vs' hc.2 h3⟩
end
theorem aD.vw0 {x x' : V} {v:Value} (hw:VW0 ρ c.heap h' x x') (r:aD c x v):aD (c.gP ρ h' J) x' v:=by
 rcases hw with ⟨rfl,hc⟩|⟨rfl,ver,id,k,rfl,hn,hl⟩|rfl|⟨id,ver,off,len,k,xs,ys,rfl,hl,rfl,rfl⟩
 ·exact aD.weak hs hk x' v hc r
 ·simp only [aD,aG] at r
  subst r;have hpl:=rS (J:=J) hs hn;show kB (c.gP ρ h' J) id ver 0 0 (.slice none 0 0) (look h' id)
  rcases hl with hl|hl
  ·rw [hl];exact ⟨by simp,.inl ⟨rfl,rfl,fun _=>by rw [hpl]⟩⟩
  ·rw [hl];exact ⟨Ls _,⟨_,_,_,rfl⟩,fun _=>⟨by simp,.inl ⟨rfl,rfl,rfl,by rw [hpl]⟩⟩⟩
 ·trivial
 ·exact aG.keep hk _ _ (sW hl r)
theorem aC.vw0:∀{xs xs' : List V} {vs:List Value},UN ρ c.heap h' xs xs'->aC c xs vs->aC (c.gP ρ h' J) xs' vs
 | [],[],vs,_,r=>r
 | x::xs,x'::xs',vs,hw,r=>by
  obtain ⟨v,vs',h1,h2,h3⟩:=r;exact ⟨v,vs',h1,aD.vw0 hs hk hw.1 h2,aC.vw0 hw.2 h3⟩
 | [],_::_,vs,hw,r=>hw.elim
 | _::_,[],vs,hw,r=>hw.elim
theorem aD.vw {x x' : V} {v:Value} (hw:VW ρ c.heap h' x x') (r:aD c x v):aD (c.gP ρ h' J) x' v:=by
 rcases hw with h|h|h|h|⟨cs,cs',rfl,rfl,h⟩|⟨rfl,k,z,rfl⟩
 ·exact aD.vw0 hs hk (.inl h) r
 ·exact aD.vw0 hs hk (.inr (.inl h)) r
 ·exact aD.vw0 hs hk (.inr (.inr (.inl h))) r
 ·exact aD.vw0 hs hk (.inr (.inr (.inr h))) r
 ·obtain ⟨vs,h1,h2⟩:=r
  exact ⟨vs,h1,aC.vw0 hs hk h h2⟩
 ·simp only [aD,aG] at r
  exact .inl ⟨⟨_,r,fun _=>trivial⟩,rfl⟩
theorem aC.vw:∀{xs xs' : List V} {vs:List Value},VWL ρ c.heap h' xs xs'->aC c xs vs->aC (c.gP ρ h' J) xs' vs
 | [],[],vs,_,r=>r
 | x::xs,x'::xs',vs,hw,r=>by
  obtain ⟨v,vs',h1,h2,h3⟩:=r;exact ⟨v,vs',h1,aD.vw hs hk hw.1 h2,aC.vw hw.2 h3⟩
 | [],_::_,vs,hw,r=>hw.elim
 | _::_,[],vs,hw,r=>hw.elim
theorem cj.weak {id:Nat} {b b' : Blk} (hl:look c.heap (ρ id)=some b) (dM:pW ρ c.heap h' b b') (r:cj c (ρ id) b):cj (c.gP ρ h' J) id b':=by
 have hp:=fm (J:=J) hs hl
 cases b with
 | var cs=>
  cases b' with
  | var cs'=>obtain ⟨vs,e,h1,h2⟩:=r;exact ⟨vs,e,by rw [hp];exact h1,aC.vw hs hk dM h2⟩
  | _=>exact dM.elim
 | arr k xs=>
  cases b' with
  | arr k' xs'=>
   obtain ⟨rfl,rfl⟩:=dM;obtain ⟨h0,r⟩:=r;refine ⟨by rw [hp];exact h0,fun hc=>?_⟩;rw [hp] at hc ⊢;obtain ⟨vs,e,h1,h2,h4⟩:=r hc;exact ⟨vs,e,h1,h2,bU.keep (hk) _ _ _ _ h4⟩
  | _=>exact dM.elim
 | mt k v xs=>
  cases b' with
  | mt k' v' xs'=>
   obtain ⟨rfl,rfl,rfl⟩:=dM;obtain ⟨h0,h4,r⟩:=r;refine ⟨by rw [hp];exact h0,h4,fun hc=>?_⟩;rw [hp] at hc ⊢;obtain ⟨vs,e,h1,h2,h5,h6⟩:=r hc;exact ⟨vs,e,h1,h2,aQ.keep (hk) _ _ h5,h6⟩
  | _=>exact dM.elim
 | iter s p=>
  cases b' with
  | iter s' p'=>obtain ⟨rfl,rfl⟩:=dM;unfold cj at *;rw [hp];exact r
  | _=>exact dM.elim
 | map kk es=>
  cases b' with
  | map kk' es'=>obtain ⟨rfl,rfl⟩:=dM;obtain ⟨ms,k,h1,h2⟩:=r;exact ⟨ms,k,by rw [hp];exact h1,pS.keep (hk) _ _ h2⟩
  | _=>exact dM.elim
theorem bZ.weak:∀{vs:List V} {ds:List Deferred},eb h' vs=true->bZ c (nL ρ vs) ds->bZ (c.gP ρ h' J) vs ds
 | [],_,_,r=>r
 | v::vs,ds,hc,r=>by
  obtain ⟨d,ds',f,first,cap,fs,cs,h1,hv,h3,h4,h6,h5⟩:=r
  cases v with
  | func f0 UO cap0=>
   simp only [V.ren,V.func.injEq] at hv;obtain ⟨rfl,rfl,rfl⟩:=hv;simp only [eb,V.closed,i9] at hc;exact ⟨d,ds',f0,UO,cap0,fs,cs,h1,rfl,h3,aC.weak hs hk _ _ hc.1.1 h4,aC.weak hs hk _ _ hc.1.2 h6,bZ.weak hc.2 h5⟩
  | _=>simp [V.ren] at hv
end
theorem pW.ph {ρ:Nat->Nat} {h h' : Heap} {p:Pl} {b b' : Blk} (hs:pW ρ h h' b b') (hp:Ph p b'):Ph p b:=by
 cases b<;>cases b'<;>simp [pW] at hs<;>first|exact hp|trivial
theorem Rel.Nl {c:Cx} {w0:World} {n:Nat} {gs:Fr} {st st' : St} {a:Act} {ρ:Nat->Nat} (r:Rel c w0 n gs st a) (h:x5 ρ st st'):Rel (c.weak ρ st'.heap) w0 n gs st' a:=by
 have hs:∀id b',look st'.heap id=some b'->(∃b,look c.heap (ρ id)=some b/\pW ρ c.heap st'.heap b b')\/(look c.heap (ρ id)=none/\ja b'):=by rw [r.heap];exact h.heap
 have nz:∀id b',look c.heap (ρ id)=none->ja b'->¬Ph ((c.weak ρ st'.heap).pl id) b':=by
  intro id b' hn hz hp;rw [rS hs hn] at hp
  cases b'<;>simp [ja,Ph] at hz hp
 refine ⟨rfl,⟨r.hrel.below,r.hrel.other,r.hrel.kd,?_,h.lt,?_,?_⟩,r.size,?_,?_,by rw [h.base];exact r.nD,by rw [h.base];exact h.next,?_⟩
 ·intro id b' hl
  rcases hs id b' hl with ⟨b,hb,dM⟩|⟨hn,hz⟩
  ·exact cj.weak hs (iJ hs) hb dM (r.hrel.blk (ρ id) b hb)
  ·have hp:=rS (J:=c.J0) hs hn
   cases b' with
   | arr k xs=>simp [ja] at hz;subst hz;exact ⟨by simp,fun hc=>by rw [hp] at hc;simp at hc⟩
   | mt k v xs=>simp [ja] at hz;subst hz;exact ⟨by simp,by simp,fun hc=>by rw [hp] at hc;simp at hc⟩
   | _=>exact hz.elim
 ·intro id b' hl hph
  rcases hs id b' hl with ⟨b,hb,dM⟩|⟨hn,hz⟩
  ·rw [fm hs hb] at hph ⊢;exact r.hrel.ge (ρ id) b hb (dM.ph hph)
  ·exact (nz id b' hn hz hph).elim
 ·intro id id' b1 b2 h1 h2 p1 p2 hg
  rcases hs id b1 h1 with ⟨x1,hb1,s1⟩|⟨hn,hz⟩
  ·rcases hs id' b2 h2 with ⟨x2,hb2,s2⟩|⟨hn,hz⟩
   ·rw [fm hs hb1] at p1 hg
    rw [fm hs hb2] at p2 hg;have:=r.hrel.inj (ρ id) (ρ id') x1 x2 hb1 hb2 (s1.ph p1) (s2.ph p2) hg;refine h.inj id id' ?_ ?_ this
    ·show (look st'.heap id).isSome=true
     have h1' : look st'.heap id=some b1:=h1;rw [h1'];rfl
    ·show (look st'.heap id').isSome=true
     have h2' : look st'.heap id' = some b2:=h2;rw [h2'];rfl
   ·exact (nz id' b2 hn hz p2).elim
  ·exact (nz id b1 hn hz p1).elim
 ·intro i v' hv
  obtain ⟨v,hv1,hv2⟩:=h.regs i v' hv;rw [<- r.heap] at hv2;exact aD.vw hs (iJ hs) hv2 (r.regs i v hv1)
 ·refine gs.ok c _ ⟨iJ hs,?_⟩ r.frames
  intro id b hid hb;have Ft : id<st.base:=Zm hid r.nD;obtain ⟨hk1,hk2⟩:=h.keep id Ft;have hsome:(look st'.heap id).isSome=true:=hk2 (by rw [<- r.heap,hb];rfl);have hb' : look c.heap (ρ id)=some b:=by rw [hk1];exact hb
  obtain ⟨b',e1,e2⟩:=nu hs hsome hb';refine ⟨b',e1,?_⟩;rw [fm hs hb',hk1]
  cases b<;>cases b'<;>simp [pW] at e2<;>simp [cD,e2]
 ·exact bZ.weak hs (iJ hs) h.defers (by rw [<- h.defers'];exact r.defers)
theorem Rel.weak {c:Cx} {w0:World} {n:Nat} {gs:Fr} {st st' : St} {a:Act} (r:Rel c w0 n gs st a) (h:Weak st st'):∃c',c'.B=c.B/\c'.J0=c.J0/\c'.w=c.w/\Keeps c.w c.w (Imm c) (Imm c')/\Rel c' w0 n gs st' a:=by
 obtain ⟨ρ,h⟩:=h;exact ⟨c.weak ρ st'.heap,rfl,rfl,rfl,iJ (by rw [r.heap];exact h.heap),r.Nl h⟩
theorem B8 {P:Program} {n:Nat} {pol:Pol} {code:Code} {m:bE} (hc:comp P n pol code=some (.loop m)):∃x,code = .loop x/\comp P n pol x=some m:=by
 cases code with
 | loop x=>
  simp only [comp,Pe,bE.loop.injEq] at hc;obtain ⟨mx,hx,rfl⟩:=hc;exact ⟨x,rfl,hx⟩
 | region id ops draw=>
  cases draw with
  | false=>simp [comp] at hc
  | true=>
   simp only [comp] at hc
   split at hc
   ·split at hc
    ·simp at hc
    ·split at hc<;>simp at hc
   ·simp at hc
 | seq x y=>simp only [comp] at hc;split at hc<;>simp at hc
 | cond x y z=>simp only [comp] at hc;split at hc<;>simp at hc
 | _=>simp [comp] at hc
theorem KR {P:Program} {n:Nat} {pol:Pol} {code:Code} {fuel:Nat} {l:List DOp} (hc:comp P n pol code=some (.draw fuel l)):∃id ops mi,code = .region id ops true/\P.follows .mixedOrders=true/\da P n pol ops.toList ops.toList=some mi/\y9 (dx ops.toList mi)=true/\l=dx ops.toList mi:=by
 cases code with
 | region id ops draw=>
  cases draw with
  | false=>simp [comp] at hc
  | true=>
   simp only [comp] at hc
   split at hc
   ·rename_i mi hm hl
    split at hc
    ·simp at hc
    ·split at hc
     ·rename_i hb
      simp only [Y8,bE.draw.injEq] at hc;exact ⟨id,ops,mi,rfl,hm,hl,hb,hc.2.symm⟩
     ·simp at hc
   ·simp at hc
 | seq x y=>simp only [comp] at hc;split at hc<;>simp at hc
 | cond x y z=>simp only [comp] at hc;split at hc<;>simp at hc
 | _=>simp [comp] at hc
theorem sZ {P:Program} {fuel:Nat} {l:List DOp} {st:St} {Q:az->St->Prop} (h:WT P (fun e s=>∃s',(s' = s\/Weak s s')/\Q e s') (tI l (keepR l st.regs) fuel [] [] st Tree.done)):H5 P (.draw fuel l) st Q:=by
 intro S n pol code hc hdf c w0 gs a r;obtain ⟨id,ops,mi,rfl,hm,hl,hb,rfl⟩:=KR hc;have:=KQ S (id:=id) (w0:=w0) (gs:=gs) (q:=Tree.done) hdf hm hl hb r h;have e:ops.toList.toArray=ops:=by simp
 rw [e] at this;refine S.mono this ?_;intro e a' w' ⟨c',me,st',e1,e2,e3,e4,e5,e6⟩;obtain ⟨s',hw,hq⟩:=e6;subst e3;obtain ⟨c3,k1,k2,k3,k5,k4⟩:∃c3:Cx,c3.B=c'.B/\c3.J0=c'.J0/\c3.w=c'.w/\Keeps c'.w c'.w (Imm c') (Imm c3)/\Rel c3 w0 n gs s' a':=by
  rcases hw with rfl|hw
  ·exact ⟨c',rfl,rfl,rfl,fun b o h=>⟨h,rfl⟩,e5⟩
  ·exact e5.weak hw
 refine ⟨c3,me,s',k1.trans e1,k2.trans e2,k3,?_,k4,hq⟩
 cases e<;>cases me<;>simp only [bu] at e4 ⊢<;>first|exact e4|skip
 obtain ⟨v,h1,h2⟩:=e4;refine ⟨v,h1,?_⟩;rw [k3];exact aG.keep k5 _ _ h2
theorem B9 {P:Program} {m:bE} {st:St} {Q:az->St->Prop} (I:Nat->St->Prop) (n0:Nat) (st0:St) (hw:Weak st st0) (h0:I n0 st0)
  (round:∀k s,I k s->WT P (fun e s'=>match e with | .normal=>∃k' s'',k' < k/\Weak s' s''/\I k' s'' | e=>Q e s') (exec m s Tree.done)):H5 P (.loop m) st Q:=by
 intro S n pol code hc hdf c w0 gs a r;obtain ⟨x,rfl,hx⟩:=B8 hc
 ·refine S.ghost (fun k a' w'=>∃c' s,c'.B=c.B/\c'.J0=c.J0/\c'.w=w'/\Rel c' w0 n gs s a'/\I k s) n0 (by obtain ⟨c',k1,k2,k3,_,k4⟩:=r.weak hw;exact ⟨c',st0,k1,k2,k3,k4,h0⟩) ?_
  rintro k a' w' ⟨c',s,e1,e2,rfl,e4,e5⟩;refine S.mono (kN S x m hx (hdf.imp id fun h=>by simp [noD] at h;exact h) Tree.done c' s a' e4 (round k s e5)) ?_;intro e a'' w'' ⟨c'',me,s',f1,f2,f3,f4,f5,f6⟩;subst f3;simp only [WT] at f6
  cases e with
  | normal=>
   cases me<;>simp only [bu] at f4
   obtain ⟨k',s'',g1,g2,g3⟩:=f6;obtain ⟨c3,k1,k2,k3,_,k4⟩:=f5.weak g2;exact ⟨k',g1,c3,s'',k1.trans (f1.trans e1),k2.trans (f2.trans e2),k3,k4,g3⟩
  | exit id=>cases me<;>simp only [bu] at f4;rename_i j;exact ⟨c'',.exit j,s',f1.trans e1,f2.trans e2,rfl,f4,f5,f6⟩
  | goto l=>cases me<;>simp only [bu] at f4
  | ret=>cases me<;>simp only [bu] at f4;exact ⟨c'',.ret,s',f1.trans e1,f2.trans e2,rfl,trivial,f5,f6⟩
  | panic ch=>cases me<;>simp only [bu] at f4;rename_i d;exact ⟨c'',.panic d,s',f1.trans e1,f2.trans e2,rfl,f4,f5,f6⟩
  | outgrown=>cases me<;>simp only [bu] at f4
inductive iK where
 | tmp (t:Nat)
 | cell (t:Nat) (agg:Bool) (n:Nat)
def fO (P:Program):List ResultVar->Option (List iK)
 | []=>some []
 | .tmp t::r=>(fO P r).map (iK.tmp t::·)
 | .cell t ty::r=>match jq P ty,sizeT P ty,fO P r with
  | some g,some n,some l=>some (.cell t g n::l)
  | _,_,_=>none
def resV (st:St):List iK->Option (List V)
 | []=>some []
 | .tmp t::r=>match (Opd.t t).ev st,resV st r with
  | some v,some l=>some (v::l)
  | _,_=>none
 | .cell t g n::r=>match look st.regs t with
  | some (.ptr id off)=>match look st.heap id with
   | some (.var cs)=>match Nat.ble (off+n) cs.length with
    | true=>match rl g ((cs.drop off).take n),resV st r with
     | some v,some l=>some (v::l)
     | _,_=>none
    | false=>none
   | _=>none
  | _=>none
structure oK where
 n:Nat
 pol:Pol
 res:List iK
 code:bE
def jc (P:Program) (f:FuncId) (m:oK):Prop:=
 ∃fn code,P.funcs[f]? = some fn/\fn.body=some code/\(fn.name == "runtime.NumGoroutine")=false/\fn.ntmps=m.n/\fO P fn.results.toList=some m.res/\comp P m.n m.pol code=some m.code
def isFun (P:Program) (f:FuncId) (n:Nat) (pol:Pol):Option (List iK×bE):=
 match P.funcs[f]? with
 | some fn=>match fn.body with
  | some code=>match !(fn.name == "runtime.NumGoroutine")&&Nat.beq fn.ntmps n,fO P fn.results.toList,comp P n pol code with
   | true,some l,some c=>some (l,c)
   | _,_,_=>none
  | none=>none
 | none=>none
theorem Nn {P:Program} {f:FuncId} {m:oK} (h:isFun P f m.n m.pol=some (m.res,m.code)):jc P f m:=by
 unfold isFun at h
 split at h
 ·rename_i fn hf
  split at h
  ·rename_i code hb
   split at h
   ·rename_i l c h1 h2 h3
    simp at h;obtain ⟨rfl,rfl⟩:=h;rw [i9] at h1;exact ⟨fn,code,hf,hb,by simpa using h1.1,wt h1.2,h2,h3⟩
   ·simp at h
  ·simp at h
 ·simp at h
structure FW (P:Program) (f:FuncId) where
 m:oK
 h:jc P f m
def isG (P:Program) (f:FuncId) (pol:Pol):Option (Nat×List iK×bE):=
 match P.funcs[f]? with
 | some fn=>match isFun P f fn.ntmps pol with
  | some (r,c)=>some (fn.ntmps,r,c)
  | none=>none
 | none=>none
theorem UP {P:Program} {f:FuncId} {pol:Pol} {n:Nat} {r:List iK} {c:bE} (h:isG P f pol=some (n,r,c)):jc P f ⟨n,pol,r,c⟩:=by
 unfold isG at h
 split at h
 ·split at h
  ·rename_i hf
   simp at h;obtain ⟨rfl,rfl,rfl⟩:=h;exact Nn hf
  ·cases h
 ·cases h
def tN (P:Program) (n:Nat) (pol:Pol) (l:List Nat):Code->Option bE
 | .skip=>some .skip
 | .region i ops d=>match da P n pol ops.toList ops.toList,d&&pR l i with
  | some c,true=>some (.draw (sU (dx ops.toList c)) (dx ops.toList c))
  | some c,false=>some (.ops c)
  | none,_=>none
 | .seq a b=>match tN P n pol l a,tN P n pol l b with
  | some a,some b=>some (.seq a b)
  | _,_=>none
 | .cond c x y=>match ao c,tN P n pol l x,tN P n pol l y with
  | some c,some x,some y=>some (.cond c x y)
  | _,_,_=>none
 | .block id c=>(tN P n pol l c).map (bE.block id)
 | .loop c=>(tN P n pol l c).map bE.loop
 | .exit id=>some (.exit id)
 | .ret=>some .ret
 | .scope c=>(tN P n pol l c).map (bE.seq .skip)
 | .label _=>some .skip
 | _=>none
def isV (P:Program) (f:FuncId) (pol:Pol) (l:List Nat):Option (Nat×List iK×bE):=
 match P.funcs[f]? with
 | some fn=>match fn.body with
  | some code=>match fO P fn.results.toList,tN P fn.ntmps pol l code with
   | some r,some c=>some (fn.ntmps,r,c)
   | _,_=>none
  | none=>none
 | none=>none
def fw (P:Program) (f:FuncId) (pol:Pol) (l:List Nat:=[]) {n:Nat} {r:List iK} {c:bE} (hv:isV P f pol l=some (n,r,c):=by conv=>lhs;reduce;(try simp only [aaF,Int.reduceNatCast,aaJ,Int.reduceNegSucc])) (h:isG P f pol=some (n,r,c):=by kernel_rfl):FW P f:=⟨⟨n,pol,r,c⟩,UP h⟩
structure CW (x:Option bE) where
 m:bE
 h:x=some m
def cw (P:Program) (n:Nat) (pol:Pol) (x:Code) (l:List Nat:=[]) {m:bE} (hv:tN P n pol l x=some m:=by conv=>lhs;reduce;(try simp only [aaF,Int.reduceNatCast,aaJ,Int.reduceNegSucc])) (h:comp P n pol x=some m:=by kernel_rfl):CW (comp P n pol x):=⟨m,h⟩
def dG:Nat->List V->jm
 | _,[]=>[]
 | i,v::r=>(i,v)::dG (i+1) r
def pI (args:List Dat):St:={ regs:=dG 0 (args.map V.bX),heap:=[],next:=0,defers:=[],base:=0 }
theorem Cc:∀(vs:List V) (i j:Nat) (v:V),look (dG i vs) j=some v->i<=j/\vs[j - i]? = some v
 | [],i,j,v,h=>by simp [dG,look] at h
 | x::vs,i,j,v,h=>by
  simp only [dG,aE] at h;by_cases hij:i=j
  ·subst hij;simp at h;subst h;simp
  ·rw [if_neg hij] at h
   obtain ⟨h1,h2⟩:=Cc vs (i+1) j v h;refine ⟨by omega,?_⟩;rw [show j - i=(j - (i+1))+1 by omega];simpa using h2
theorem aC.Np {c:Cx}:∀{ds:List Dat} {vs:List Value},aQ c.w (Imm c) ds vs->aC c (ds.map V.bX) vs
 | [],vs,h=>by simpa [aC,aQ] using h
 | d::ds,vs,h=>by obtain ⟨v,vs',rfl,h2,h3⟩:=h;exact ⟨v,vs',rfl,aD.bX h2,aC.Np h3⟩
theorem rT {P:Program} {c:Cx} {w0:World} {n:Nat} {gs:Fr} {st:St} {a:Act} (r:Rel c w0 n gs st a):∀{l:List ResultVar} {ms:List iK} {vs:List V},fO P l=some ms->resV st ms=some vs->
  ∃us,(l.mapM (fun (x:ResultVar)=>(match x with | .tmp t=>pure (a.tmps.getD t undef) | .cell x t=>do loadVar t (<- asAddr (a.tmps.getD x undef)):Sem Value))).run P c.w = .ok us c.w/\aC c vs us:=by
 intro l
 induction l with
 | nil=>
  intro ms vs h1 h2;simp [fO] at h1;subst h1;simp [resV] at h2;subst h2;exact ⟨[],by simp,by simp [aC]⟩
 | cons x l ih=>
  intro ms vs h1 h2
  cases x with
  | tmp t=>
   simp only [fO,Pe] at h1;obtain ⟨ms',h1,rfl⟩:=h1;simp only [resV] at h2
   split at h2
   ·rename_i v l' g1 g2
    simp at h2;subst h2;obtain ⟨us,f1,f2⟩:=ih h1 g2;refine ⟨a.tmps.getD t undef::us,?_,⟨_,us,rfl,r.regs t v (TU g1).1,f2⟩⟩;rw [List.mapM_cons,run_bind_ok (s:=pure _) (x:=a.tmps.getD t undef) (w':=c.w) rfl,run_bind_ok f1];rfl
   ·simp at h2
  | cell t ty=>
   simp only [fO] at h1
   split at h1
   ·rename_i g m ms' e1 e2 e3
    simp at h1;subst h1;simp only [resV] at h2
    split at h2
    ·rename_i id off hv
     split at h2
     ·rename_i cs hl
      split at h2
      ·rename_i hle
       have hle:=Y0 hle
       split at h2
       ·rename_i v l' hmk g2
        simp at h2;subst h2;obtain ⟨us,f1,f2⟩:=ih e3 g2;obtain ⟨⟨cs0,_⟩,p2⟩:=r.regs t _ hv;have hl' : look c.heap id=some (.var cs):=by rw [r.heap];exact hl
        obtain ⟨vs,e,b1,b2⟩:=r.hrel.blk id _ hl';have hlen:=b2.length;obtain ⟨u,hu,hru⟩:=pU ((b2.drop off).take m) hmk;refine ⟨u::us,?_,⟨u,us,rfl,hru,f2⟩⟩;have hload:(loadVar ty ⟨(c.pl id).gb,off,none⟩).run P c.w = .ok u c.w:=by
         refine oL e1 e2 ?_ hu ?_
         ·simp at hlen ⊢;omega
         ·intro j x hx
          rw [bO b1];rw [ON] at hx
          split at hx
          ·simpa using hx
          ·simp at hx
        have hl2:((do loadVar ty (<- asAddr (a.tmps.getD t undef)):Sem Value)).run P c.w = .ok u c.w:=by
         rw [p2,run_bind_ok (s:=asAddr _) (x:=⟨(c.pl id).gb,off,none⟩) (w':=c.w) rfl];exact hload
        rw [List.mapM_cons,run_bind_ok hl2,run_bind_ok f1];rfl
       ·simp at h2
      ·simp at h2
     ·simp at h2
    ·simp at h2
   ·simp at h1
theorem cell_lt {w:World} {b o:Nat} {v:Value} (h:w.cell? ⟨b,o,none⟩=some v):b<w.heap.size:=by
 by_cases hb:b<w.heap.size
 ·exact hb
 ·simp [World.cell?,ZI (by omega:w.heap.size<=b)] at h
mutual
theorem aG.bound {w:World} {J:Nat->Nat->Prop}:∀(d:Dat) (v:Value),aG w J d v->aG w (fun b o=>J b o/\b<w.heap.size) d v
 | .bool b,v,r=>r
 | .int k n,v,r=>r
 | .str s,v,r=>r
 | .nil,v,r=>r
 | .slice k xs z,v,.inl r=>.inl r
 | .slice k xs z,v,.inr ⟨b,o,cap,h1,h2,h3,h4⟩=>.inr ⟨b,o,cap,h1,h2,h3,bU.bound b k o xs h4⟩
 | .agg cs,v,⟨vs,h1,h2⟩=>⟨vs,h1,aQ.bound cs vs h2⟩
 | .func f,v,r=>r
 | .nilFunc,v,r=>r
 | .nilIface,v,r=>r
 | .nilPtr,v,r=>r
 | .qu,v,r=>r
 | .iface t d,v,⟨u,h1,h2⟩=>⟨u,h1,aG.bound d u h2⟩
 | .tuple ds,v,⟨vs,h1,h2⟩=>⟨vs,h1,aQ.bound ds vs h2⟩
theorem aQ.bound {w:World} {J:Nat->Nat->Prop}:∀(ds:List Dat) (vs:List Value),aQ w J ds vs->aQ w (fun b o=>J b o/\b<w.heap.size) ds vs
 | [],vs,r=>r
 | d::ds,vs,⟨v,vs',h1,h2,h3⟩=>⟨v,vs',h1,aG.bound d v h2,aQ.bound ds vs' h3⟩
theorem du.bound {w:World} {J:Nat->Nat->Prop} (b:Nat):∀(o:Nat) (ds:List Dat),du w J b o ds->du w (fun b o=>J b o/\b<w.heap.size) b o ds
 | o,[],_=>trivial
 | o,d::ds,⟨⟨v,h1,h2,h5,h3⟩,h4⟩=>⟨⟨v,h1,⟨h2,cell_lt h1⟩,h5,aG.bound d v h3⟩,du.bound b (o+1) ds h4⟩
theorem bU.bound {w:World} {J:Nat->Nat->Prop} (b k:Nat):∀(o:Nat) (cs:List (List Dat)),bU w J b k o cs->bU w (fun b o=>J b o/\b<w.heap.size) b k o cs
 | o,[],_=>trivial
 | o,c::cs,⟨h1,h2,h3⟩=>⟨h1,du.bound b o c h2,bU.bound b k (o+k) cs h3⟩
end
theorem Rel.enter {c:Cx} {w0:World} {n nx:Nat} {F:Fr} {vs:List V} {gvs:List Value} (hh:cz c w0 nx) (hF:F.K<=nx) (hp:F.p c) (hv:aC c vs gvs) (hn:vs.length<=n) :
  Rel c w0 n F ⟨dG 0 vs,c.heap,nx,[],nx⟩ { tmps:=gvs.toArray++Array.replicate (n - gvs.toArray.size) undef,defers:=[] }:=by
 have hlen:=hv.length;refine ⟨rfl,hh,?_,?_,hp,hF,Ls _,rfl⟩
 ·simp;omega
 ·intro i v hi
  obtain ⟨h1,h2⟩:=Cc _ _ _ _ hi;simp only [aaM] at h2;obtain ⟨u,g1,g2⟩:=hv.get i v h2;have:(gvs.toArray++Array.replicate (n - gvs.toArray.size) undef).getD i undef=u:=by
   have hi' : i<gvs.length:=by
    by_cases hh:i<gvs.length
    ·exact hh
    ·rw [Y2 (by omega)] at g1;cases g1
   rw [Zy,Array.getElem?_append_left (by simpa using hi')];simp [g1]
  rw [this];exact g2
theorem mW {P:Program} {fn:Func} {t:Array Value} {w:World} {us:List Value} (f1:(fn.results.toList.mapM (fun (x:ResultVar)=>(match x with | .tmp t'=>pure (t.getD t' undef) | .cell x t'=>do loadVar t' (<- asAddr (t.getD x undef)):Sem Value))).run P w = .ok us w) :
  (results fn t).run P w = .ok (if h:us.toArray.size=1 then us.toArray[0] else .tuple us.toArray) w:=by
 unfold results;rw [Array.mapM_eq_mapM_toList];have:((List.toArray <$> fn.results.toList.mapM (fun (x:ResultVar)=>(match x with | .tmp t'=>pure (t.getD t' undef) | .cell x t'=>do loadVar t' (<- asAddr (t.getD x undef)):Sem Value)))).run P w = .ok us.toArray w:=by
  rw [map_eq_pure_bind,run_bind_ok f1];rfl
 exact run_bind_ok this
def pX:List V->V
 | [v]=>v
 | vs=>.tuple vs
theorem KT {c:Cx} {vs:List V} {us:List Value} (h:aC c vs us):aD c (pX vs) (if h:us.toArray.size=1 then us.toArray[0] else .tuple us.toArray):=by
 have hl:=h.length
 match vs,h,hl with
 | [],h,hl=>simp [aC] at h;subst h;exact ⟨[],by simp,rfl⟩
 | [v],h,hl=>
  obtain ⟨u,us',rfl,h1,h2⟩:=h;simp [aC] at h2;subst h2;simpa [pX] using h1
 | v::v'::r,h,hl=>
  rw [dif_neg (by simp at hl ⊢;omega)];exact ⟨us,rfl,h⟩
def Ed (res:List iK) (Q:Res->Heap->Nat->Prop):az->St->Prop
 | .normal,st=>st.defers=[]/\∃vs,resV st res=some vs/\Q (.val (pX vs)) st.heap st.next
 | .ret,st=>st.defers=[]/\∃vs,resV st res=some vs/\Q (.val (pX vs)) st.heap st.next
 | .panic d,st=>st.defers=[]/\Q (.pan d) st.heap st.next
 | .exit _,_=>False
theorem jc.body {P:Program} {f:FuncId} {m:oK} (h:jc P f m):mV P f:=by
 obtain ⟨fn,code,h1,h2,h3,_⟩:=h;exact ⟨fn,h1,by rw [h2];rfl,h3⟩
theorem qG {P:Program} {f:FuncId} {m:oK} (hf:jc P f m) {vs:List V} {h:Heap} {nx:Nat} {Q:Res->Heap->Nat->Prop} (hn:Nat.ble vs.length m.n=true)
  (hw:WT P (fun e st=>∃st',(st' = st\/Weak st st')/\Ed m.res Q e st') (exec m.code ⟨dG 0 vs,h,nx,[],nx⟩ Tree.done)):bN P f vs h nx Q:=by
 refine ⟨hf.body,?_⟩;obtain ⟨fn,code,h1,h2,h0,h3,h4,h5⟩:=hf;rintro c w0 F gvs rfl hh hF hp hv
 let F' : Fr:=⟨nx,F.p,fun c c' he hc=>F.ok c c' (he.mono hF) hc⟩
 refine calls_of_wp h1 h2 ?_;rw [h3];refine Code.wp_mono ?_ (kN (plainW P) code m.code h5 (.inl rfl) Tree.done _ _ _ (Rel.enter (F:=F') hh (Ls _) hp hv (Y0 hn)) hw);intro e a' w' ⟨c1,me,st1,e1',e2',e3',e4',e5',e6'⟩;subst e3';simp only [WT] at e6';obtain ⟨st',zt,e6⟩:=e6';obtain ⟨c',k1,k2,k3,k5,e5⟩:∃c',c'.B=c1.B/\c'.J0=c1.J0/\c'.w=c1.w/\Keeps c1.w c1.w (Imm c1) (Imm c')/\Rel c' w0 m.n F' st' a':=by
  rcases zt with rfl|zt
  ·exact ⟨c1,rfl,rfl,rfl,fun b o h=>⟨h,rfl⟩,e5'⟩
  ·exact e5'.weak zt
 have e1:=k1.trans e1';have e2:=k2.trans e2';have e4:bu c' e me:=by
  cases e<;>cases me<;>simp only [bu] at e4' ⊢<;>first|exact e4' | skip
  obtain ⟨v,h1,h2⟩:=e4';exact ⟨v,h1,by rw [k3];exact aG.keep k5 _ _ h2⟩
 rw [<- k3];have hnx:nx<=st'.next:=Zn e5.nD e5.base;have hdef:st'.defers=[]->a'.defers=[]:=fun hd=>by have:=e5.defers;rw [hd] at this;exact this
 have key:(st'.defers=[]/\∃vs,resV st' m.res=some vs/\Q (.val (pX vs)) st'.heap st'.next)->a'.defers=[]/\∃v,(results fn a'.tmps).run P c'.w = .ok v c'.w/\(∃c'' r nx',c''.B=c.B/\c''.J0=c.J0/\c''.w=c'.w/\cz c'' w0 nx'/\nx<=nx'/\F.p c''/\MJ c'' (.returned v) r/\Q r c''.heap nx'):=by
  rintro ⟨hd,vs',hvs,hq⟩;obtain ⟨us,f1,f2⟩:=rT (P:=P) e5 h4 hvs;refine ⟨hdef hd,_,mW f1,c',.val (pX vs'),st'.next,e1,e2,rfl,e5.hrel,hnx,e5.frames,KT f2,?_⟩;rw [e5.heap];exact hq
 cases e with
 | normal=>cases me<;>simp only [bu] at e4;exact key e6
 | ret=>cases me<;>simp only [bu] at e4;exact key e6
 | exit id=>cases me<;>simp only [bu] at e4;exact e6.elim
 | goto l=>cases me<;>simp only [bu] at e4
 | panic ch=>
  cases me<;>simp only [bu] at e4
  rename_i d;obtain ⟨hd,hq⟩:=e6;exact ⟨hdef hd,c',.pan d,st'.next,e1,e2,rfl,e5.hrel,hnx,e5.frames,e4,by rw [e5.heap];exact hq⟩
 | outgrown=>cases me<;>simp only [bu] at e4
theorem bN.mono {P:Program} {f:FuncId} {vs:List V} {h:Heap} {nx:Nat} {Q Q' : Res->Heap->Nat->Prop} (hs:bN P f vs h nx Q) (hq:∀r h' nx',Q r h' nx'->Q' r h' nx'):bN P f vs h nx Q':=by
 refine ⟨hs.1,fun c w0 F gvs h1 h2 h3 h4 h5=>(hs.2 c w0 F gvs h1 h2 h3 h4 h5).mono ?_⟩;rintro e w' ⟨c',r,nx',e1,e2,e3,e4,e5,e6,e7,e8⟩;exact ⟨c',r,nx',e1,e2,e3,e4,e5,e6,e7,hq _ _ _ e8⟩
theorem FV {P:Program} {f:FuncId} {vs:List V} {h:Heap} {nx:Nat} {Q:Res->Heap->Nat->Prop} {ds:List Dat} {r:Dat} (hb:mV P f) (hd:kK h vs=some ds) (hr:Ret P f ds r) (hq:Q (.val (V.bX r)) h nx):bN P f vs h nx Q:=by
 refine ⟨hb,?_⟩;rintro c w0 F gvs rfl hh hF hp hv;refine (hr c.w (Imm c) gvs hh.glob (kX hd hv)).mono ?_;rintro e w' ⟨v,rfl,hv,hbel⟩;have hev:=Evo.grow hh hbel;refine ⟨{ c with w:=w' },.val (V.bX r),nx,rfl,rfl,rfl,hh.grow hbel,Ls _,F.ok _ _ (hev.toK _) hp,aD.bX ?_,hq⟩;refine aG.keep ?_ _ _ hv;intro b o' hj;refine ⟨?_,rfl⟩
 rcases hj with hj|⟨hj1,hj2⟩
 ·exact (hev.keeps b o' hj).1
 ·refine .inr ⟨hh.rN hj1,hj2,?_⟩
  intro id blk hl hph hg;have:=hh.i6 hl hph;have hg' : (c.pl id).gb=b:=hg;omega
def pY (h:Heap):List V->Option (List Dat)
 | []=>some []
 | v::r=>match v.dat h,uT v,pY h r with
  | some x,true,some l=>some (x::l)
  | _,_,_=>none
def V.wQ (h:Heap):V->Option Dat
 | .d x=>some x
 | .row id len=>match look h id with
  | some (.var cs)=>match pY h cs,Nat.beq cs.length len with
   | some ds,true=>some (.slice 1 (ds.map fun d=>[d]) false)
   | _,_=>none
  | _=>none
 | .agg cs=>(go cs).map Dat.agg
 | .ref id _ off len=>match look h id with
  | some (.arr k xs)=>some (.slice k ((xs.drop off).take len) false)
  | some (.mt k _ xs)=>some (.slice k ((xs.drop off).take len) false)
  | _=>none
 | .func f [] []=>some (.func f)
 | _=>none
where
 go:List V->Option (List Dat)
  | []=>some []
  | .d x::r=>match go r with|some l=>some (x::l)|none=>none
  | .ref id _ off len::r=>match look h id,go r with
   | some (.arr k xs),some l=>some (.slice k ((xs.drop off).take len) false::l)
   | some (.mt k _ xs),some l=>some (.slice k ((xs.drop off).take len) false::l)
   | _,_=>none
  | .func f [] []::r=>match go r with|some l=>some (.func f::l)|none=>none
  | _=>none
def fE (h:Heap):List V->Option (List Dat)
 | []=>some []
 | v::r=>match v.wQ h,fE h r with
  | some x,some l=>some (x::l)
  | _,_=>none
def V.cur (h:Heap):V->Bool
 | .agg cs=>go cs
 | .ref id ver _ _=>match look h id with
  | some (.mt _ c8 _)=>Nat.beq ver c8
  | _=>true
 | _=>true
where
 go:List V->Bool
  | []=>true
  | .ref id ver _ _::r=>match look h id with
   | some (.mt _ c8 _)=>Nat.beq ver c8&&go r
   | _=>go r
  | _::r=>go r
def tq (h:Heap):List V->Bool
 | []=>true
 | v::r=>v.cur h&&tq h r
def fV:List Dat->Dat
 | [d]=>d
 | ds=>.tuple ds
section
variable {c : Cx} {w0 : World} {nx : Nat} {J : Nat -> Nat -> Prop} (hh : cz c w0 nx) (hk : Keeps c.w c.w (Imm c) J) (hnew : ∀ b o, ¬ c.Old b -> b < c.w.heap.size -> J b o)
include hh hk hnew
theorem FX {id ver off len k c8 : Nat} {xs:List (List Dat)} {gv:Value} (hl:look c.heap id=some (.mt k c8 xs)) (hv:ver=c8) (h:aD c (.ref id ver off len) gv):aG c.w J (.slice k ((xs.drop off).take len) false) gv:=by
 subst hv;simp only [aD,hl] at h;obtain ⟨_,_,h⟩:=h;obtain ⟨h1,h2⟩:=h rfl;have hlen:((xs.drop off).take len).length=len:=by simp;omega
 rcases h2 with ⟨h2,h3,_⟩|⟨b,o,h2,h3⟩
 ·exact .inl ⟨⟨_,h2,by simp⟩,YZ (by omega)⟩
 ·obtain ⟨b3,b4,bb⟩:=hh.blk id _ hl
  refine .inr ⟨b,o,(c.pl id).cap - off,by rw [hlen];exact h2,by rw [hlen];omega,by simp,?_⟩;by_cases hl0:len=0
  ·subst hl0;simp [bU]
  ·obtain ⟨vs,e,g1,g2,g3,g4⟩:=bb (by omega)
   obtain ⟨rfl,rfl⟩:=h3 (by omega);have hgb:=hh.ge id _ hl (show 0<(c.pl id).cap by omega);have hlt:=hh.i6 hl (show 0<(c.pl id).cap by omega);have hfl:=nF b4 off len (by omega);refine bU.of_flat (us:=((vs.toList.take (xs.length * k)).drop (off * k)).take (len * k)) (fun x hx=>b4 x (ZO (Zi hx))) ?_ ?_
   ·rw [hfl];exact aQ.keep hk _ _ ((g3.drop _).take _)
   ·intro j v hv
    refine ⟨?_,hnew _ _ hgb hlt,g4 v (ZO (Zi (Zf hv)))⟩;rw [ON] at hv
    split at hv
    ·rw [Y1,ON] at hv
     split at hv
     ·rw [bO g1];simpa using hv
     ·simp at hv
    ·simp at hv
theorem Ig:∀{vs:List V} {ds:List Dat} {us:List Value},V.wQ.go c.heap vs=some ds->V.cur.go c.heap vs=true->aC c vs us->aQ c.w J ds us:=by
 intro vs
 induction vs with
 | nil=>intro ds us h _ r;simp [V.wQ.go] at h;subst h;simpa [aQ,aC] using r
 | cons v vs ih=>
  intro ds us h hc r;obtain ⟨u,us',rfl,r1,r2⟩:=r;unfold V.wQ.go at h
  split at h
  ·simp at *
  ·rename_i x rr heq
   simp only [Zu] at heq;obtain ⟨rfl,rfl⟩:=heq
   split at h
   ·rename_i l hl
    simp at h;subst h;exact ⟨u,us',rfl,aG.keep hk _ _ r1,ih hl (by simpa [V.cur.go] using hc) r2⟩
   ·simp at h
  ·rename_i id ver off len rr heq
   simp only [Zu] at heq;obtain ⟨rfl,rfl⟩:=heq
   split at h
   ·rename_i k xs l hl1 hl2
    simp at h;subst h;simp only [V.cur.go,hl1] at hc;exact ⟨u,us',rfl,aG.keep hk _ _ (sW hl1 r1),ih hl2 hc r2⟩
   ·rename_i k c8 xs l hl1 hl2
    simp at h;subst h;simp only [V.cur.go,hl1,i9] at hc;exact ⟨u,us',rfl,FX hh hk hnew hl1 (wt hc.1) r1,ih hl2 hc.2 r2⟩
   ·simp at h
  ·rename_i f rr heq
   simp only [Zu] at heq;obtain ⟨rfl,rfl⟩:=heq
   split at h
   ·rename_i l hl
    simp at h;subst h;obtain ⟨fs',vs',e1,e3,e2⟩:=r1;simp [aC] at e2 e3;subst e2 e3;exact ⟨u,us',rfl,e1,ih hl (by simpa [V.cur.go] using hc) r2⟩
   ·simp at h
  ·simp at h
theorem Ee:∀{vs:List V} {ds:List Dat} {us:List Value},pY c.heap vs=some ds->aC c vs us->aQ c.w J ds us/\∀u∈us,one u=true:=by
 intro vs
 induction vs with
 | nil=>intro ds us h r;simp [pY] at h;subst h;simp [aC] at r;subst r;simp [aQ]
 | cons v vs ih=>
  intro ds us h r;obtain ⟨u,us',rfl,r1,r2⟩:=r;unfold pY at h
  split at h
  ·rename_i x l h1 ho h2
   simp at h;subst h;obtain ⟨g1,g2⟩:=ih h2 r2;refine ⟨⟨u,us',rfl,aG.keep hk _ _ (yI h1 r1),g1⟩,fun y hy=>?_⟩
   rcases Zj.1 hy with rfl|hy
   ·exact yH r1 ho
   ·exact g2 y hy
  ·simp at h
theorem Nq {id len:Nat} {cs:List V} {ds:List Dat} {gv:Value} (hl:look c.heap id=some (.var cs)) (hd:pY c.heap cs=some ds) (hlen:cs.length=len) (h:aD c (.row id len) gv):aG c.w J (.slice 1 (ds.map fun d=>[d]) false) gv:=by
 obtain ⟨_,h2,_⟩:=h;obtain ⟨vs,e,g1,g2⟩:=hh.blk id _ hl;obtain ⟨g3,g4⟩:=Ee hh hk hnew hd g2;have hgb:=hh.ge id _ hl trivial;have hlt:=hh.i6 hl trivial;have h1:=g3.length;have h3:=g2.length;refine .inr ⟨(c.pl id).gb,0,len,by rw [ZZ,<- h1,h3,hlen];exact h2,by simp;omega,by simp,?_⟩;refine bU.of_flat (us:=vs.toList) (fun x hx=>?_) ?_ ?_
 ·obtain ⟨d,_,rfl⟩:=aaQ.1 hx;rfl
 ·have:(ds.map fun d=>[d]).flatten=ds:=by
   clear hd g3 h1
   induction ds with
   | nil=>rfl
   | cons d ds ih=>simp [ih]
  rw [this];exact g3
 ·intro j v hv
  refine ⟨?_,hnew _ _ hgb hlt,g4 v (Zf hv)⟩;rw [Y9,bO g1];simpa using hv
theorem Nr {v:V} {x:Dat} {gv:Value} (h:v.wQ c.heap=some x) (hc:v.cur c.heap=true) (r:aD c v gv):aG c.w J x gv:=by
 cases v with
 | d y=>simp [V.wQ] at h;subst h;exact aG.keep hk _ _ r
 | agg cs=>
  simp only [V.wQ,Pe] at h;obtain ⟨ds,h1,rfl⟩:=h;obtain ⟨us,rfl,h2⟩:=r;exact ⟨us,rfl,Ig hh hk hnew h1 hc h2⟩
 | ref id ver off len=>
  simp only [V.wQ] at h
  split at h
  ·rename_i k xs hl
   simp at h;subst h;exact aG.keep hk _ _ (sW hl r)
  ·rename_i k c8 xs hl
   simp at h;subst h;simp only [V.cur,hl] at hc;exact FX hh hk hnew hl (wt hc) r
  ·simp at h
 | row id len=>
  simp only [V.wQ] at h
  split at h
  ·rename_i cs hl
   split at h
   ·rename_i ds hd hb
    simp at h;subst h;exact Nq hh hk hnew hl hd (wt hb) r
   ·simp at h
  ·simp at h
 | func f fs cap=>
  cases fs with
  | cons a b=>simp [V.wQ] at h
  | nil=>
   cases cap with
   | nil=>
    simp [V.wQ] at h;subst h;obtain ⟨fs',vs',e1,e3,e2⟩:=r;simp [aC] at e2 e3;subst e2 e3;exact e1
   | cons a b=>simp [V.wQ] at h
 | _=>simp [V.wQ] at h
theorem vg:∀{vs:List V} {ds:List Dat} {us:List Value},fE c.heap vs=some ds->tq c.heap vs=true->aC c vs us->aQ c.w J ds us:=by
 intro vs
 induction vs with
 | nil=>intro ds us h _ r;simp [fE] at h;subst h;simpa [aQ,aC] using r
 | cons v vs ih=>
  intro ds us h hc r;obtain ⟨u,us',rfl,r1,r2⟩:=r;simp only [tq,i9] at hc;unfold fE at h
  split at h
  ·rename_i x l h1 h2
   simp at h;subst h;exact ⟨u,us',rfl,Nr hh hk hnew h1 hc.1 r1,ih h2 hc.2 r2⟩
  ·simp at h
end
def Ih (res:List iK) (r:Dat) (e:az) (st:St):Prop:=(e = .normal\/e = .ret)/\st.defers=[]/\∃vs ds,resV st res=some vs/\fE st.heap vs=some ds/\tq st.heap vs=true/\fV ds=r
theorem zu {P:Program} {c' : Cx} {w0:World} {n:Nat} {gs:Fr} {st' : St} {a' : Act} {fn:Func} {res:List iK} {J:Nat->Nat->Prop} {w:World} (e5:Rel c' w0 n gs st' a') (hres:fO P fn.results.toList=some res) (hB:c'.B=w.heap.size) (hJ:c'.J0=⟨J,fun _=>False⟩)
  {vs:List V} {ds:List Dat} (g1:resV st' res=some vs) (g2:fE st'.heap vs=some ds) (g3:tq st'.heap vs=true) :
  ∃v,(results fn a'.tmps).run P c'.w = .ok v c'.w/\aG c'.w (fun b o=>J b o\/(w.heap.size<=b/\b<c'.w.heap.size)) (fV ds) v:=by
 have hk:Keeps c'.w c'.w (Imm c') (fun b o=>J b o\/(w.heap.size<=b/\b<c'.w.heap.size)):=by
  intro b o hi;refine ⟨?_,rfl⟩
  rcases hi with ⟨_,hi⟩|⟨hi1,hi2,_⟩
  ·rw [hJ] at hi;exact .inl hi
  ·exact .inr ⟨Z3 fun h=>hi1 (.inl (by rw [hB];exact h)),hi2⟩
 obtain ⟨us,f1,f2⟩:=rT (P:=P) e5 hres g1;rw [<- e5.heap] at g2 g3;have k1:=vg e5.hrel hk (fun b o h1 h2=>.inr ⟨Z3 fun h=>h1 (.inl (by rw [hB];exact h)),h2⟩) g2 g3 f2;refine ⟨_,mW f1,?_⟩;have hl:=k1.length
 match ds,k1,hl with
 | [],k1,hl=>simp [aQ] at k1;subst k1;exact ⟨[],by simp,rfl⟩
 | [d],k1,hl=>
  obtain ⟨u,us',rfl,h1,h2⟩:=k1;simp [aQ] at h2;subst h2;simpa [fV] using h1
 | d::d'::r,k1,hl=>
  rw [dif_neg (by simp at hl ⊢;omega)];exact ⟨us,rfl,k1⟩
theorem Rel.init {w:World} {J:Nat->Nat->Prop} {args:List Dat} {vs:List Value} {n:Nat} (hG:GOk w.heap.size w) (hrel:aQ w J args vs) (hn:args.length<=n) :
  Rel { B:=w.heap.size,J0:=⟨J,fun _=>False⟩,heap:=[],pl:=fun _=>⟨0,0⟩,w:=w } w n Fr.none (pI args) { tmps:=vs.toArray++Array.replicate (n - vs.toArray.size) undef,defers:=[] }:=by
 have hv:aC { B:=w.heap.size,J0:=⟨J,fun _=>False⟩,heap:=[],pl:=fun _=>⟨0,0⟩,w:=w } (args.map V.bX) vs:=by
  refine aC.Np (aQ.keep ?_ _ _ (aQ.bound _ _ hrel));intro b o hj;exact ⟨.inl ⟨.inl hj.2,hj.1⟩,rfl⟩
 exact Rel.enter (F:=Fr.none) (nx:=0) ⟨Below.refl _ _,fun _ h=>h.elim,hG,by simp [look],by simp [look],by simp [look],by simp [look]⟩ (Ls _) trivial hv (by simpa using hn)
theorem FY {P:Program} {f:FuncId} {m:oK} (hf:jc P f m) {args:List Dat} {r:Dat} (hn:Nat.ble args.length m.n=true)
  (h:WT P (Ih m.res r) (exec m.code (pI args) Tree.done)):Ret P f args r:=by
 obtain ⟨fn,code,h1,h2,h0,h3,h4,h5⟩:=hf;intro w J vs hG hrel;refine calls_of_wp h1 h2 ?_;rw [h3];refine Code.wp_mono ?_ (kN (plainW P) code m.code h5 (.inl rfl) Tree.done _ _ _ (Rel.init hG hrel (Y0 hn)) h);intro e a' w' ⟨c',me,st',e1,e2,e3,e4,e5,e6⟩;subst e3;simp only [WT] at e6;obtain ⟨g1,g2,vs',ds,g3,g4,g5,rfl⟩:=e6;obtain ⟨v,hv1,hv2⟩:=zu (P:=P) (w:=w) (J:=J) e5 h4 e1 e2 g3 g4 g5;have hbel:Below w.heap.size w c'.w:=by have:=e5.hrel.below;rw [e1] at this;exact this
 have key:a'.defers=[]/\∃v,(results fn a'.tmps).run P c'.w = .ok v c'.w/\(∃v',Ending.returned v = .returned v'/\aG c'.w (fun b o=>J b o\/(w.heap.size<=b/\b<c'.w.heap.size)) (fV ds) v'/\Below w.heap.size w c'.w):=
  ⟨by have:=e5.defers;rw [g2] at this;exact this,v,hv1,v,rfl,hv2,hbel⟩
 cases e with
 | normal=>exact key
 | ret=>exact key
 | exit id=>cases me<;>simp only [bu] at e4;simp at g1
 | goto l=>cases me<;>simp only [bu] at e4
 | panic ch=>cases me<;>simp only [bu] at e4;simp at g1
 | outgrown=>cases me<;>simp only [bu] at e4
end Uw
namespace Uw
open Go
variable [Glob]
section
variable {P : Program} {Q : az -> St -> Prop}
theorem bz {b:Bool} {y n:Tree} (h1:b=true->WT P Q y) (h2:b=false->WT P Q n):WT P Q (.test b y n):=⟨h1,h2⟩
theorem ah {b:Bool} {y n:Tree} (hb:b=true) (h1:WT P Q y):WT P Q (.test b y n):=⟨fun _=>h1,fun h=>(by rw [hb] at h;cases h)⟩
theorem aR {b:Bool} {y n:Tree} (hb:b=false) (h1:WT P Q n):WT P Q (.test b y n):=⟨fun h=>(by rw [hb] at h;cases h),fun _=>h1⟩
theorem vh {y n:Tree} (h1:WT P Q y) (h2:WT P Q n):WT P Q (.both y n):=⟨h1,h2⟩
theorem ai {e:az} {st:St} (h:Q e st):WT P Q (.done e st):=h
theorem aK {f:FuncId} {ds:List Dat} {k:Dat->Tree} (r:Dat) (h:Ret P f ds r) (h2:WT P Q (k r)):WT P Q (.call f ds k):=⟨r,h,h2⟩
theorem au {xs:List (List Dat)} {i:Nat} {k:List Dat->Tree} (x:List Dat) (h:xs[i]? = some x) (h2:WT P Q (k x)):WT P Q (.elem xs i k):=⟨x,h,h2⟩
theorem yJ {s:List UInt8} {i:Nat} {k:UInt8->Tree} (x:UInt8) (h:s[i]? = some x) (h2:WT P Q (k x)):WT P Q (.byte s i k):=⟨x,h,h2⟩
theorem Ns {o:Option Dat} {k:Dat->Tree} (x:Dat) (h:o=some x) (h2:WT P Q (k x)):WT P Q (.val o k):=⟨x,h,h2⟩
theorem Ef {o:Option Blk} {k:Blk->Tree} (x:Blk) (h:o=some x) (h2:WT P Q (k x)):WT P Q (.blk o k):=⟨x,h,h2⟩
theorem yK {o:Option V} {k:V->Tree} (x:V) (h:o=some x) (h2:WT P Q (k x)):WT P Q (.A7 o k):=⟨x,h,h2⟩
theorem Jv {h:Heap} {k:Heap->Tree} (h2:WT P Q (k h)):WT P Q (.heq h k):=⟨h,fun _=>rfl,h2⟩
theorem qH {c:bE} {st:St} {k:az->St->Tree} (h:H5 P c st fun e st'=>WT P Q (k e st')):WT P Q (.code c st k):=h
theorem ct {v:Nat} {y n:Tree} (h1:WT P Q y):WT P Q (.test (Nat.beq v v) y n):=ah (ZQ v) h1
theorem aO {x y:Option V} {t:Tree} (h:x=y) (h1:WT P Q t):WT P Q (.same x y t):=⟨h,h1⟩
theorem aX {fuel:Nat} {l:List DOp} {st:St} {k:az->St->Tree} (S:St) (h:WT P (fun e s=>(e = .normal/\Weak s S)\/(∃d,e = .panic d/\∃s',(s' = s\/Weak s s')/\WT P Q (k e s'))) (tI l (keepR l st.regs) fuel [] [] st Tree.done)) (h2:WT P Q (k .normal S)):WT P Q (.code (.draw fuel l) st k):=by
 refine qH (sZ (WT.mono ?_ _ h));rintro e s (⟨rfl,hw⟩|⟨d,rfl,s',hw,hq⟩)
 ·exact ⟨S,.inr hw,h2⟩
 ·exact ⟨s',hw,hq⟩
theorem FZ {fuel:Nat} {l:List DOp} {st:St} {k:az->St->Tree} (h:WT P (fun e s=>∃d,e = .panic d/\WT P Q (k e s)) (tI l (keepR l st.regs) fuel [] [] st Tree.done)):WT P Q (.code (.draw fuel l) st k):=by
 refine qH (sZ (WT.mono ?_ _ h));rintro e s ⟨d,rfl,hq⟩;exact ⟨s,.inl rfl,hq⟩
theorem yL {f:FuncId} {m:oK} (hf:jc P f m) {vs:List V} {h:Heap} {nx:Nat} {R:Res->Heap->Nat->Prop} (hn:Nat.ble vs.length m.n=true)
  (hw:WT P (Ed m.res R) (exec m.code ⟨dG 0 vs,h,nx,[],nx⟩ Tree.done)):bN P f vs h nx R:=qG hf hn (WT.mono (fun e st hq=>⟨st,.inl rfl,hq⟩) _ hw)
theorem bQ {f:FuncId} {m:oK} (hf:jc P f m) {vs:List V} {h:Heap} {nx:Nat} {R:Res->Heap->Nat->Prop} (hn:Nat.ble vs.length m.n=true)
  (hw:WT P (fun e st=>∃st',(st' = st\/Weak st st')/\Ed m.res R e st') (exec m.code ⟨dG 0 vs,h,nx,[],nx⟩ Tree.done)):bN P f vs h nx R:=qG hf hn hw
theorem ax {f:FuncId} {vs:List V} {h:Heap} {nx:Nat} {k:Res->Heap->Nat->Tree} {R:Res->Heap->Nat->Prop} (hs:bN P f vs h nx R) (h2:∀r h' nx',R r h' nx'->WT P Q (k r h' nx')):WT P Q (.sub f vs h nx k):=hs.mono h2
theorem bK {f:FuncId} {m:oK} (hf:jc P f m) {vs:List V} {h:Heap} {nx:Nat} {k:Res->Heap->Nat->Tree} (hn:Nat.ble vs.length m.n=true)
  (hw:WT P (Ed m.res fun r h' nx'=>WT P Q (k r h' nx')) (exec m.code ⟨dG 0 vs,h,nx,[],nx⟩ Tree.done)):WT P Q (.sub f vs h nx k):=yL hf hn hw
theorem bG {f:FuncId} {vs:List V} {h:Heap} {nx:Nat} {k:Res->Heap->Nat->Tree} {ds:List Dat} (r:Dat) (hb:mV P f) (hd:kK h vs=some ds) (hr:Ret P f ds r) (hq:WT P Q (k (.val (V.bX r)) h nx)):WT P Q (.sub f vs h nx k):=FV hb hd hr hq
theorem dN {res:List iK} {R:Res->Heap->Nat->Prop} {st:St} {vs:List V} (hd:st.defers=[]) (h:resV st res=some vs) (hq:R (.val (pX vs)) st.heap st.next):WT P (Ed res R) (.done .ret st):=⟨hd,vs,h,hq⟩
theorem cO {res:List iK} {R:Res->Heap->Nat->Prop} {st:St} {vs:List V} (hd:st.defers=[]) (h:resV st res=some vs) (hq:R (.val (pX vs)) st.heap st.next):WT P (Ed res R) (.done .normal st):=⟨hd,vs,h,hq⟩
theorem kO {res:List iK} {R:Res->Heap->Nat->Prop} {st:St} {d:Dat} (hd:st.defers=[]) (hq:R (.pan d) st.heap st.next):WT P (Ed res R) (.done (.panic d) st):=⟨hd,hq⟩
theorem ag {res:List iK} {r:Dat} {st:St} {vs:List V} {ds:List Dat} (hd:st.defers=[]) (h:resV st res=some vs) (h2:fE st.heap vs=some ds) (h3:tq st.heap vs=true) (he:fV ds=r):WT P (Ih res r) (.done .ret st):=⟨.inr rfl,hd,vs,ds,h,h2,h3,he⟩
theorem aj {f:FuncId} {m:oK} (hf:jc P f m) {args:List Dat} {r:Dat} (hn:Nat.ble args.length m.n=true) (h:WT P (Ih m.res r) (exec m.code (pI args) Tree.done)):Ret P f args r:=
 FY hf hn h
def cK {α:Type} (S:α->St) (inv:α->Prop) (mu:α->Nat) (x:α) (Q:az->St->Prop):az->St->Prop
 | .normal,s=>∃y,inv y/\mu y<mu x/\Weak s (S y)
 | e,s=>Q e s
theorem cX {α:Type} (S:α->St) (inv:α->Prop) (mu:α->Nat) (x0:α) {m:bE} {st:St} {k:az->St->Tree} (hw:Weak st (S x0)) (h0:inv x0)
  (round:∀x,inv x->WT P (cK S inv mu x fun e s=>WT P Q (k e s)) (exec m (S x) Tree.done)):WT P Q (.code (.loop m) st k):=by
 refine qH (B9 (fun n s=>∃x,n=mu x/\inv x/\s=S x) (mu x0) (S x0) hw ⟨x0,rfl,h0,rfl⟩ ?_);rintro n s ⟨x,rfl,hx,rfl⟩;refine WT.mono ?_ _ (round x hx);intro e s hq
 cases e with
 | normal=>obtain ⟨y,h1,h2,h3⟩:=hq;exact ⟨mu y,S y,h2,h3,y,rfl,h1,rfl⟩
 | exit j=>exact hq
 | ret=>exact hq
 | panic d=>exact hq
def RQ (R:St->Prop) (Q:az->St->Prop):az->St->Prop
 | .normal,s=>R s
 | e,s=>Q e s
def Rounds (P:Program) (m:bE) (Q:az->St->Prop):Nat->St->Prop
 | 0,_=>False
 | n+1,st=>WT P (RQ (Rounds P m Q n) Q) (exec m st Tree.done)
theorem dO (n:Nat) {m:bE} {st:St} {k:az->St->Tree} (h:Rounds P m (fun e s=>WT P Q (k e s)) n st):WT P Q (.code (.loop m) st k):=by
 intro S nt pol code hc hdf c w0 gs a r;obtain ⟨x,rfl,hx⟩:=B8 hc;refine S.VZ n ?_;have key:∀n c' st a,c'.B=c.B->c'.J0=c.J0->Rel c' w0 nt gs st a->Rounds P m (fun e s=>WT P Q (k e s)) n st->
   S.rounds x (fun e a' w'=>∃c'' me st',c''.B=c.B/\c''.J0=c.J0/\c''.w=w'/\bu c'' e me/\Rel c'' w0 nt gs st' a'/\WT P Q (k me st')) n a c'.w:=by
  intro n
  induction n with
  | zero=>intro c' st a _ _ _ h;exact h.elim
  | succ n ih=>
   intro c' st a hB hJ r h;refine S.mono (kN S x m hx (hdf.imp id fun h=>by simp [noD] at h;exact h) Tree.done c' st a r h) ?_;intro e a'' w'' ⟨c'',me,s',f1,f2,f3,f4,f5,f6⟩;subst f3;simp only [WT] at f6
   cases e with
   | normal=>cases me<;>simp only [bu] at f4;exact ih c'' s' a'' (f1.trans hB) (f2.trans hJ) f5 f6
   | exit id=>cases me<;>simp only [bu] at f4;rename_i j;exact ⟨c'',.exit j,s',f1.trans hB,f2.trans hJ,rfl,f4,f5,f6⟩
   | goto l=>cases me<;>simp only [bu] at f4
   | ret=>cases me<;>simp only [bu] at f4;exact ⟨c'',.ret,s',f1.trans hB,f2.trans hJ,rfl,trivial,f5,f6⟩
   | panic ch=>cases me<;>simp only [bu] at f4;rename_i d;exact ⟨c'',.panic d,s',f1.trans hB,f2.trans hJ,rfl,f4,f5,f6⟩
   | outgrown=>cases me<;>simp only [bu] at f4
 exact key n c st a rfl rfl r h
theorem cA {m:bE} {n:Nat} {s:St} (h:WT P (RQ (Rounds P m Q n) Q) (exec m s Tree.done)):WT P (RQ (Rounds P m Q (n+1)) Q) (.done .normal s):=h
theorem gB {R:St->Prop} {j:Nat} {s:St} (h:Q (.exit j) s):WT P (RQ R Q) (.done (.exit j) s):=h
theorem wR {R:St->Prop} {s:St} (h:Q .ret s):WT P (RQ R Q) (.done .ret s):=h
section
variable {α : Type} {S : α -> St} {inv : α -> Prop} {mu : α -> Nat} {x : α}
theorem aN (y:α) {s:St} (hi:inv y) (hm:mu y<mu x) (hw:Weak s (S y)):WT P (cK S inv mu x Q) (.done .normal s):=⟨y,hi,hm,hw⟩
theorem aS {j:Nat} {s:St} (h:Q (.exit j) s):WT P (cK S inv mu x Q) (.done (.exit j) s):=h
theorem aW {s:St} (h:Q .ret s):WT P (cK S inv mu x Q) (.done .ret s):=h
theorem cu {s:St} {d:Dat} (h:Q (.panic d) s):WT P (cK S inv mu x Q) (.done (.panic d) s):=h
end
def KU (ρ:Nat->Nat) (regs:jm) (h h' : Heap):jm->Prop
 | []=>True
 | (i,v')::r=>(∃v,look regs i=some v/\VW ρ h h' v v')/\KU ρ regs h h' r
def Nu (ρ:Nat->Nat) (h h' : Heap) (next:Nat):Heap->Prop
 | []=>True
 | (i,b')::r=>(((∃b,look h (ρ i)=some b/\pW ρ h h' b b')\/(look h (ρ i)=none/\ja b'))/\Nat.blt i next=true)/\Nu ρ h h' next r
def CB (ρ:Nat->Nat) (h h' : Heap):Nat->Prop
 | 0=>True
 | n+1=>(ρ n=n/\((look h n).isSome=true->(look h' n).isSome=true))/\CB ρ h h' n
def cY:List (Nat×Nat)->Nat->Nat
 | [],i=>i
 | (a,b)::r,i=>match Nat.beq a i with
  | true=>b
  | false=>cY r i
def Ii:Heap->List Nat
 | []=>[]
 | (i,_)::r=>i::Ii r
def wS (ρ:Nat->Nat):List Nat->Bool
 | []=>true
 | i::r=>(r.all fun j=>!(Nat.beq (ρ i) (ρ j))||Nat.beq i j)&&wS ρ r
theorem nM {ρ:Nat->Nat} {h h' : Heap}:∀{n:Nat},CB ρ h h' n->∀id,id<n->ρ id=id/\((look h id).isSome=true->(look h' id).isSome=true)
 | 0,_,id,hid=>by omega
 | n+1,⟨h1,h2⟩,id,hid=>by
  by_cases he:id=n
  ·subst he;exact h1
  ·exact nM h2 id (by omega)
theorem pZ {ρ:Nat->Nat} {regs:jm} {h h' : Heap}:∀{r:jm},KU ρ regs h h' r->∀i v',look r i=some v'->∃v,look regs i=some v/\VW ρ h h' v v'
 | [],_,i,v,hh=>by simp [look] at hh
 | (j,u)::r,⟨h1,h2⟩,i,v,hh=>by
  rw [aE] at hh;by_cases hj:j=i
  ·rw [if_pos hj] at hh;injection hh with hh;subst hh;subst hj;exact h1
  ·rw [if_neg hj] at hh;exact pZ h2 i v hh
theorem kC {ρ:Nat->Nat} {h h' : Heap} {next:Nat}:∀{r:Heap},Nu ρ h h' next r->∀i b',look r i=some b'->((∃b,look h (ρ i)=some b/\pW ρ h h' b b')\/(look h (ρ i)=none/\ja b'))/\i<next
 | [],_,i,v,hh=>by simp [look] at hh
 | (j,u)::r,⟨h1,h2⟩,i,v,hh=>by
  rw [aE] at hh;by_cases hj:j=i
  ·rw [if_pos hj] at hh;injection hh with hh;subst hh;subst hj;exact ⟨h1.1,by simpa using h1.2⟩
  ·rw [if_neg hj] at hh;exact kC h2 i v hh
theorem rU:∀{h:Heap} {id:Nat},(look h id).isSome=true->id∈Ii h
 | [],id,hh=>by simp [look] at hh
 | (j,u)::r,id,hh=>by
  rw [aE] at hh;by_cases hj:j=id
  ·simp [Ii,hj]
  ·rw [if_neg hj] at hh;simp [Ii,rU hh]
theorem wT {ρ:Nat->Nat}:∀{l:List Nat},wS ρ l=true->∀i∈l,∀j∈l,ρ i=ρ j->i=j
 | [],_,i,hi,_,_,_=>by simp at hi
 | x::l,h,i,hi,j,hj,he=>by
  rw [wS,i9] at h;have key:∀y∈l,ρ x=ρ y->x=y:=by
   intro y hy hxy;have:=YW.1 h.1 y hy;rw [hxy] at this;simpa using this
  rw [Zj] at hi hj
  rcases hi with rfl|hi
  ·rcases hj with rfl|hj
   ·rfl
   ·exact key j hj he
  ·rcases hj with rfl|hj
   ·exact (key i hi he.symm).symm
   ·exact wT h.2 i hi j hj he
theorem Weak.ofR (l:List (Nat×Nat)) {st st' : St} (h1:KU (cY l) st.regs st.heap st'.heap st'.regs) (h2:Nu (cY l) st.heap st'.heap st'.next st'.heap) (h3:st'.base=st.base) (h4:Nat.ble st.base st'.next=true) (h5:CB (cY l) st.heap st'.heap st.base)
  (h8:wS (cY l) (Ii st'.heap)=true) (h6:eb st'.heap st'.defers=true) (h7:st.defers=nL (cY l) st'.defers):Weak st st':=
 ⟨cY l,fun i v h=>pZ h1 i v h,fun i b h=>(kC h2 i b h).1,fun i b h=>(kC h2 i b h).2,h3,Y0 h4,nM h5,fun id id' hi hi' he=>wT h8 id (rU hi) id' (rU hi') he,h6,h7⟩
def Blk.ren (ρ:Nat->Nat):Blk->Blk
 | .var cs=>.var (nL ρ cs)
 | b=>b
def Blk.closed (h:Heap):Blk->Bool
 | .var cs=>eb h cs
 | _=>true
theorem Jw {ρ:Nat->Nat} {h h' : Heap}:∀{cs:List V},eb h' cs=true->VWL ρ h h' (nL ρ cs) cs
 | [],_=>trivial
 | v::r,hc=>by
  simp only [eb,i9] at hc;exact ⟨.inl ⟨rfl,hc.1⟩,Jw hc.2⟩
theorem F2 {ρ:Nat->Nat} {h h' : Heap} {b:Blk} (hc:b.closed h' = true):pW ρ h h' (b.ren ρ) b:=by
 cases b with
 | var cs=>exact Jw hc
 | arr k xs=>exact ⟨rfl,rfl⟩
 | mt k v xs=>exact ⟨rfl,rfl,rfl⟩
 | iter s p=>exact ⟨rfl,rfl⟩
 | map kk es=>exact ⟨rfl,rfl⟩
theorem qa {α:Type}:∀{l:List (Nat×α)} {i:Nat} {a:α},look l i=some a->(i,a)∈l
 | [],i,a,h=>by simp [look] at h
 | (j,b)::r,i,a,h=>by
  rw [aE] at h;by_cases hj:j=i
  ·rw [if_pos hj] at h;injection h with h;subst h;subst hj;simp
  ·rw [if_neg hj] at h;simp [qa h]
def F3 (ρ:Nat->Nat) (h h' : Heap):Nat->Bool
 | 0=>true
 | n+1=>Nat.beq (ρ n) n&&(!(look h n).isSome||(look h' n).isSome)&&F3 ρ h h' n
theorem F4 {ρ:Nat->Nat} {h h' : Heap}:∀{n:Nat},F3 ρ h h' n=true->CB ρ h h' n
 | 0,_=>trivial
 | n+1,hk=>by
  rw [F3,i9,i9] at hk;refine ⟨⟨wt hk.1.1,fun hs=>?_⟩,F4 hk.2⟩;have:=hk.1.2;rw [hs] at this;simpa using this
theorem uu {α β:Type} {f g:α->β}:∀{l:List α},l.map f=l.map g->∀a∈l,f a=g a
 | [],_,a,ha=>by simp at ha
 | x::l,h,a,ha=>by
  simp only [ZD,Zu] at h;rw [Zj] at ha
  rcases ha with rfl|ha
  ·exact h.1
  ·exact uu h.2 a ha
theorem Weak.eqs (l:List (Nat×Nat)) {st st' : St} (h1:st'.regs.map (fun p=>look st.regs p.1)=st'.regs.map (fun p=>some (p.2.ren (cY l)))) (h1c:(st'.regs.all fun p=>p.2.closed st'.heap)=true)
  (h2:st'.heap.map (fun p=>look st.heap (cY l p.1))=st'.heap.map (fun p=>some (p.2.ren (cY l)))) (h2c:(st'.heap.all fun p=>p.2.closed st'.heap&&Nat.blt p.1 st'.next)=true)
  (h3:st'.base=st.base) (h4:Nat.ble st.base st'.next=true) (h5:F3 (cY l) st.heap st'.heap st.base=true) (h8:wS (cY l) (Ii st'.heap)=true) (h6:eb st'.heap st'.defers=true) (h7:st.defers=nL (cY l) st'.defers):Weak st st':=by
 refine ⟨cY l,?_,?_,?_,h3,Y0 h4,nM (F4 h5),fun id id' hi hi' he=>wT h8 id (rU hi) id' (rU hi') he,h6,h7⟩
 ·intro i v' hv
  have hm:=qa hv;exact ⟨v'.ren (cY l),uu h1 (i,v') hm,.inl ⟨rfl,YW.1 h1c (i,v') hm⟩⟩
 ·intro id b' hb
  have hm:=qa hb;have:=YW.1 h2c (id,b') hm;rw [i9] at this;exact .inl ⟨b'.ren (cY l),uu h2 (id,b') hm,F2 this.1⟩
 ·intro id b' hb
  have:=YW.1 h2c (id,b') (qa hb);rw [i9] at this;simpa using this.2
theorem Weak.of {st st' : St} (h1:KU (cY []) st.regs st.heap st'.heap st'.regs) (h2:Nu (cY []) st.heap st'.heap st'.next st'.heap) (h3:st'.base=st.base) (h4:Nat.ble st.base st'.next=true) (h5:CB (cY []) st.heap st'.heap st.base)
  (h6:eb st'.heap st'.defers=true) (h7:st.defers=nL (cY []) st'.defers):Weak st st':=
 ⟨cY [],fun i v h=>pZ h1 i v h,fun i b h=>(kC h2 i b h).1,fun i b h=>(kC h2 i b h).2,h3,Y0 h4,nM h5,fun id id' _ _ he=>he,h6,h7⟩
end
end Uw
namespace Uw
open Go Go.RowKit
variable [Glob]
structure yx where
 n:Nat
 pol:Pol
 t:Nat
 ops:List MI
 rest:bE
def isRec (o:Oper):Option Nat:=
 match o.op,o.guard,o.dst with
 | .call c,none,some t=>match c.callee with
  | .builtin .recover=>some t
  | _=>none
 | _,_,_=>none
def Nv (P:Program) (f:FuncId) (n:Nat) (pol:Pol):Option (Nat×List MI×bE):=
 match P.funcs[f]? with
 | some fn=>match fn.body,fn.results.toList with
  | some (.seq (.region _ ops false) code),[]=>match ops.toList with
   | o::l=>match !(fn.name == "runtime.NumGoroutine")&&Nat.beq fn.ntmps n,isRec o,da P n pol ops.toList l,comp P n pol code with
    | true,some t,some mi,some c=>match Nat.blt t n with
     | true=>some (t,mi,c)
     | false=>none
    | _,_,_,_=>none
   | []=>none
  | _,_=>none
 | none=>none
def tO (P:Program) (f:FuncId) (m:yx):Prop:=Nv P f m.n m.pol=some (m.t,m.ops,m.rest)
def Jx (c:Cx):Option Dat->FrameMode->Prop
 | none,u=>u = .returning
 | some d,u=>∃v,u = .panicking [{ v:=v,recovered:=false }]/\aG c.w (Imm c) d v
def CG:Option Dat->Dat
 | some d=>d
 | none=>.nilIface
def tr (P:Program) (f:FuncId) (vs:List V) (h:Heap) (nx:Nat) (mode:Option Dat) (Q:Heap->Nat->Prop):Prop:=
 mV P f/\∀(c:Cx) (w0:World) (F:Fr) (gvs:List Value) (u:FrameMode),c.heap=h->cz c w0 nx->F.K<=nx->F.p c->aC c vs gvs->Jx c mode u->
  CallsD P f gvs.toArray u c.w fun e u' w'=>∃c' nx' v,c'.B=c.B/\c'.J0=c.J0/\c'.w=w'/\cz c' w0 nx'/\nx<=nx'/\F.p c'/\e = .returned v/\settle u' = .returning/\Q c'.heap nx'
theorem Nw {P:Program} {o:Oper} {a:Act} {w:World} {K K' : Act->World->Prop} {Q Q' : Exit->Act->World->Prop} (h:∀a w,K a w->K' a w) (hq:∀e a w,Q e a w->Q' e a w) (hh:o.wp P a w K Q):o.wp P a w K' Q':=by
 unfold Oper.wp at *;generalize (execOp a.eval o).run P w=r at *
 cases r with
 | ok n w'=>
  cases n<;>simp only [Oper.upon] at hh ⊢<;>
   first
    | exact h _ _ hh
    | exact Calls.mono hh (fun e w'' he=>by cases e<;>first|exact h _ _ he|exact hq _ _ _ he|(obtain ⟨a1,w1,h1⟩:=he;exact ⟨a1,w1,hq _ _ _ h1⟩))
    | exact Rows.mono hh (fun _ _ he=>h _ _ he)
 | halt x w'=>cases x<;>simp only [Oper.upon] at hh ⊢<;>first|exact hq _ _ _ hh|exact hh
theorem qI {P:Program} {ops:Array Oper} {Q Q' : Exit->Act->World->Prop} (hq:∀e a w,Q e a w->Q' e a w):∀(l:List Oper) (a:Act) (w:World),wpList P ops Q l a w->wpList P ops Q' l a w
 | [],a,w,h=>hq _ _ _ h
 | o::l,a,w,h=>by
  simp only [wpList] at h ⊢
  split at h
  ·rename_i hw
   rw [if_pos hw]
   rcases h with h|⟨h1,a1,w1,h2⟩
   ·exact .inl (Nw (fun a w=>qI hq l a w) hq h)
   ·exact .inr ⟨h1,a1,w1,hq _ _ _ h2⟩
  ·rename_i hw
   rw [if_neg hw];exact qI hq l _ _ h
theorem yy {P:Program} {ops:Array Oper} {Q:Exit->Act->List Frame->World->Prop} {cs:List Frame} (hno:∀a w,¬Q .outgrown a cs w):∀(l:List Nat) (a:Act) (w:World),wpOps P ops (fun e a w=>Q e a cs w) l a w->wpOpsS P ops Q l a cs w:=by
 intro l
 induction l with
 | nil=>intro a w h;exact h
 | cons i l ih=>
  intro a w h;simp only [wpOps] at h;simp only [wpOpsS]
  cases ho:ops[i]? with
  | none=>simp only [ho] at h ⊢;exact ih a w h
  | some o=>
   simp only [ho] at h ⊢
   split
   ·rename_i hw
    simp only [hw,if_true] at h
    rcases h with h|⟨_,a',w',hl⟩
    ·have h':=Oper.wp_mono ih h
     unfold Oper.wp at h'
     split
     ·rename_i w' hr
      rw [hr] at h';exact h'.elim
     ·exact h'
    ·exact (hno _ _ hl).elim
   ·rename_i hw
    simp only [hw] at h;exact ih _ _ h
theorem Nx {P:Program} {f:FuncId} {m:yx} (h:tO P f m):∃fn id ops code o l,P.funcs[f]? = some fn/\fn.body=some (.seq (.region id ops false) code)/\fn.results.toList=[]/\ops.toList=o::l/\(fn.name == "runtime.NumGoroutine")=false/\fn.ntmps=m.n/\isRec o=some m.t/\da P m.n m.pol ops.toList l=some m.ops/\comp P m.n m.pol code=some m.rest/\m.t<m.n:=by
 unfold tO Nv at h
 split at h
 ·rename_i fn hf
  split at h
  ·rename_i id ops code hb hr
   split at h
   ·rename_i o l ho
    split at h
    ·rename_i t mi c h1 h2 h3 h4
     split at h
     ·rename_i h5
      simp only [Y8,ZM] at h;obtain ⟨rfl,rfl,rfl⟩:=h;rw [i9] at h1;exact ⟨fn,id,ops,code,o,l,hf,hb,hr,ho,by simpa using h1.1,wt h1.2,h2,h3,h4,by simpa using h5⟩
     ·simp at h
    ·simp at h
   ·simp at h
  ·simp at h
 ·simp at h
theorem Ny {P:Program} {o:Oper} {t:Nat} (h:isRec o=some t):o.guard=none/\o.dst=some t/\∀(a:Act) (w:World),(execOp a.eval o).run P w = .ok .recover w:=by
 unfold isRec at h
 split at h
 ·rename_i cl t' ho hg hd
  split at h
  ·rename_i hc
   simp at h;subst h;refine ⟨hg,hd,fun a w=>?_⟩;obtain ⟨cal,args,ats⟩:=cl;simp only at hc;subst hc;simp only [execOp,ho,resolve,invoke,builtin];rfl
  ·simp at h
 ·simp at h
def QO (Q:Heap->Nat->Prop) (e:az) (s:St):Prop:=(e = .normal\/e = .ret)/\s.defers=[]/\Q s.heap s.next
noncomputable def Jy (m:yx) (st:St) (q:az->St->Tree):Tree:=
 cN m.ops none st fun e st'=>match e with
  | .normal=>exec m.rest st' q
  | e=>q e st'
theorem jA {P:Program} {f:FuncId} {m:yx} (hf:tO P f m) {vs:List V} {h:Heap} {nx:Nat} {mode:Option Dat} {Q:Heap->Nat->Prop} (hn:Nat.ble vs.length m.n=true)
  (hw:WT P (QO Q) (Jy m (put (some m.t) (.d (CG mode)) ⟨dG 0 vs,h,nx,[],nx⟩) Tree.done)):tr P f vs h nx mode Q:=by
 obtain ⟨fn,id,ops,code,o,l,h1,h2,hres,hol,hname,hnt,hrec,hcl,hcode,htn⟩:=Nx hf;refine ⟨⟨fn,h1,by rw [h2];rfl,hname⟩,?_⟩;rintro c w0 F gvs u rfl hh hF hp hv hmode
 let F' : Fr:=⟨nx,F.p,fun c c' he hc=>F.ok c c' (he.mono hF) hc⟩
 have r0:=Rel.enter (F:=F') (n:=m.n) hh (Ls _) hp hv (Y0 hn);obtain ⟨hg,hdst,hrun⟩:=Ny (P:=P) hrec;refine callsD_of_wpS h1 h2 ?_;intro c₀ cs hu;rw [hnt];have final:∀(v:Value) (u' : FrameMode),settle u' = .returning->aD c (.d (CG mode)) v->
   wpOpsS P ops (Exit.thenS (code.wpS P (bodyPostS P fn c₀ cs fun e u' w'=>∃c' nx' v,c'.B=c.B/\c'.J0=c.J0/\c'.w=w'/\cz c' w0 nx'/\nx<=nx'/\F.p c'/\e = .returned v/\settle u' = .returning/\Q c'.heap nx')) (bodyPostS P fn c₀ cs fun e u' w'=>∃c' nx' v,c'.B=c.B/\c'.J0=c.J0/\c'.w=w'/\cz c' w0 nx'/\nx<=nx'/\F.p c'/\e = .returned v/\settle u' = .returning/\Q c'.heap nx'))
    (List.range' 1 l.length) (({ tmps:=gvs.toArray++Array.replicate (m.n - gvs.toArray.size) undef,defers:=[] }:Act).put o.dst v) ({ c₀ with mode:=u' }::cs) c.w:=by
  intro v u' hset hvr;have r1:=r0.put (dst:=some m.t) (by simpa using htn) hvr;have hend:∀(e:Exit) (a' : Act) (w' : World),Came P (QO Q) Tree.done c w0 m.n F' e a' w'->bodyPostS P fn c₀ cs (fun e u' w'=>∃c' nx' v,c'.B=c.B/\c'.J0=c.J0/\c'.w=w'/\cz c' w0 nx'/\nx<=nx'/\F.p c'/\e = .returned v/\settle u' = .returning/\Q c'.heap nx') e a' ({ c₀ with mode:=u' }::cs) w':=by
   intro e a' w' ⟨c',me,st',e1,e2,e3,e4,e5,e6⟩;subst e3;simp only [WT,QO] at e6;obtain ⟨g1,g2,g3⟩:=e6;have hdef:a'.defers=[]:=by have:=e5.defers;rw [g2] at this;exact this
   have hres' : (results fn a'.tmps).run P c'.w = .ok (.tuple #[]) c'.w:=by
    have:=mW (P:=P) (fn:=fn) (t:=a'.tmps) (w:=c'.w) (us:=[]) (by rw [hres];simp);simpa using this
   have key:a'.defers=[]/\∃u'',{ c₀ with mode:=u' }::cs={ c₀ with mode:=u'' }::cs/\∃v,(results fn a'.tmps).run P c'.w = .ok v c'.w/\(∃c'' nx' v',c''.B=c.B/\c''.J0=c.J0/\c''.w=c'.w/\cz c'' w0 nx'/\nx<=nx'/\F.p c''/\Ending.returned v = .returned v'/\settle u'' = .returning/\Q c''.heap nx'):=
    ⟨hdef,u',rfl,_,hres',c',st'.next,_,e1,e2,rfl,e5.hrel,Zn e5.nD e5.base,e5.frames,rfl,hset,by rw [e5.heap];exact g3⟩
   cases e with
   | normal=>exact key
   | ret=>exact key
   | exit id=>cases me<;>simp only [bu] at e4;simp at g1
   | goto l=>cases me<;>simp only [bu] at e4
   | panic ch=>cases me<;>simp only [bu] at e4;simp at g1
   | outgrown=>cases me<;>simp only [bu] at e4
  have hlist:=uj (P:=P) (n:=m.n) (pol:=m.pol) (ops:=ops.toList) (Q:=QO Q) (w0:=w0) (gs:=F') (c0:=c) l m.ops none c _ _ hcl rfl rfl r1 (by intro t w' h' hh;simp at hh) hw;have e:ops.toList.toArray=ops:=by simp
  rw [e] at hlist;rw [hdst];refine yy ?_ _ _ _ ?_
  ·intro a w hq
   simp only [Exit.thenS,bodyPostS] at hq;obtain ⟨u'',c',nx',v',_,_,_,_,_,_,hh,_⟩:=hq
   cases hh
  ·rw [wpOps_eq_wpList l 1 (by intro j;rw [<- Zx,hol,aaO];rfl)]
   refine qI ?_ _ _ _ hlist;intro e' a' w' hq;obtain ⟨c',me,st',e1,e2,e3,e4,e5,e6⟩:=hq;subst e3
   cases e' with
   | normal=>
    cases me<;>simp only [bu] at e4
    simp only [Exit.thenS];refine wpS_of_wp (Code.wp_mono ?_ (kN (plainW P) code m.rest hcode (.inl rfl) Tree.done c' st' a' e5 e6));intro e'' a'' w'' XU;obtain ⟨c'',me',uU,f1,f2,f3,f4,f5,f6⟩:=XU;exact hend _ _ _ ⟨c'',me',uU,f1.trans e1,f2.trans e2,f3,f4,f5,f6⟩
   | exit id=>cases me<;>simp only [bu] at e4;rename_i j;exact hend (.exit id) a' c'.w ⟨c',.exit j,st',e1,e2,rfl,e4,e5,e6⟩
   | goto l=>cases me<;>simp only [bu] at e4
   | ret=>cases me<;>simp only [bu] at e4;exact hend .ret a' c'.w ⟨c',.ret,st',e1,e2,rfl,trivial,e5,e6⟩
   | panic ch=>cases me<;>simp only [bu] at e4;rename_i d;exact hend (.panic ch) a' c'.w ⟨c',.panic d,st',e1,e2,rfl,e4,e5,e6⟩
   | outgrown=>cases me<;>simp only [bu] at e4
 refine wpS_seq (wpS_region ?_);have hsize:ops.size=l.length+1:=by rw [<- aal,hol];rfl
 rw [hsize,List.range_eq_range',List.range'_succ];have ho0:ops[0]? = some o:=by rw [<- Zx,hol];rfl
 simp only [wpOpsS,ho0];have hwant:Region.wanted o (yielded ops (gvs.toArray++Array.replicate (m.n - gvs.toArray.size) undef))=true:=by simp [Region.wanted,hg]
 rw [if_pos hwant];rw [hrun];simp only []
 cases mode with
 | none=>
  have hu' : c₀.mode = .returning:=by rw [hu];exact hmode
  have:recoverD (c₀::cs)=none:=by simp [recoverD,hu']
  simp only [this];have:=final .nilIface .returning rfl (by simp [aD,CG,aG]);have ec:({ c₀ with mode:=.returning }:Frame)=c₀:=by rw [<- hu']
  rw [ec] at this;simpa using this
 | some d=>
  obtain ⟨v,hu2,hv2⟩:=hmode;have hu' : c₀.mode = .panicking [{ v:=v,recovered:=false }]:=by rw [hu];exact hu2
  have:recoverD (c₀::cs)=some (v,{ c₀ with mode:=.panicking [{ v:=v,recovered:=true }] }::cs):=by simp [recoverD,hu']
  simp only [this];have:=final v (.panicking [{ v:=v,recovered:=true }]) rfl hv2;simpa using this
def F5 (P:Program) (res:List iK) (r:Dat) (e:az) (st:St):Prop:=
 ((e = .normal\/e = .ret)/\st.defers=[]/\∃vs ds,resV st res=some vs/\fE st.heap vs=some ds/\tq st.heap vs=true/\fV ds=r)\/
 ∃mode g fs cs,((e = .normal\/e = .ret)/\mode=none\/∃d,e = .panic d/\mode=some d)/\st.defers=[.func g fs cs]/\
  tr P g (fs++cs) st.heap st.next mode fun h' nx'=>∃vs ds,resV { st with heap:=h',next:=nx' } res=some vs/\fE h' vs=some ds/\tq h' vs=true/\fV ds=r
theorem Ij {P:Program} {f:FuncId} {fs cs:Array Value} {w:World} (hb:mV P f):(invoke (.fn (.func f) cs) fs).run P w = .ok (.enter f (fs++cs)) w:=by
 obtain ⟨fn,hf,hb,hn⟩:=hb;have hb' : fn.body.isNone=false:=by cases h:fn.body<;>simp [h] at hb ⊢
 simp only [invoke];unfold callFunc;rw [run_bind_ok (s:=program) (x:=P) (w':=w) rfl];simp only [hf,hn,hb',Y4,if_false];rfl
theorem Came.weak {P:Program} {Q:az->St->Prop} {c:Cx} {w0:World} {n:Nat} {gs:Fr} {e:Exit} {a:Act} {w:World} (h:Came P (fun e st=>∃st',(st' = st\/Weak st st')/\Q e st') Tree.done c w0 n gs e a w):Came P Q Tree.done c w0 n gs e a w:=by
 obtain ⟨c1,me,st1,e1',e2',e3',e4',e5',e6'⟩:=h;subst e3';simp only [WT] at e6';obtain ⟨st',zt,e6⟩:=e6';obtain ⟨c',k1,k2,k3,k5,e5⟩:∃c',c'.B=c1.B/\c'.J0=c1.J0/\c'.w=c1.w/\Keeps c1.w c1.w (Imm c1) (Imm c')/\Rel c' w0 n gs st' a:=by
  rcases zt with rfl|zt
  ·exact ⟨c1,rfl,rfl,rfl,fun b o h=>⟨h,rfl⟩,e5'⟩
  ·exact e5'.weak zt
 have e4:bu c' e me:=by
  cases e<;>cases me<;>simp only [bu] at e4' ⊢<;>first|exact e4' | skip
  obtain ⟨v,h1,h2⟩:=e4';exact ⟨v,h1,by rw [k3];exact aG.keep k5 _ _ h2⟩
 exact ⟨c',me,st',k1.trans e1',k2.trans e2',k3,e4,e5,e6⟩
theorem tP {P:Program} {f:FuncId} {m:oK} (hf:jc P f m) {args:List Dat} {r:Dat} (hn:Nat.ble args.length m.n=true)
  (h:WT P (fun e st=>∃st',(st' = st\/Weak st st')/\F5 P m.res r e st') (exec m.code (pI args) Tree.done)):Ret P f args r:=by
 obtain ⟨fn,code,h1,h2,h0,h3,h4,h5⟩:=hf;intro w J vs hG hrel;refine calls_of_wp_defers h1 h2 ?_;rw [h3];refine Code.wp_mono ?_ (kN (plainW P) code m.code h5 (.inl rfl) Tree.done _ _ _ (Rel.init hG hrel (Y0 hn)) h);intro e a' w' Wa;obtain ⟨c',me,st',e1,e2,e3,e4,e5,e6⟩:=Wa.weak;subst e3;simp only [WT] at e6
 rcases e6 with ⟨g1,g2,vs',ds,g3,g4,g5,rfl⟩|⟨mode,g,fs,cs,hmode,hdef,Wb⟩
 ·obtain ⟨v,hv1,hv2⟩:=zu (P:=P) (w:=w) (J:=J) e5 h4 e1 e2 g3 g4 g5
  have hbel:Below w.heap.size w c'.w:=by have:=e5.hrel.below;rw [e1] at this;exact this
  have hd:a'.defers=[]:=by have:=e5.defers;rw [g2] at this;exact this
  have key:Leaves P fn a'.tmps (fun e w'=>∃v,e = .returned v/\aG w' (fun b o=>J b o\/(w.heap.size<=b/\b<w'.heap.size)) (fV ds) v/\Below w.heap.size w w') a'.defers .returning c'.w:=by
   rw [hd];exact ⟨v,hv1,v,rfl,hv2,hbel⟩
  cases e with
  | normal=>exact key
  | ret=>exact key
  | exit id=>cases me<;>simp only [bu] at e4;simp at g1
  | goto l=>cases me<;>simp only [bu] at e4
  | panic ch=>cases me<;>simp only [bu] at e4;simp at g1
  | outgrown=>cases me<;>simp only [bu] at e4
 ·have hd:=e5.defers
  rw [hdef] at hd;obtain ⟨dd,ds',f',first,cap,us,ws,hd1,hd2,hd3,hd4,hd5,hd6⟩:=hd;simp only [V.func.injEq] at hd2;obtain ⟨rfl,rfl,rfl⟩:=hd2;simp only [bZ] at hd6;subst hd6 hd3;have key:∀u,u≠.run->Jx c' mode u->Leaves P fn a'.tmps (fun e w'=>∃v,e = .returned v/\aG w' (fun b o=>J b o\/(w.heap.size<=b/\b<w'.heap.size)) r v/\Below w.heap.size w w') a'.defers u c'.w:=by
   intro u hur hu;rw [hd1];refine leaves_cons hur (Ij Wb.1) ?_;have hs:=Wb.2 c' w (zk Fr.none st' a' e5.frK) (us++ws) u e5.heap e5.hrel (Ls _) e5.UD (hd4.append hd5) hu;rw [<- aak] at hs;refine hs.mono ?_;rintro e u' w' ⟨c'',nx',v,pB,pJ,rfl,pH,pn,pF,rfl,hset,vs',ds,q1,q2,q3,rfl⟩;have r':=e5.V2 pF pH pn;simp only [hset];obtain ⟨v,hv1,hv2⟩:=zu (P:=P) (w:=w) (J:=J) r' h4 (pB.trans e1) (pJ.trans e2) q1 q2 q3;have hbel:Below w.heap.size w c''.w:=by have:=pH.below;rw [pB,e1] at this;exact this
   exact ⟨v,hv1,v,rfl,hv2,hbel⟩
  cases e with
  | normal=>
   cases me<;>simp only [bu] at e4
   rcases hmode with ⟨_,rfl⟩|⟨d,hh,_⟩
   ·exact key .returning (by simp) rfl
   ·cases hh
  | ret=>
   cases me<;>simp only [bu] at e4
   rcases hmode with ⟨_,rfl⟩|⟨d,hh,_⟩
   ·exact key .returning (by simp) rfl
   ·cases hh
  | exit id=>cases me<;>simp only [bu] at e4;rcases hmode with ⟨hh,_⟩|⟨d,hh,_⟩<;>simp at hh
  | goto l=>cases me<;>simp only [bu] at e4
  | panic ch=>
   cases me<;>simp only [bu] at e4
   rename_i d0
   rcases hmode with ⟨hh,_⟩|⟨d,hh,rfl⟩
   ·simp at hh
   ·injection hh with hh;subst hh
    obtain ⟨v,rfl,hv⟩:=e4;exact key _ (by simp) ⟨v,rfl,hv⟩
  | outgrown=>cases me<;>simp only [bu] at e4
theorem qJ {P:Program} {f:FuncId} {m:oK} (hf:jc P f m) {args:List Dat} {r:Dat} (hn:Nat.ble args.length m.n=true)
  (h:WT P (F5 P m.res r) (exec m.code (pI args) Tree.done)):Ret P f args r:=tP hf hn (WT.mono (fun e st h=>⟨st,.inl rfl,h⟩) _ h)
theorem tr.mono {P:Program} {f:FuncId} {vs:List V} {h:Heap} {nx:Nat} {mode:Option Dat} {Q Q' : Heap->Nat->Prop} (hs:tr P f vs h nx mode Q) (hq:∀h' nx',Q h' nx'->Q' h' nx'):tr P f vs h nx mode Q':=by
 refine ⟨hs.1,fun c w0 F gvs u h1 h2 h3 h4 h5 h6=>(hs.2 c w0 F gvs u h1 h2 h3 h4 h5 h6).mono ?_⟩;rintro e u' w' ⟨c',nx',v,e1,e2,e3,e4,e5,e6,e7,e8,e9⟩;exact ⟨c',nx',v,e1,e2,e3,e4,e5,e6,e7,e8,hq _ _ e9⟩
structure DW (P:Program) (f:FuncId) where
 m:yx
 h:tO P f m
def UQ (P:Program) (f:FuncId) (pol:Pol):Option (Nat×Nat×List MI×bE):=
 match P.funcs[f]? with
 | some fn=>match Nv P f fn.ntmps pol with
  | some (t,o,c)=>some (fn.ntmps,t,o,c)
  | none=>none
 | none=>none
theorem QP {P:Program} {f:FuncId} {pol:Pol} {n t:Nat} {o:List MI} {c:bE} (h:UQ P f pol=some (n,t,o,c)):tO P f ⟨n,pol,t,o,c⟩:=by
 unfold UQ at h
 split at h
 ·split at h
  ·rename_i hf
   simp at h;obtain ⟨rfl,rfl,rfl,rfl⟩:=h;exact hf
  ·cases h
 ·cases h
def XV (P:Program) (f:FuncId) (pol:Pol) (l:List Nat):Option (Nat×Nat×List MI×bE):=
 match P.funcs[f]? with
 | some fn=>match fn.body with
  | some (.seq (.region _ ops false) code)=>match ops.toList with
   | o::l'=>match isRec o,da P fn.ntmps pol ops.toList l',tN P fn.ntmps pol l code with
    | some t,some mi,some c=>some (fn.ntmps,t,mi,c)
    | _,_,_=>none
   | []=>none
  | _=>none
 | none=>none
def dw (P:Program) (f:FuncId) (pol:Pol) (l:List Nat:=[]) {n t:Nat} {o:List MI} {c:bE} (hv:XV P f pol l=some (n,t,o,c):=by conv=>lhs;reduce;(try simp only [aaF,Int.reduceNatCast,aaJ,Int.reduceNegSucc])) (h:UQ P f pol=some (n,t,o,c):=by kernel_rfl):DW P f:=⟨⟨n,pol,t,o,c⟩,QP h⟩
end Uw
namespace Uw
open Go Go.RowKit
variable [Glob]
end Uw
namespace Uw
open Go Go.RowKit
variable [Glob]
mutual
inductive DLe:Dat->Dat->Prop
 | refl (d:Dat):DLe d d
 | nil (k:Nat):DLe .nil (.slice k [] false)
 | slice {k:Nat} {xs ys:List (List Dat)} {z:Bool} (h:Eg xs ys):DLe (.slice k xs z) (.slice k ys false)
 | agg {cs ds:List Dat} (h:vi cs ds):DLe (.agg cs) (.agg ds)
 | tuple {cs ds:List Dat} (h:vi cs ds):DLe (.tuple cs) (.tuple ds)
inductive vi:List Dat->List Dat->Prop
 | refl (l:List Dat):vi l l
 | cons {a b:Dat} {as bs:List Dat} (h:DLe a b) (h2:vi as bs):vi (a::as) (b::bs)
inductive Eg:List (List Dat)->List (List Dat)->Prop
 | refl (l:List (List Dat)):Eg l l
 | cons {a b:List Dat} {as bs:List (List Dat)} (h:vi a b) (h2:Eg as bs):Eg (a::as) (b::bs)
end
mutual
theorem DLe.rel {w:World} {J:Nat->Nat->Prop}:∀{d d' : Dat},DLe d d'->∀{v:Value},aG w J d v->aG w J d' v
 | _,_,.refl d,v,r=>r
 | _,_,.nil k,v,r=>.inl ⟨⟨_,r,by simp⟩,rfl⟩
 | _,_,.slice h,v,.inl ⟨⟨x,r1,_⟩,r2⟩=>.inl ⟨⟨x,r1,by simp⟩,by subst r2;cases h;rfl⟩
 | _,_,.slice h,v,.inr ⟨b,o,cap,h1,h2,h3,h4⟩=>.inr ⟨b,o,cap,by rw [<- h.len];exact h1,by rw [<- h.len];exact h2,by simp,h.rel h4⟩
 | _,_,.agg h,v,⟨vs,h1,h2⟩=>⟨vs,h1,h.rel h2⟩
 | _,_,.tuple h,v,⟨vs,h1,h2⟩=>⟨vs,h1,h.rel h2⟩
theorem vi.rel {w:World} {J:Nat->Nat->Prop}:∀{d d' : List Dat},vi d d'->∀{vs:List Value},aQ w J d vs->aQ w J d' vs
 | _,_,.refl l,vs,r=>r
 | _,_,.cons h h2,vs,⟨v,vs',e1,e2,e3⟩=>⟨v,vs',e1,h.rel e2,h2.rel e3⟩
theorem vi.Wc {w:World} {J:Nat->Nat->Prop} {b:Nat}:∀{d d' : List Dat},vi d d'->∀{o:Nat},du w J b o d->du w J b o d'
 | _,_,.refl l,o,r=>r
 | _,_,.cons h h2,o,⟨⟨v,e1,e2,e3,e4⟩,e5⟩=>⟨⟨v,e1,e2,e3,h.rel e4⟩,h2.Wc e5⟩
theorem Eg.rel {w:World} {J:Nat->Nat->Prop} {b k:Nat}:∀{d d' : List (List Dat)},Eg d d'->∀{o:Nat},bU w J b k o d->bU w J b k o d'
 | _,_,.refl l,o,r=>r
 | _,_,.cons h h2,o,⟨e1,e2,e3⟩=>⟨by rw [<- h.len];exact e1,h.Wc e2,h2.rel e3⟩
theorem vi.len:∀{d d' : List Dat},vi d d'->d.length=d'.length
 | _,_,.refl l=>rfl
 | _,_,.cons h h2=>by simp [h2.len]
theorem Eg.len:∀{d d' : List (List Dat)},Eg d d'->d.length=d'.length
 | _,_,.refl l=>rfl
 | _,_,.cons h h2=>by simp [h2.len]
end
theorem Ret.args {P:Program} {f:FuncId} {ds ds' : List Dat} {r:Dat} (h:Ret P f ds' r) (hl:vi ds ds'):Ret P f ds r:=fun w J vs hg hr=>h w J vs hg (hl.rel hr)
theorem Ret.res {P:Program} {f:FuncId} {ds:List Dat} {r r' : Dat} (h:Ret P f ds r) (hl:DLe r r'):Ret P f ds r':=fun w J vs hg hr=>(h w J vs hg hr).mono (by
 rintro e w' ⟨v,e1,e2,e3⟩;exact ⟨v,e1,hl.rel e2,e3⟩)
theorem Nz {P:Program} {Q:az->St->Prop} {b:Bool} {y:Tree} (hb:b=true) (h1:WT P Q y):WT P Q (.test b y .fail):=⟨fun _=>h1,fun h=>(by rw [hb] at h;cases h)⟩
theorem UR {P:Program} {Q:az->St->Prop} {k:IntKind} {x:Int} {y n:Tree} (hb:inR k x=true) (h1:WT P Q y):WT P Q (.test (inR k x) y n):=⟨fun _=>h1,fun h=>(by rw [hb] at h;cases h)⟩
theorem qK {ρ:Nat->Nat} {h h' : Heap} {b b' : Blk} (e:b=b'.ren ρ) (hc:b'.closed h' = true):pW ρ h h' b b':=by subst e;exact F2 hc
theorem Eh {ρ:Nat->Nat} {h h' : Heap} {k:IntKind} {a b:Int} (e:a=b):VW ρ h h' (.d (.int k a)) (.d (.int k b)):=by subst e;exact Or.inl ⟨rfl,rfl⟩
theorem Ik {ρ:Nat->Nat} {h h' : Heap} {id ver off a b:Nat} (e:a=b) (hr:ρ id=id) (hc:(look h' id).isSome=true):VW ρ h h' (.ref id ver off a) (.ref id ver off b):=by subst e;exact Or.inl ⟨by rw [V.ren,hr],hc⟩
theorem NA {ρ:Nat->Nat} {h h' : Heap} {a b:List UInt8} (e:a=b):VW ρ h h' (.d (.str a)) (.d (.str b)):=by subst e;exact Or.inl ⟨rfl,rfl⟩
theorem US {α:Type} {g:α->List Dat} {l:List α} {n:Nat} {xs:List (List Dat)} (h1:n=xs.length) (h2:xs=l.map g):(xs.drop 0).take n=l.map g:=by subst h1;rw [YY,ZE,h2]
theorem QQ {α β:Type} (g:α->β) (l:List α) (k:Nat) (h:k<l.length):(l.map g)[k]? = some (g l[k]):=by simp [h]
end Uw
namespace Uw
open Go Go.RowKit Go.ChangeShapes Go.WideShapes Go.ChangeAt
variable [Glob]
theorem tQ {H:Type} {enc:TypeId×Value->H} {P:Program} {W W' : World} (hl:laidOutB P=true) (hb:Below W.heap.size W W'):∀{ts:List TypeId} {vs:List Value} {ds:List (DataW H)} {p:List MemPlace},
  (ts.all fun t=>P.readableRec t&&decide (t<P.types.size))=true->DataW.TrodAll enc P W 0 (fun _=>true) true ts vs ds p->(∀x∈p,x.block<W.heap.size)->DataW.TrodAll enc P W' 0 (fun b=>decide (b<W.heap.size)) true ts vs ds p
 | [],[],[],p,_,h,_=>h
 | t::ts,v::vs,d::ds,p,ht,⟨p1,q1,h1,h2,h3⟩,hlt=>by
  rw [aat,i9,i9] at ht;subst h3;exact ⟨p1,q1,Below.trod hl ht.1.1 (of_decide_eq_true ht.1.2) h1 hb (fun x hx=>hlt x (by simp [hx])),tQ hl hb ht.2 h2 (fun x hx=>hlt x (by simp [hx])),rfl⟩
 | [],_::_,_,_,_,h,_=>h.elim
 | [],[],_::_,_,_,h,_=>h.elim
 | _::_,[],_,_,_,h,_=>h.elim
 | _::_,_::_,[],_,_,h,_=>h.elim
theorem Il {H:Type} {enc:TypeId×Value->H} {P:Program} {f:Func} {s:ChangeSpec} {apart fresh handsOn:Bool} {W W' : World} {args:Array Value} {v:Value} {ds gs:List (DataW H)} {before:List MemPlace} {tb:TypeId}
  (hl:laidOutB P=true) (hts:(f.params.toList.all fun t=>P.readableRec t&&decide (t<P.types.size))=true) (hrt:f.resultTypes = #[tb]) (htb:P.underlying tb=some .bool) (hvs:s.vars=[])
  (hW:DataW.Whole enc P f.params.toList s.vars apart W args.toList ds gs before) (hfn:s.fn H ds={ results:=[.lit (.bool true)],args:=ds }) (hb:Below W.heap.size W W') (hv:v = .bool true):s.post enc P f apart fresh handsOn false W args v W':=by
 have hW':=hW;obtain ⟨p,q,hA,hV,rfl,hfz,hnd⟩:=hW;rw [hvs] at hV;obtain ⟨rfl,rfl⟩:=trodVars_none hV;have hlt:∀x∈p,x.block<W.heap.size:=fun x hx=>by simpa using hW'.lt x (by simpa using hx)
 subst hv;refine ⟨ds,[],p++[],[],p,[],hW',?_,?_,?_,?_,by simp⟩
 ·rw [Z1,hfn,hrt]
  exact trodAll_cons_mk (shut_bool htb _) trodAll_mk0
 ·rw [Z1,hfn]
  exact tQ hl hb hts hA hlt
 ·rw [hvs,Z1,hfn]
  rfl
 ·exact World.keptBut_mono (fun _ h=>h.elim) (hb.frame (fun _=>False))
end Uw
namespace Uw
open Go Go.RowKit
variable [Glob]
inductive Ty where
 | bool
 | int (k:IntKind)
 | str
 | slice (n:Nat) (e:Ty)
 | struct (fs:List Ty)
mutual
def tR:Ty->List Dat->Prop
 | .bool,ds=>∃b,ds=[.bool b]
 | .int k,ds=>∃n,ds=[.int k n]/\(Lit.int k n).wf=true
 | .str,ds=>∃s:List UInt8,ds=[.str s]/\s.length<=reachBytes
 | .slice n e,ds=>∃xs:List (List Dat),ds=[.slice n xs false]/\xs.length<=reachBytes/\∀x,x∈xs->tR e x
 | .struct fs,ds=>Ei fs ds
def Ei:List Ty->List Dat->Prop
 | [],ds=>ds=[]
 | t::ts,ds=>∃a b,ds=a++b/\tR t a/\Ei ts b
end
def NB (P:Program) (f:TypeId->Option Ty) (total:Nat):Nat->List Field->Option (List Ty)
 | off,[]=>match Nat.beq off total with|true=>some []|false=>none
 | off,fd::r=>match Nat.beq fd.offset off,f fd.type,NB P f total (off+P.cellsOf fd.type) r with
  | true,some s,some l=>some (s::l)
  | _,_,_=>none
def Io (P:Program):Nat->TypeId->Option Ty
 | 0,_=>none
 | n+1,t=>match P.underlying t with
  | some .bool=>some .bool
  | some (.int k)=>some (.int k)
  | some .string=>some .str
  | some (.slice e)=>match Io P n e,Nat.blt 0 (P.cellsOf e)&&Nat.blt 0 (P.bytesOf e) with
   | some s,true=>some (.slice (P.cellsOf e) s)
   | _,_=>none
  | some (.struct fs)=>(NB P (Io P n) (P.cellsOf t) 0 fs.toList).map Ty.struct
  | some (.array m e)=>match Io P n e,Nat.beq (P.cellsOf t) (m * P.cellsOf e) with
   | some s,true=>some (.struct (List.replicate m s))
   | _,_=>none
  | _=>none
abbrev tt:Nat->Nat->Prop:=fun _ _=>True
theorem aQ.Ej {w:World} {J:Nat->Nat->Prop}:∀{a b:List Dat} {u v:List Value},aQ w J a u->aQ w J b v->aQ w J (a++b) (u++v)
 | [],b,u,v,h1,h2=>by simp only [aQ] at h1;subst h1;simpa using h2
 | x::a,b,u,v,⟨y,us,e,h1,h3⟩,h2=>by subst e;exact ⟨y,us++v,rfl,h1,aQ.Ej h3 h2⟩
theorem du.ofL {w:World} {b:Nat}:∀{ds:List Dat} {cs:List Value} {o:Nat},aQ w tt ds cs->(∀v∈cs,one v=true)->(∀j v,cs[j]? = some v->w.cell? ⟨b,o+j,none⟩=some v)->du w tt b o ds
 | [],cs,o,_,_,_=>by simp [du]
 | d::ds,cs,o,⟨v,vs,e,h1,h2⟩,h3,h4=>by
  subst e;refine ⟨⟨v,by simpa using h4 0 v rfl,trivial,h3 v (by simp),h1⟩,du.ofL h2 (fun u hu=>h3 u (by simp [hu])) (fun j u hu=>?_)⟩;have:=h4 (j+1) u (by simpa using hu);rw [show o+1+j=o+(j+1) by omega];exact this
theorem bU.of {w:World} {b k:Nat}:∀{xs:List (List Dat)} {o:Nat},(∀i x,xs[i]? = some x->x.length=k/\du w tt b (o+i * k) x)->bU w tt b k o xs
 | [],o,_=>by simp [bU]
 | x::xs,o,h=>by
  have h0:=h 0 x rfl;refine ⟨h0.1,by simpa using h0.2,bU.of (fun i y hy=>?_)⟩;have:=h (i+1) y (by simpa using hy);rw [show o+k+i * k=o+(i+1) * k by rw [Y6];omega];exact this
theorem x6 {α:Type} {Q:Nat->α->Prop}:∀(n:Nat),(∀i,i<n->∃x,Q i x)->∃xs:List α,xs.length=n/\∀i x,xs[i]? = some x->Q i x
 | 0,_=>⟨[],rfl,by simp⟩
 | n+1,h=>by
  obtain ⟨xs,h1,h2⟩:=x6 n (fun i hi=>h i (by omega));obtain ⟨x,hx⟩:=h n (by omega);refine ⟨xs++[x],by simp [h1],fun i y hy=>?_⟩;by_cases hi:i<n
  ·rw [ZB (by omega)] at hy;exact h2 i y hy
  ·rw [ZA (by omega)] at hy
   have:i=n:=by
    have:=(Zc.1 hy).1;simp at this;omega
   subst this;simp [h1] at hy;subst hy;exact hx
theorem wU {w:World} {a:Addr} {n:Nat} {cs:List Value} (h:w.cells? 0 a n=some cs):cs.length=n/\∀j v,cs[j]? = some v->w.cell? (a.add j)=some v:=by
 unfold World.cells? at h;rw [if_pos (by omega)] at h;refine ⟨by simpa using mapM_some_length h,fun j v hv=>?_⟩;have hj:j<n:=by have:=(Zc.1 hv).1;rw [mapM_some_length h] at this;simpa using this
 have:=mapM_some_get h j j (by simp [hj]);rw [this,hv]
theorem Ek {w:World} {a:Addr} {v:Value} (h:w.cell? a=some v):a.spot=none:=by
 unfold World.cell? at h
 split at h
 ·split at h
  ·cases h
  ·rename_i hs;simpa using hs
 ·cases h
theorem zw {H:Type} {enc:TypeId×Value->H} {P:Program} {w:World} {m total:Nat} {g:TypeId->Option Ty} {cs:List Value} (hcs:cs.length=total)
  (ih:∀t s cs x,g t=some s->DataW.trod enc P w 0 (fun _=>true) true m t cs=some x->(∀n∈x.1.weights P t,n<=reachBytes)->∃ds,tR s ds/\aQ w tt ds cs/\∀v∈cs,one v=true) :
  ∀(fs:List Field) (off:Nat) (ts:List Ty),NB P g total off fs=some ts->(∀f∈fs,∃x,DataW.trod enc P w 0 (fun _=>true) true m f.type ((cs.drop f.offset).take (P.cellsOf f.type))=some x/\∀n∈x.1.weights P f.type,n<=reachBytes)->
   ∃ds,Ei ts ds/\aQ w tt ds (cs.drop off)/\∀v∈cs.drop off,one v=true
 | [],off,ts,h,_=>by
  simp only [NB] at h
  split at h
  ·rename_i hb
   have hb:=wt hb;simp at h;subst h;have:cs.drop off=[]:=abh (by omega);exact ⟨[],rfl,by rw [this];rfl,by rw [this];simp⟩
  ·cases h
 | f::fs,off,ts,h,hx=>by
  simp only [NB] at h
  split at h
  ·rename_i s l h1 h2 h3
   have h1:=wt h1;simp at h;subst h;obtain ⟨x,hx0,hxw⟩:=hx f (by simp);obtain ⟨ds,d1,d2,d3⟩:=ih f.type s _ x h2 hx0 hxw;obtain ⟨es,e1,e2,e3⟩:=zw hcs ih fs (off+P.cellsOf f.type) l h3 (fun f' hf'=>hx f' (by simp [hf']));rw [h1] at d2 d3;have hsp:cs.drop off=(cs.drop off).take (P.cellsOf f.type)++cs.drop (off+P.cellsOf f.type):=by
    rw [<- aao,ZT]
   refine ⟨ds++es,⟨ds,es,rfl,d1,e1⟩,?_,?_⟩
   ·rw [hsp];exact aQ.Ej d2 e2
   ·rw [hsp];intro v hv
    rcases Za.1 hv with hv|hv
    ·exact d3 v hv
    ·exact e3 v hv
  ·cases h
theorem CH {w:World} {s:Ty} {k:Nat}:∀(n:Nat) (cs:List Value),cs.length=n * k->(∀i,i<n->∃ds,tR s ds/\aQ w tt ds ((cs.drop (i * k)).take k)/\∀v∈(cs.drop (i * k)).take k,one v=true)->
   ∃ds,Ei (List.replicate n s) ds/\aQ w tt ds cs/\∀v∈cs,one v=true
 | 0,cs,h,_=>by
  have:cs=[]:=YZ (by simpa using h);subst this;exact ⟨[],rfl,rfl,by simp⟩
 | n+1,cs,h,hx=>by
  obtain ⟨ds,d1,d2,d3⟩:=hx 0 (by omega);simp only [aaL,YY] at d2 d3;obtain ⟨es,e1,e2,e3⟩:=CH (k:=k) n (cs.drop k) (by rw [List.length_drop,h,Y6];omega) (fun i hi=>by
   have:=hx (i+1) (by omega);rw [show (i+1) * k=k+i * k by rw [Y6];omega,<- aao] at this;exact this)
  refine ⟨ds++es,by rw [ZJ];exact ⟨ds,es,rfl,d1,e1⟩,?_,?_⟩
  ·have:=aQ.Ej d2 e2
   rwa [ZT] at this
  ·intro v hv
   rw [<- ZT k cs] at hv
   rcases Za.1 hv with hv|hv
   ·exact d3 v hv
   ·exact e3 v hv
theorem weightsAll_mem {H:Type} {P:Program} {e:TypeId}:∀{l:List (DataW H)} {i:Nat} {d:DataW H},l[i]? = some d->∀n∈d.weights P e,n∈DataW.weightsAll P e l
 | [],i,d,h,n,hn=>by simp at h
 | x::l,0,d,h,n,hn=>by simp at h;subst h;simp [DataW.weightsAll,hn]
 | x::l,i+1,d,h,n,hn=>by
  simp at h;simp only [DataW.weightsAll,Za];exact .inr (weightsAll_mem h n hn)
theorem NC {H:Type} {enc:TypeId×Value->H} {P:Program} {w:World}:∀(fuel n:Nat) (t:TypeId) (s:Ty) (cs:List Value) (x:DataW H×List MemPlace),Io P n t=some s->DataW.trod enc P w 0 (fun _=>true) true fuel t cs=some x->(∀n∈x.1.weights P t,n<=reachBytes)->
  ∃ds,tR s ds/\aQ w tt ds cs/\∀v∈cs,one v=true:=by
 intro fuel
 induction fuel with
 | zero=>intro n t s cs x _ h _;simp [DataW.trod] at h
 | succ m ih=>
  intro n t s cs x hs h hwt
  cases n with
  | zero=>simp [Io] at hs
  | succ n=>
   simp only [Io] at hs
   split at hs
   ·rename_i hu
    simp at hs;subst hs;obtain ⟨b,rfl,_⟩:=DataW.trod_bool hu h;exact ⟨[.bool b],⟨b,rfl⟩,⟨_,[],rfl,rfl,rfl⟩,by simp [one]⟩
   ·rename_i k hu
    simp at hs;subst hs;obtain ⟨z,rfl,_,hw⟩:=DataW.trod_int hu h;exact ⟨[.int k z],⟨z,rfl,hw⟩,⟨_,[],rfl,rfl,rfl⟩,by simp [one]⟩
   ·rename_i hu
    simp at hs;subst hs;obtain ⟨b,rfl,rfl,hw⟩:=DataW.trod_string hu h;refine ⟨[.str b.data.toList],⟨_,rfl,hwt _ (by simp [DataW.weights])⟩,⟨_,[],rfl,?_,rfl⟩,by simp [one]⟩;show Value.string b = .string ⟨b.data.toList.toArray⟩;simp
   ·rename_i e hu
    split at hs
    ·rename_i s' h1 h2
     simp at hs;subst hs;rw [i9] at h2;have hk:0<P.cellsOf e:=by simpa using h2.1
     have hby:0<P.bytesOf e:=by simpa using h2.2
     rcases DataW.trod_slice hu h with ⟨rfl,_⟩|⟨a,len,cap,elems,rest,n',hn',rfl,rfl,_,hl,hm,hlen,hel,hsp,_⟩
     ·exact ⟨[.slice (P.cellsOf e) [] false],⟨[],rfl,by simp,by simp⟩,⟨_,[],rfl,.inl ⟨⟨_,rfl,by simp⟩,rfl⟩,rfl⟩,by simp [one]⟩
     ·have hn' : n' = m:=by omega
      subst hn';have hlr:len<=reachBytes:=by
       have:=hwt (((elems.map (·.1)).length+(rest.map (·.1)).length) * P.bytesOf e) (by simp [DataW.weights,hu]);have h3:=Zz ((elems.map (·.1)).length+(rest.map (·.1)).length) hby
       simp only [ZZ] at this h3;omega
      obtain ⟨hrl,hre⟩:=hsp rfl;have spot:cap≠0->a.spot=none:=by
       intro hc;have h0:∃y,(w.cells? 0 (a.add (0 * P.cellsOf e)) (P.cellsOf e)).bind (DataW.trod enc P w 0 (fun _=>true) true n' e)=some y:=by
        by_cases hl0:0<len
        ·exact ⟨elems[0]'(by omega),by rw [hel 0 hl0,AN]⟩
        ·have:len=0:=by omega
         subst this;have:=hre 0 (by omega);simp only [Y9] at this;exact ⟨rest[0]'(by omega),by rw [this,AN]⟩
       obtain ⟨y,hy⟩:=h0;rw [abf] at hy;obtain ⟨cs',hc1,_⟩:=hy;obtain ⟨g1,g2⟩:=wU hc1;have:=g2 0 (cs'[0]'(by omega)) (by rw [AN]);simp [Addr.add] at this;exact Ek this
      have each:∀i,i<len->∃ds:List Dat,(tR s' ds/\ds.length=P.cellsOf e)/\∃cs',w.cells? 0 (a.add (i * P.cellsOf e)) (P.cellsOf e)=some cs'/\aQ w tt ds cs'/\∀v∈cs',one v=true:=by
       intro i hi;have:=hel i hi;rw [AN (by omega),abf] at this;obtain ⟨cs',hc1,hc2⟩:=this;obtain ⟨ds,d1,d2,d3⟩:=ih n e s' cs' _ h1 hc2 (fun q hq=>hwt q (by
        simp only [DataW.weights,hu,Zj,Za];exact .inr (.inl (weightsAll_mem (i:=i) (by simp [AN (show i<elems.length by omega)]) q hq))))
       exact ⟨ds,⟨d1,by rw [<- aQ.length d2];exact (wU hc1).1⟩,cs',hc1,d2,d3⟩
      obtain ⟨xs,hx1,hx2⟩:=x6 len each;refine ⟨[.slice (P.cellsOf e) xs false],⟨xs,rfl,by omega,fun x hx=>?_⟩,⟨_,[],rfl,?_,rfl⟩,by simp [one]⟩
      ·obtain ⟨i,hi,he⟩:=Zq.1 hx
       exact (hx2 i x (by rw [AN hi,he])).1.1
      ·by_cases hc:cap=0
       ·have hl0:len=0:=by omega
        have:xs=[]:=YZ (by omega);subst this hc hl0;exact .inl ⟨⟨_,rfl,by simp⟩,rfl⟩
       ·obtain ⟨b,o,sp⟩:=a
        have hspot:sp=none:=spot hc;subst hspot;refine .inr ⟨b,o,cap,by rw [hx1],by omega,by simp,bU.of (fun i y hy=>?_)⟩;obtain ⟨⟨_,y1⟩,cs',y2,y3,y4⟩:=hx2 i y hy;refine ⟨y1,du.ofL y3 y4 (fun j v hv=>?_)⟩;have:=(wU y2).2 j v hv;rw [addr_add,addr_add] at this;exact this
    ·cases hs
   ·rename_i fs hu
    rw [Pe] at hs;obtain ⟨ts,hts,rfl⟩:=hs;obtain ⟨xs,n',hn',rfl,hl,hxl,hx⟩:=DataW.trod_struct hu h;have hn' : n' = m:=by omega
    subst hn';have:=zw (enc:=enc) (P:=P) (w:=w) (m:=n') hl (fun t s cs x hg ht hq=>ih n t s cs x hg ht hq) fs.toList 0 ts hts (fun f hf=>by
     obtain ⟨i,hi,he⟩:=Zq.1 hf;have hi' : i<fs.size:=by simpa using hi
     have:=hx i f (by rw [<- he];simp [hi']);rw [AN (by omega)] at this;refine ⟨_,this,fun q hq=>hwt q ?_⟩;simp only [DataW.weights,hu];exact DataW.weights_mem_each (j:=i) (t:=f.type) (by rw [Zd,AN hi,he];rfl) (by rw [Zd,AN (by omega)];rfl) q hq)
    simpa [tR] using this
   ·rename_i k e hu
    split at hs
    ·rename_i s' h1 h2
     simp at hs;subst hs;have h2:=wt h2;obtain ⟨xs,n',hn',rfl,hl,hxl,hx⟩:=DataW.trod_array hu h;have hn' : n' = m:=by omega
     subst hn';have:=CH (w:=w) (s:=s') (k:=P.cellsOf e) k cs (by rw [hl,h2]) (fun i hi=>by
      have:=hx i hi;rw [AN (by omega)] at this;exact ih n e s' _ _ h1 this (fun q hq=>hwt q (by
       simp only [DataW.weights,hu];exact weightsAll_mem (i:=i) (by rw [Zd,AN (by omega)];rfl) q hq)))
     simpa [tR] using this
    ·cases hs
   ·cases hs
theorem ND {H:Type} {enc:TypeId×Value->H} {P:Program} {w:World} {v:Value} {t:TypeId} {n:Nat} {s:Ty} {d:DataW H} {ps:List MemPlace} (hs:Io P n t=some s) (h:DataW.Trod enc P w 0 (fun _=>true) true t v d ps) (hw:∀n∈d.weights P t,n<=reachBytes) :
  ∃ds,tR s ds/\aQ w tt ds v.cells.toList:=by
 obtain ⟨fuel,h⟩:=h;obtain ⟨ds,h1,h2,_⟩:=NC fuel n t s _ _ hs h hw;exact ⟨ds,h1,h2⟩
theorem KW {H:Type} {P:Program} {ts:List TypeId} {ds:List (DataW H)} (h:(DataW.weightsEach P ts ds).all (·<=reachBytes)=true) (j:Nat) {t:TypeId} {d:DataW H} (ht:ts[j]? = some t) (hd:ds[j]? = some d):∀n∈d.weights P t,n<=reachBytes:=fun n hn=>by
 have:=YW.1 h n (DataW.weights_mem_each ht hd n hn);simpa using this
theorem NF:reachBytes<140737488355328:=by decide
theorem yM {α β:Type} {f:α->β} {Q:α->Prop}:∀{xs:List β},(∀x∈xs,∃a,x=f a/\Q a)->∃l:List α,xs=l.map f/\∀a∈l,Q a
 | [],_=>⟨[],rfl,by simp⟩
 | x::xs,h=>by
  obtain ⟨a,h1,h2⟩:=h x (by simp);obtain ⟨l,h3,h4⟩:=yM (xs:=xs) (fun y hy=>h y (by simp [hy]));exact ⟨a::l,by simp [h1,h3],fun b hb=>by
   rcases Zj.1 hb with rfl|hb
   ·exact h2
   ·exact h4 b hb⟩
theorem Ip {P:Program} {w w' : World} {r:Reach} {b:Nat} {t:TypeId} {fs:Array Field} {v:Value} {ds:List Dat} (ht:P.underlying t=some (.struct fs)) (hval:Value.okWide P w r b t v) (h:aQ w' tt ds v.cells.toList):aG w' tt (.agg ds) v:=by
 unfold Value.okWide at hval;rw [ht] at hval;obtain ⟨cs,rfl,_⟩:=hval;exact ⟨cs.toList,by simp,by simpa [Value.cells] using h⟩
def CJ (P:Program) (t:TypeId):Bool:=
 match P.underlying t with
 | some (.struct _)=>true
 | _=>false
theorem F6 {P:Program} {w w' : World} {r:Reach} {b:Nat} {t:TypeId} {v:Value} {ds:List Dat} (ht:CJ P t=true) (hval:Value.okWide P w r b t v) (h:aQ w' tt ds v.cells.toList):aG w' tt (.agg ds) v:=by
 unfold CJ at ht
 split at ht
 ·rename_i fs hu;exact Ip hu hval h
 ·cases ht
end Uw
namespace Uw
open Go Go.Lib
theorem wV (s:List UInt8) (i:Nat) (b:UInt8) (h:s[i]? = some b):(⟨s.toArray⟩:ByteArray).get! i=b:=by
 show s.toArray[i]! = b;rw [getElem!_def];simp [h]
theorem CL (s:List UInt8) (pos:Nat):bH s pos=decodeN (s.length - pos) ((⟨s.toArray⟩:ByteArray).get! pos).toNat ((⟨s.toArray⟩:ByteArray).get! (pos+1)).toNat ((⟨s.toArray⟩:ByteArray).get! (pos+2)).toNat ((⟨s.toArray⟩:ByteArray).get! (pos+3)).toNat:=by
 rw [BO,decode_at];rfl
theorem uw (s:List UInt8) (pos:Nat) (b:UInt8) (h:s[pos]? = some b) (hb:b.toNat<128):bH s pos=(b.toNat,1):=by
 rw [CL,wV s pos b h,decodeN,if_pos hb]
theorem Em (n b0 b1 b2 b3:Nat) (h:128<=b0) (hb:b0<256):128<=(decodeN n b0 b1 b2 b3).1/\(decodeN n b0 b1 b2 b3).1<=1114111/\1<=(decodeN n b0 b1 b2 b3).2:=by
 unfold decodeN
 repeat' split
 all_goals (simp only;omega)
theorem x7 (s:List UInt8) (pos:Nat) (b:UInt8) (h:s[pos]? = some b) (hb:128<=b.toNat) :
  128<=(bH s pos).1/\(bH s pos).1<=1114111/\1<=(bH s pos).2/\pos+(bH s pos).2<=s.length/\∀j,j<(bH s pos).2->∃c,s[pos+j]? = some c/\128<=c.toNat:=by
 have hlt:pos<s.length:=by
  rcases ZG pos s.length with h1|h1
  ·exact h1
  ·rw [Y2 h1] at h;cases h
 have hg:=wV s pos b h;rw [CL,hg];have h1:=Em (s.length - pos) b.toNat ((⟨s.toArray⟩:ByteArray).get! (pos+1)).toNat ((⟨s.toArray⟩:ByteArray).get! (pos+2)).toNat ((⟨s.toArray⟩:ByteArray).get! (pos+3)).toNat hb b.toNat_lt;have h2:=decodeN_conts (s.length - pos) b.toNat ((⟨s.toArray⟩:ByteArray).get! (pos+1)).toNat ((⟨s.toArray⟩:ByteArray).get! (pos+2)).toNat ((⟨s.toArray⟩:ByteArray).get! (pos+3)).toNat;generalize decodeN (s.length - pos) b.toNat ((⟨s.toArray⟩:ByteArray).get! (pos+1)).toNat ((⟨s.toArray⟩:ByteArray).get! (pos+2)).toNat ((⟨s.toArray⟩:ByteArray).get! (pos+3)).toNat=r at h1 h2;obtain ⟨r1,r2⟩:=r;simp only at h1 h2 ⊢;obtain ⟨a1,a2,a3⟩:=h1;obtain ⟨c1,c2,c3,c4⟩:=h2;refine ⟨a1,a2,a3,by omega,fun j hj=>?_⟩;have hjl:pos+j<s.length:=by omega
 refine ⟨s[pos+j],by simp [hjl],?_⟩;have hgj:=wV s (pos+j) s[pos+j] (by simp [hjl])
 rcases j with _|_|_|_|j
 ·have:s[pos+0]=b:=by
   have:=h;rw [AN hlt] at this;simpa using this
  rw [this];exact hb
 ·have:=(c1 (by omega)).1;rw [hgj] at this;omega
 ·have:=(c2 (by omega)).1;rw [hgj] at this;omega
 ·have:=(c3 (by omega)).1;rw [hgj] at this;omega
 ·omega
end Uw
namespace Uw
open Go
variable [Glob]
section
variable {P : Program} {Q : az -> St -> Prop} {p q : Prop} [Decidable p] [Decidable q] {b : Bool} {y n : Tree}
theorem Iq (h1:p->WT P Q y) (h2:¬p->WT P Q n):WT P Q (.test (decide p) y n):=⟨fun h=>h1 (of_decide_eq_true h),fun h=>h2 (of_decide_eq_false h)⟩
theorem QS (h1:¬p->WT P Q y) (h2:p->WT P Q n):WT P Q (.test (!decide p) y n):=⟨fun h=>h1 (by simpa using h),fun h=>h2 (by simpa using h)⟩
theorem En (h1:p->WT P Q y) (h2:¬p->WT P Q n):WT P Q (.test (decide p == true) y n):=⟨fun h=>h1 (by simpa using h),fun h=>h2 (by simpa using h)⟩
theorem Eo (h1:¬p->WT P Q y) (h2:p->WT P Q n):WT P Q (.test (decide p == false) y n):=⟨fun h=>h1 (by simpa using h),fun h=>h2 (by simpa using h)⟩
theorem zx (h1:¬p->WT P Q y) (h2:p->WT P Q n):WT P Q (.test ((!decide p) == true) y n):=⟨fun h=>h1 (by simpa using h),fun h=>h2 (by simpa using h)⟩
theorem zy (h1:p->WT P Q y) (h2:¬p->WT P Q n):WT P Q (.test ((!decide p) == false) y n):=⟨fun h=>h1 (by simpa using h),fun h=>h2 (by simpa using h)⟩
theorem NG (h1:b=true->WT P Q y) (h2:b=false->WT P Q n):WT P Q (.test (b == true) y n):=⟨fun h=>h1 (by simpa using h),fun h=>h2 (by simpa using h)⟩
theorem NH (h1:b=false->WT P Q y) (h2:b=true->WT P Q n):WT P Q (.test (b == false) y n):=⟨fun h=>h1 (by simpa using h),fun h=>h2 (by simpa using h)⟩
theorem NI (h1:b=false->WT P Q y) (h2:b=true->WT P Q n):WT P Q (.test (!b) y n):=⟨fun h=>h1 (by simpa using h),fun h=>h2 (by simpa using h)⟩
theorem Wg (hb:b=true) (h1:WT P Q y):WT P Q (.test b y n):=⟨fun _=>h1,fun h=>(by rw [hb] at h;cases h)⟩
theorem UT (hp:p) (h1:WT P Q y):WT P Q (.test (decide p) y n):=⟨fun _=>h1,fun h=>absurd hp (of_decide_eq_false h)⟩
theorem Wh (hp:¬p) (h1:WT P Q n):WT P Q (.test (decide p) y n):=⟨fun h=>absurd (of_decide_eq_true h) hp,fun _=>h1⟩
theorem QT (hp:¬p) (h1:WT P Q y):WT P Q (.test (!decide p) y n):=⟨fun _=>h1,fun h=>absurd (by simpa using h) hp⟩
theorem UU (hp:p) (h1:WT P Q n):WT P Q (.test (!decide p) y n):=⟨fun h=>absurd hp (by simpa using h),fun _=>h1⟩
theorem Wi (hp:p) (h1:WT P Q y):WT P Q (.test (decide p == true) y n):=En (fun _=>h1) (fun h=>absurd hp h)
theorem Wj (hp:¬p) (h1:WT P Q n):WT P Q (.test (decide p == true) y n):=En (fun h=>absurd h hp) (fun _=>h1)
theorem Wl (hp:¬p) (h1:WT P Q y):WT P Q (.test (decide p == false) y n):=Eo (fun _=>h1) (fun h=>absurd h hp)
theorem Wm (hp:p) (h1:WT P Q n):WT P Q (.test (decide p == false) y n):=Eo (fun h=>absurd hp h) (fun _=>h1)
theorem UV (hp:¬p) (h1:WT P Q y):WT P Q (.test ((!decide p) == true) y n):=zx (fun _=>h1) (fun h=>absurd h hp)
theorem UW (hp:p) (h1:WT P Q n):WT P Q (.test ((!decide p) == true) y n):=zx (fun h=>absurd hp h) (fun _=>h1)
theorem UX (hp:p) (h1:WT P Q y):WT P Q (.test ((!decide p) == false) y n):=zy (fun _=>h1) (fun h=>absurd hp h)
theorem UY (hp:¬p) (h1:WT P Q n):WT P Q (.test ((!decide p) == false) y n):=zy (fun h=>absurd h hp) (fun _=>h1)
theorem UZ (hb:b=true) (h1:WT P Q y):WT P Q (.test (b == true) y n):=NG (fun _=>h1) (fun h=>(by rw [hb] at h;cases h))
theorem U0 (hb:b=false) (h1:WT P Q n):WT P Q (.test (b == true) y n):=NG (fun h=>(by rw [hb] at h;cases h)) (fun _=>h1)
theorem U1 (hb:b=false) (h1:WT P Q y):WT P Q (.test (b == false) y n):=NH (fun _=>h1) (fun h=>(by rw [hb] at h;cases h))
theorem U2 (hb:b=true) (h1:WT P Q n):WT P Q (.test (b == false) y n):=NH (fun h=>(by rw [hb] at h;cases h)) (fun _=>h1)
theorem U3 (hb:b=false) (h1:WT P Q y):WT P Q (.test (!b) y n):=NI (fun _=>h1) (fun h=>(by rw [hb] at h;cases h))
theorem U4 (hb:b=true) (h1:WT P Q n):WT P Q (.test (!b) y n):=NI (fun h=>(by rw [hb] at h;cases h)) (fun _=>h1)
theorem CM (hp:p/\q) (h1:WT P Q y):WT P Q (.test (decide p&&decide q) y n):=⟨fun _=>h1,fun h=>(by simp [hp.1,hp.2] at h)⟩
theorem U5 {x:Int} (hp : -9223372036854775808<=x/\x<9223372036854775808) (h1:WT P Q y):WT P Q (.test (inR .i64 x) y n):=⟨fun _=>h1,fun h=>(by simp [inR,hp.1,hp.2] at h)⟩
theorem QU {α β:Type} {g:α->β} {l:List α} {k:Nat} (h1:k<l.length->WT P Q y) (h2:¬k<l.length->WT P Q n):WT P Q (.test (decide ((k:Int)<((l.map g).length:Nat))) y n):=Iq (fun h=>h1 (by simpa using h)) (fun h=>h2 (by simpa using h))
theorem U6 {α β:Type} {g:α->β} {l:List α} {k:Nat} (hk:k<l.length) (h1:WT P Q y):WT P Q (.test (decide ((0:Int)<=(k:Int))&&decide ((k:Int)<((l.map g).length:Nat))) y n):=CM ⟨by omega,by simpa using hk⟩ h1
theorem U7 {α:Type} {l:List α} {k:Nat} (hk:k<l.length) (h1:WT P Q y):WT P Q (.test (decide ((0:Int)<=(k:Int))&&decide ((k:Int)<(l.length:Nat))) y n):=CM ⟨by omega,by simpa using hk⟩ h1
theorem Ir {α:Type} {g:α->List Dat} {l:List α} {k:Nat} {t:List Dat->Tree} (hk:k<l.length) (h1:WT P Q (t (g l[k]))):WT P Q (.elem (l.map g) (k:Int).toNat t):=au _ (by simp [hk]) h1
theorem Is {s:List UInt8} {k:Nat} {t:UInt8->Tree} (hk:k<s.length) (h1:WT P Q (t s[k])):WT P Q (.byte s (k:Int).toNat t):=yJ _ (by simp [hk]) h1
theorem NJ {α β:Type} {g:α->β} {l:List α} {k:Nat} (h1:k+1<l.length->WT P Q y) (h2:¬k+1<l.length->WT P Q n):WT P Q (.test (decide ((k:Int)+1<((l.map g).length:Nat))) y n):=Iq (fun h=>h1 (by simp at h;omega)) (fun h=>h2 (by simp at h;omega))
theorem U8 {α:Type} {l:List α} {k:Nat} (hk:k+1<l.length) (h1:WT P Q y):WT P Q (.test (decide ((0:Int)<=(k:Int)+1)&&decide ((k:Int)+1<(l.length:Nat))) y n):=CM ⟨by omega,by omega⟩ h1
theorem QV {α β:Type} {g:α->β} {l:List α} {k:Nat} (hk:k+1<l.length) (h1:WT P Q y):WT P Q (.test (decide ((0:Int)<=(k:Int)+1)&&decide ((k:Int)+1<((l.map g).length:Nat))) y n):=CM ⟨by omega,by simp;omega⟩ h1
theorem QW {α:Type} {g:α->List Dat} {l:List α} {k:Nat} {t:List Dat->Tree} (hk:k+1<l.length) (h1:WT P Q (t (g l[k+1]))):WT P Q (.elem (l.map g) ((k:Int)+1).toNat t):=Ir (k:=k+1) hk h1
theorem QX {s:List UInt8} {k:Nat} {t:UInt8->Tree} (hk:k+1<s.length) (h1:WT P Q (t s[k+1])):WT P Q (.byte s ((k:Int)+1).toNat t):=Is (k:=k+1) hk h1
theorem QY {s:List UInt8} {t:UInt8->Tree} (hk:0<s.length) (h1:WT P Q (t s[0])):WT P Q (.byte s (0:Int).toNat t):=Is (k:=0) hk h1
theorem QZ {α:Type} {g:α->List Dat} {l:List α} {t:List Dat->Tree} (hk:0<l.length) (h1:WT P Q (t (g l[0]))):WT P Q (.elem (l.map g) (0:Int).toNat t):=Ir (k:=0) hk h1
theorem U9 {α:Type} {l:List α} (hk:0<l.length) (h1:WT P Q y):WT P Q (.test (decide ((0:Int)<=0)&&decide ((0:Int)<(l.length:Nat))) y n):=CM ⟨by omega,by omega⟩ h1
theorem Q0 {α β:Type} {g:α->β} {l:List α} (hk:0<l.length) (h1:WT P Q y):WT P Q (.test (decide ((0:Int)<=0)&&decide ((0:Int)<((l.map g).length:Nat))) y n):=CM ⟨by omega,by simp;omega⟩ h1
theorem Q5 {s:List UInt8} {k:Nat} {t:UInt8->Tree} (hk:k<s.length) (h1:WT P Q (t s[k])):WT P Q (.byte s k t):=yJ _ (by simp [hk]) h1
end
end Uw
namespace Uw
open Go Go.RowKit
variable [Glob]
def aM:Nat->List Blk->Heap
 | _,[]=>[]
 | i,b::r=>(i,b)::aM (i+1) r
def nameOf:List Nat->Nat->Nat->Nat
 | [],nx,i=>nx+i
 | a::r,nx,i=>match i with
  | 0=>a
  | i+1=>nameOf r nx i
def vj (ρ:Nat->Nat):Heap->Heap
 | []=>[]
 | (i,b)::r=>(ρ i,b.ren ρ)::vj ρ r
def Res.ren (ρ:Nat->Nat):Res->Res
 | .val v=>.val (v.ren ρ)
 | .pan d=>.pan d
theorem rV:∀(bs:List Blk) (j i:Nat),look (aM j bs) i=if j<=i then bs[i - j]? else none
 | [],j,i=>by simp [aM,look]
 | b::r,j,i=>by
  rw [aM,aE];by_cases h:j=i
  ·subst h;simp
  ·rw [if_neg h,rV r (j+1) i]
   by_cases h2:j<=i
   ·rw [if_pos (by omega),if_pos h2,show i - j=(i - (j+1))+1 by omega,List.getElem?_cons_succ]
   ·rw [if_neg (by omega),if_neg h2]
theorem x8 (bs:List Blk) (i:Nat) (h:i<bs.length):∃b,look (aM 0 bs) i=some b:=⟨bs[i],by rw [rV];simp [h]⟩
theorem KX (bs:List Blk) (i:Nat) {b:Blk} (h:look (aM 0 bs) i=some b):i<bs.length:=by
 rw [rV] at h;simp at h;exact (Zc.1 h).1
theorem vk:∀{ids:List Nat} {nx i:Nat},i<ids.length->nameOf ids nx i∈ids
 | [],_,_,h=>by simp at h
 | a::r,nx,0,_=>by simp [nameOf]
 | a::r,nx,i+1,h=>by
  rw [nameOf];exact aaD _ (vk (by simpa using h))
theorem mX:∀{ids:List Nat} {nx i:Nat},ids.length<=i->nameOf ids nx i=nx+(i - ids.length)
 | [],_,_,_=>rfl
 | a::r,nx,0,h=>by simp at h
 | a::r,nx,i+1,h=>by
  simp only [Y7] at h;rw [nameOf,mX (by omega),Y7];omega
theorem zz:∀{ids:List Nat} {nx i:Nat} (h:i<ids.length),nameOf ids nx i=ids[i]
 | [],_,_,h=>by simp at h
 | a::r,nx,0,_=>rfl
 | a::r,nx,i+1,h=>by
  rw [nameOf,zz (by simpa using h)];rfl
def zA:List Nat->Bool
 | []=>true
 | a::r=>(r.all fun b=>!(Nat.beq a b))&&zA r
theorem CN:∀{l:List Nat},zA l=true->l.Nodup
 | [],_=>aa2
 | a::r,h=>by
  rw [zA,i9] at h;refine List.nodup_cons.2 ⟨fun hm=>?_,CN h.2⟩;have:=YW.1 h.1 a hm;simp at this
theorem NK {ids:List Nat} {nx:Nat} (hl:∀a∈ids,a<nx) (hn:ids.Nodup) {i j:Nat} (h:nameOf ids nx i=nameOf ids nx j):i=j:=by
 rcases ZG i ids.length with h1|h1<;>rcases ZG j ids.length with h2|h2
 ·rw [zz h1,zz h2] at h
  rcases Nat.lt_trichotomy i j with hlt|he|hlt
  ·exact absurd h (ZL.1 hn i j h1 h2 hlt)
  ·exact he
  ·exact absurd h.symm (ZL.1 hn j i h2 h1 hlt)
 ·have:=hl _ (vk (nx:=nx) h1);rw [mX h2] at h;omega
 ·have:=hl _ (vk (nx:=nx) h2);rw [mX h1] at h;omega
 ·rw [mX h1,mX h2] at h;omega
theorem kZ:∀(a b:Heap) (j:Nat),look (a++b) j=match look a j with|some x=>some x|none=>look b j
 | [],b,j=>rfl
 | (i,x)::a,b,j=>by
  rw [ZY,aE,aE];by_cases h:i=j
  ·rw [if_pos h,if_pos h]
  ·rw [if_neg h,if_neg h];exact kZ a b j
theorem wX {ρ:Nat->Nat} (hi:∀i j,ρ i=ρ j->i=j):∀(h:Heap) (i:Nat),look (vj ρ h) (ρ i)=(look h i).map (Blk.ren ρ)
 | [],i=>rfl
 | (k,b)::r,i=>by
  rw [vj,aE,aE];by_cases h:k=i
  ·subst h;simp
  ·rw [if_neg h,if_neg (fun e=>h (hi _ _ e))];exact wX hi r i
theorem jB {ρ:Nat->Nat} {j:Nat} (hj:∀i,ρ i≠j):∀(h:Heap),look (vj ρ h) j=none
 | []=>rfl
 | (k,b)::r=>by rw [vj,aE,if_neg (hj k)];exact jB hj r
def Shp:Blk->Blk->Prop
 | .var _,.var _=>True
 | .arr k xs,.arr k' xs'=>k=k'/\xs=xs'
 | .mt k v xs,.mt k' v' xs'=>k=k'/\v=v'/\xs=xs'
 | .iter _ _,.iter _ _=>True
 | .map _ _,.map _ _=>True
 | _,_=>False
theorem Shp.ren (ρ:Nat->Nat) (b:Blk):Shp b (b.ren ρ):=by cases b<;>simp [Shp,Blk.ren]
section
variable {c c' : Cx} {ρ : Nat -> Nat} (hk : Keeps c.w c'.w (Imm c) (Imm c')) (hl : ∀ id b, look c.heap id = some b -> ∃ b', look c'.heap (ρ id) = some b' /\ Shp b b' /\ c'.pl (ρ id) = c.pl id)
include hk hl
mutual
theorem aD.push:∀(x:V) (v:Value),aD c x v->aD c' (x.ren ρ) v
 | .d x,v,r=>aG.keep hk x v r
 | .ptr id off,v,r=>by
  obtain ⟨⟨cs,h1⟩,h2⟩:=r;obtain ⟨b',e1,e2,e3⟩:=hl id _ h1
  cases b' with
  | var cs'=>exact ⟨⟨cs',e1⟩,by rw [e3];exact h2⟩
  | _=>exact e2.elim
 | .ro cs off,v,r=>by
  obtain ⟨b,o,h1,h2⟩:=r;exact ⟨b,o,h1,du.keep hk _ _ _ h2⟩
 | .kV id ver i cc,v,r=>by
  simp only [aD,V.ren] at r ⊢
  cases hb:look c.heap id with
  | none=>rw [hb] at r;exact r.elim
  | some b=>
   obtain ⟨b',e1,e2,e3⟩:=hl id b hb;rw [hb] at r;rw [e1]
   cases b with
   | mt k v0 xs=>
    cases b' with
    | mt k' v' xs'=>
     obtain ⟨rfl,rfl,rfl⟩:=e2;unfold jr at *;rw [e3];exact r
    | _=>exact e2.elim
   | _=>exact r.elim
 | .ref id ver off len,v,r=>by
  simp only [aD,V.ren] at r ⊢
  cases hb:look c.heap id with
  | none=>rw [hb] at r;exact r.elim
  | some b=>
   obtain ⟨b',e1,e2,e3⟩:=hl id b hb;rw [hb] at r;rw [e1]
   cases b with
   | mt k v0 xs=>
    cases b' with
    | mt k' v' xs'=>
     obtain ⟨rfl,rfl,rfl⟩:=e2;unfold kB at *;rw [e3];exact r
    | _=>exact e2.elim
   | arr k xs=>
    cases b' with
    | arr k' xs'=>
     obtain ⟨rfl,rfl⟩:=e2;unfold kB at *;rw [e3];obtain ⟨r1,r2⟩:=r;refine ⟨r1,?_⟩
     rcases r2 with r2|⟨b,o,cap,r2,r3,r4,r5⟩
     ·exact .inl r2
     ·exact .inr ⟨b,o,cap,r2,r3,bU.keep hk _ _ _ _ r4,r5⟩
    | _=>exact e2.elim
   | _=>exact r.elim
 | .agg cs,v,r=>by
  obtain ⟨vs,h1,h2⟩:=r;exact ⟨vs,h1,aC.push cs vs h2⟩
 | .func f fs cap,v,r=>by
  obtain ⟨us,vs,h1,h2,h3⟩:=r;exact ⟨us,vs,h1,aC.push fs us h2,aC.push cap vs h3⟩
 | .tuple ds,v,r=>by
  obtain ⟨vs,h1,h2⟩:=r;exact ⟨vs,h1,aC.push ds vs h2⟩
 | .hnd id,v,r=>by
  simp only [aD,V.ren] at r ⊢
  cases hb:look c.heap id with
  | none=>rw [hb] at r;exact r.elim
  | some b=>
   obtain ⟨b',e1,e2,e3⟩:=hl id b hb;rw [hb] at r;rw [e1]
   cases b with
   | iter s p=>
    cases b' with
    | iter s' p'=>unfold eP at *;rw [e3];exact r
    | _=>exact e2.elim
   | map kk es=>
    cases b' with
    | map kk' es'=>unfold eP at *;rw [e3];exact r
    | _=>exact e2.elim
   | _=>exact r.elim
 | .row id len,v,r=>by
  obtain ⟨⟨cs,h1⟩,h2,h3⟩:=r;obtain ⟨b',e1,e2,e3⟩:=hl id _ h1
  cases b' with
  | var cs'=>exact ⟨⟨cs',e1⟩,by rw [e3];exact h2,h3⟩
  | _=>exact e2.elim
 | .undef,v,r=>trivial
theorem aC.push:∀(xs:List V) (vs:List Value),aC c xs vs->aC c' (nL ρ xs) vs
 | [],vs,r=>r
 | d::ds,vs,r=>by
  obtain ⟨v,vs',h1,h2,h3⟩:=r;exact ⟨v,vs',h1,aD.push d v h2,aC.push ds vs' h3⟩
end
theorem cj.push (hw:c'.w=c.w) {id:Nat} {b:Blk} (hp:c'.pl (ρ id)=c.pl id) (r:cj c id b):cj c' (ρ id) (b.ren ρ):=by
 cases b with
 | var cs=>obtain ⟨vs,e,h1,h2⟩:=r;exact ⟨vs,e,by rw [hp,hw];exact h1,aC.push hk hl _ _ h2⟩
 | arr k xs=>
  obtain ⟨h0,r⟩:=r;refine ⟨by rw [hp];exact h0,fun hc=>?_⟩;rw [hp] at hc ⊢;obtain ⟨vs,e,h1,h2,h4⟩:=r hc;exact ⟨vs,e,by rw [hw];exact h1,h2,bU.keep hk _ _ _ _ h4⟩
 | mt k v xs=>
  obtain ⟨h0,h4,r⟩:=r;refine ⟨by rw [hp];exact h0,h4,fun hc=>?_⟩;rw [hp] at hc ⊢;obtain ⟨vs,e,h1,h2,h5,h6⟩:=r hc;exact ⟨vs,e,by rw [hw];exact h1,h2,aQ.keep hk _ _ h5,h6⟩
 | iter s p=>simp only [Blk.ren,cj] at r ⊢;rw [hp,hw];exact r
 | map kk es=>obtain ⟨ms,k,h1,h2⟩:=r;exact ⟨ms,k,by rw [hp,hw];exact h1,pS.keep hk _ _ h2⟩
end
theorem qy.trans {K:Nat} {a b c:Cx} (h1:qy K a b) (h2:qy K b c):qy K a c:=by
 refine ⟨fun x o hx=>?_,fun id x hid hx=>?_⟩
 ·obtain ⟨e1,e2⟩:=h1.keeps x o hx
  obtain ⟨e3,e4⟩:=h2.keeps x o e1;exact ⟨e3,e4.trans e2⟩
 ·obtain ⟨y,e1,e2⟩:=h1.blks id x hid hx
  obtain ⟨z,e3,e4⟩:=h2.blks id y hid e1;refine ⟨z,e3,?_⟩
  cases x<;>cases y<;>simp only [cD] at e2<;>cases z<;>simp only [cD] at e4 ⊢
  ·exact e2.trans e4
  ·obtain ⟨rfl,⟨ys,rfl⟩,p1⟩:=e2
   obtain ⟨rfl,⟨zs,rfl⟩,p2⟩:=e4;refine ⟨rfl,⟨ys++zs,by simp⟩,fun he=>?_⟩;have hlen:=congrArg List.length he;simp only [Zs] at hlen;obtain ⟨rfl,rfl⟩:ys=[]/\zs=[]:=⟨YZ (by omega),YZ (by omega)⟩
   rw [p2 (by simp),p1 (by simp)]
  ·obtain ⟨rfl,v1,p1⟩:=e2
   obtain ⟨rfl,v2,p2⟩:=e4;refine ⟨rfl,Zn v1 v2,fun he=>?_⟩;obtain ⟨q1,q2⟩:=p1 (by omega);obtain ⟨q3,q4⟩:=p2 (by omega);exact ⟨q3.trans q1,q4.trans q2⟩
  ·exact e2.trans e4
  ·exact ⟨e2.1.trans e4.1,e2.2.trans e4.2⟩
theorem cD.refl (p:Pl) (b:Blk):cD p p b b:=by cases b<;>simp [cD]
theorem qy.refl (K:Nat) (c:Cx):qy K c c:=⟨fun _ _ h=>⟨h,rfl⟩,fun _ b _ h=>⟨b,h,cD.refl _ _⟩⟩
theorem Ph.ren {p:Pl} {b:Blk} {ρ:Nat->Nat}:Ph p (b.ren ρ)<->Ph p b:=by cases b<;>simp [Ph,Blk.ren]
theorem bN.frame {P:Program} {f:FuncId} {vs0:List V} {bs:List Blk} {R0:Res->Heap->Nat->Prop} (hs:bN P f vs0 (aM 0 bs) bs.length R0) (ids:List Nat) {H:Heap} {nx:Nat}
  (hm:ids.length<=bs.length) (KY:∀a∈ids,a<nx) (hnd:ids.Nodup)
  (hfit:∀i b',look (aM 0 bs) i=some b'->(∃b,look H (nameOf ids nx i)=some b/\pW (nameOf ids nx) H (aM 0 bs) b b')\/(look H (nameOf ids nx i)=none/\ja b'))
  {vs:List V} (hvs:VWL (nameOf ids nx) H (aM 0 bs) vs vs0) :
  bN P f vs H nx (fun r h n=>∃r0 h0 n0,R0 r0 h0 n0/\r=r0.ren (nameOf ids nx)/\h=vj (nameOf ids nx) h0++H/\n=nx+(n0 - ids.length)):=by
 refine ⟨hs.1,?_⟩;rintro c w0 F gvs rfl hH hFK hFp hv;have hinj:∀i j,nameOf ids nx i=nameOf ids nx j->i=j:=fun i j h=>NK KY hnd h;generalize hρ:nameOf ids nx=ρ at *
 -- the part's context
 let J:JX:=⟨Imm c,fun b=>c.Old b\/(b<c.w.heap.size/\∀i blk,look (aM 0 bs) i=some blk->Ph (c.pl (ρ i)) blk->(look c.heap (ρ i)).isSome=true->(c.pl (ρ i)).gb≠b)⟩
 let c1:Cx:=c.gP ρ (aM 0 bs) J
 have hz:∀i b',look c.heap (ρ i)=none->ja b'->¬Ph (c1.pl i) b':=by
  intro i b' hn hz hp;have:c1.pl i=⟨0,0⟩:=by simp [c1,Cx.gP,hn]
  rw [this] at hp
  cases b'<;>simp [ja,Ph] at hz hp
 have hpl:∀i b,look c.heap (ρ i)=some b->c1.pl i=c.pl (ρ i):=fun i b h=>by simp [c1,Cx.gP,h]
 have Q6:∀b,c.Old b->c1.Old b:=fun b h=>.inr (.inl h);have XW:∀i b',look (aM 0 bs) i=some b'->Ph (c1.pl i) b'->¬c1.Old (c1.pl i).gb:=by
  intro i b' hl hph
  rcases hfit i b' hl with ⟨b,hb,dM⟩|⟨hn,hzz⟩
  ·rw [hpl i b hb] at hph ⊢
   have hg:=hH.ge (ρ i) b hb (dM.ph hph);rintro (h|h|⟨_,h⟩)
   ·exact hg (.inl h)
   ·exact hg h
   ·exact h i b' hl hph (by rw [hb];rfl) rfl
  ·exact (hz i b' hn hzz hph).elim
 have Wn:∀b o,Imm c b o->Imm c1 b o:=by
  intro b o hi;by_cases ho:c1.Old b
  ·exact .inl ⟨ho,hi⟩
  ·refine .inr ⟨ho,hH.zd hi,fun i blk hl hph hg=>?_⟩
   rcases hi with ⟨h1,_⟩|⟨h1,h2,h3⟩
   ·exact (ho (Q6 b h1)).elim
   ·rcases hfit i blk hl with ⟨b0,hb,dM⟩|⟨hn,hzz⟩
    ·have kW : Ph (c1.pl i) blk:=hph
     have hg' : (c1.pl i).gb=b:=hg;rw [hpl i b0 hb] at kW hg';obtain ⟨k,xs,e,hlt⟩:=h3 (ρ i) b0 hb (dM.ph kW) hg';subst e
     cases blk with
     | arr k' xs'=>obtain ⟨rfl,rfl⟩:=dM;exact ⟨k,xs,rfl,hlt⟩
     | _=>exact dM.elim
    ·exact (hz i blk hn hzz hph).elim
 have hk1:Keeps c.w c.w (Imm c) (Imm c1):=fun b o h=>⟨Wn b o h,rfl⟩
 have hH1:cz c1 c.w bs.length:=by
  refine ⟨Below.refl _ _,?_,⟨hH.zc,hH.kd.2.1,hH.glob.2.2⟩,?_,fun i b h=>KX bs i h,XW,?_⟩
  ·rintro b (h|⟨h,_⟩)
   ·exact ⟨hH.D3 h,rfl⟩
   ·exact ⟨h,rfl⟩
  ·intro i b' hl
   rcases hfit i b' hl with ⟨b,hb,dM⟩|⟨hn,hzz⟩
   ·exact cj.weak hfit hk1 hb dM (hH.blk (ρ i) b hb)
   ·have hp:c1.pl i=⟨0,0⟩:=by simp [c1,Cx.gP,hn]
    cases b' with
    | arr k xs=>simp [ja] at hzz;subst hzz;exact ⟨by simp,fun hc=>by rw [hp] at hc;simp at hc⟩
    | mt k v xs=>simp [ja] at hzz;subst hzz;exact ⟨by simp,by simp,fun hc=>by rw [hp] at hc;simp at hc⟩
    | _=>exact hzz.elim
  ·intro i i' b1 b2 h1 h2 p1 p2 hg
   rcases hfit i b1 h1 with ⟨x1,hb1,s1⟩|⟨hn,hzz⟩
   ·rcases hfit i' b2 h2 with ⟨x2,hb2,s2⟩|⟨hn,hzz⟩
    ·rw [hpl i x1 hb1] at p1 hg
     rw [hpl i' x2 hb2] at p2 hg;exact hinj _ _ (hH.inj (ρ i) (ρ i') x1 x2 hb1 hb2 (s1.ph p1) (s2.ph p2) hg)
    ·exact (hz i' b2 hn hzz p2).elim
   ·exact (hz i b1 hn hzz p1).elim
 let F1:Fr:=⟨bs.length,fun c2=>qy bs.length c1 c2,fun a b h1 h2=>h2.trans h1⟩
 refine (hs.2 c1 c.w F1 gvs rfl hH1 (Ls _) (qy.refl _ _) (aC.vw hfit hk1 hvs hv)).mono ?_;rintro e w' ⟨c2,r0,n0,eB,eJ,rfl,hH2,hn0,hev,hend,hR⟩
 -- behind the call
 have KZ:∀b,c2.Old b<->c1.Old b:=fun b=>by unfold Cx.Old;rw [eB,eJ]
 have hJ2:∀b o,c2.J0.J b o<->Imm c b o:=fun b o=>by rw [eJ];exact Iff.rfl
 have hout:∀b,c1.Old b->c2.w.heap[b]? = c.w.heap[b]?:=by
  intro b hb
  rcases hb with hb|hb
  ·have hb' : b<c2.B:=by rw [eB];exact hb
   exact hH2.below.block b hb'
  ·exact (hH2.other b (by rw [eJ];exact hb)).2
 classical
 let pl' : Nat->Pl:=fun j=>if h:∃i,ρ i=j then c2.pl h.choose else c.pl j
 have ux:∀i,pl' (ρ i)=c2.pl i:=by
  intro i;have h:∃i',ρ i' = ρ i:=⟨i,rfl⟩
  simp only [pl',dif_pos h];rw [hinj _ _ h.choose_spec]
 have hpl2:∀j,(∀i,ρ i≠j)->pl' j=c.pl j:=fun j h=>by simp only [pl',dif_neg (fun ⟨i,e⟩=>h i e:¬∃i,ρ i=j)]
 let c' : Cx:={ B:=c.B,J0:=c.J0,heap:=vj ρ c2.heap++c.heap,pl:=pl',w:=c2.w }
 have there:∀i,i<ids.length->∃b,look c2.heap i=some b:=by
  intro i hi;obtain ⟨b,hb⟩:=x8 bs i (by omega);obtain ⟨b',hb',_⟩:=hev.blks i b (by omega) hb;exact ⟨b',hb'⟩
 -- the blocks behind the call: the part's,and those beside it
 have look1:∀i b,look c2.heap i=some b->look c'.heap (ρ i)=some (b.ren ρ):=by
  intro i b h;show look (vj ρ c2.heap++c.heap) (ρ i)=_;rw [kZ,wX hinj,h];rfl
 have Wp:∀j b,look c.heap j=some b->(∀i,ρ i≠j)->look c'.heap j=some b:=by
  intro j b h hj;show look (vj ρ c2.heap++c.heap) j=_;rw [kZ,jB hj];exact h
 have split:∀j b,look c'.heap j=some b->(∃i b0,j=ρ i/\look c2.heap i=some b0/\b=b0.ren ρ)\/(look c.heap j=some b/\∀i,ρ i≠j):=by
  intro j b h;have h:look (vj ρ c2.heap++c.heap) j=some b:=h;rw [kZ] at h;by_cases hj:∃i,ρ i=j
  ·obtain ⟨i,rfl⟩:=hj
   rw [wX hinj] at h
   cases hi:look c2.heap i with
   | some b0=>
    rw [hi] at h;simp only [aay,Y8] at h;exact .inl ⟨i,b0,rfl,hi,h.symm⟩
   | none=>
    rw [hi] at h;simp only [aaf] at h;exfalso;have hlt:=hH.lt _ _ h
    rcases ZG i ids.length with h1|h1
    ·obtain ⟨b0,hb0⟩:=there i h1
     rw [hi] at hb0;cases hb0
    ·rw [<- hρ,mX h1] at hlt;omega
  ·have hj' : ∀i,ρ i≠j:=fun i e=>hj ⟨i,e⟩
   rw [jB hj'] at h;exact .inr ⟨h,hj'⟩
 -- a block beside the part is old to it
 have beside:∀j b,look c.heap j=some b->(∀i,ρ i≠j)->Ph (c.pl j) b->c1.Old (c.pl j).gb:=by
  intro j b h hj hph;refine .inr (.inr ⟨hH.i6 h hph,fun i blk hl hp hs hg=>?_⟩)
  rcases hfit i blk hl with ⟨b0,hb,dM⟩|⟨hn,hzz⟩
  ·exact hj i (hH.inj (ρ i) j b0 b hb h (dM.ph hp) hph hg)
  ·rw [hn] at hs;cases hs
 have Wq:∀b o,Imm c2 b o->Imm c' b o:=by
  intro b o hi
  rcases hi with ⟨h1,h2⟩|⟨h1,h2,h3⟩
  ·rw [KZ] at h1
   rw [hJ2] at h2;by_cases ho:c.Old b
   ·rcases h2 with h2|h2
    ·exact .inl h2
    ·exact (h2.1 ho).elim
   ·rcases h2 with h2|⟨g1,g2,g3⟩
    ·exact (ho h2.1).elim
    ·refine .inr ⟨ho,Zm g2 hH2.below.size,fun j blk hl hph hg=>?_⟩
     rcases split j blk hl with ⟨i,b0,rfl,hl0,rfl⟩|⟨hl0,hj⟩
     ·exfalso
      have kW : Ph (pl' (ρ i)) (b0.ren ρ):=hph;have hg' : (pl' (ρ i)).gb=b:=hg;rw [ux,Ph.ren] at kW;rw [ux] at hg';exact hH2.ge i b0 hl0 kW (by rw [hg',KZ];exact h1)
     ·have kW : Ph (pl' j) blk:=hph
      have hg' : (pl' j).gb=b:=hg;rw [hpl2 j hj] at kW hg';exact g3 j blk hl0 kW hg'
  ·have h1' : ¬c1.Old b:=fun h=>h1 ((KZ b).2 h)
   refine .inr ⟨fun h=>h1' (Q6 b h),h2,fun j blk hl hph hg=>?_⟩;have kW : Ph (pl' j) blk:=hph;have hg' : (pl' j).gb=b:=hg
   rcases split j blk hl with ⟨i,b0,rfl,hl0,rfl⟩|⟨hl0,hj⟩
   ·rw [ux,Ph.ren] at kW
    rw [ux] at hg';obtain ⟨k,xs,rfl,hlt⟩:=h3 i b0 hl0 kW hg';exact ⟨k,xs,rfl,hlt⟩
   ·rw [hpl2 j hj] at kW hg'
    exact (h1' (hg' ▸ beside j blk hl0 hj kW)).elim
 have hk2:Keeps c2.w c'.w (Imm c2) (Imm c'):=fun b o h=>⟨Wq b o h,rfl⟩
 have hlk:∀i b,look c2.heap i=some b->∃b',look c'.heap (ρ i)=some b'/\Shp b b'/\c'.pl (ρ i)=c2.pl i:=fun i b h=>⟨_,look1 i b h,Shp.ren ρ b,ux i⟩
 have evo:Evo c c':=by
  refine ⟨fun b o hi=>?_,fun j b hb=>?_⟩
  ·obtain ⟨q1,q2⟩:=hev.keeps b o (Wn b o hi)
   exact ⟨Wq b o q1,q2⟩
  ·by_cases hj:∃i,ρ i=j
   ·obtain ⟨i,rfl⟩:=hj
    have hlt:=hH.lt _ _ hb;have hi:i<ids.length:=by
     rcases ZG i ids.length with h1|h1
     ·exact h1
     ·rw [<- hρ,mX h1] at hlt;omega
    obtain ⟨b0,hb0⟩:=x8 bs i (by omega);obtain ⟨b1,hb1,he⟩:=hev.blks i b0 (by omega) hb0;refine ⟨b1.ren ρ,look1 i b1 hb1,?_⟩;show cD (c.pl (ρ i)) (pl' (ρ i)) b (b1.ren ρ);rw [ux]
    rcases hfit i b0 hb0 with ⟨x,hx,dM⟩|⟨hn,_⟩
    ·rw [hb] at hx;injection hx with hx;subst hx
     rw [hpl i b hb] at he
     cases b<;>cases b0<;>simp only [pW] at dM<;>cases b1<;>simp only [cD,Blk.ren] at he ⊢
     ·exact he
     ·obtain ⟨rfl,rfl⟩:=dM;exact he
     ·obtain ⟨rfl,rfl,rfl⟩:=dM;exact he
     ·exact he
     ·obtain ⟨rfl,rfl⟩:=dM;exact he
    ·rw [hb] at hn;cases hn
   ·have hj' : ∀i,ρ i≠j:=fun i e=>hj ⟨i,e⟩
    refine ⟨b,Wp j b hb hj',?_⟩;show cD (c.pl j) (pl' j) b b;rw [hpl2 j hj'];exact cD.refl _ _
 have hH' : cz c' w0 (nx+(n0 - ids.length)):=by
  refine ⟨?_,?_,hH.kd,?_,?_,?_,?_⟩
  ·have:=hH2.below
   rw [eB] at this;exact hH.below.trans this
  ·intro b hb
   exact ⟨(hH.other b hb).1,(hout b (Q6 b (.inr hb))).trans (hH.other b hb).2⟩
  ·intro j b hl
   rcases split j b hl with ⟨i,b0,rfl,hl0,rfl⟩|⟨hl0,hj⟩
   ·exact cj.push hk2 hlk rfl (ux i) (hH2.blk i b0 hl0)
   ·exact cj.evo evo (hpl2 j hj) (fun hph=>hout _ (beside j b hl0 hj hph)) (hH.blk j b hl0)
  ·intro j b hl
   rcases split j b hl with ⟨i,b0,rfl,hl0,rfl⟩|⟨hl0,hj⟩
   ·have:=hH2.lt i b0 hl0
    rcases ZG i ids.length with h1|h1
    ·have:=KY _ (vk (nx:=nx) h1)
     rw [hρ] at this;omega
    ·rw [<- hρ,mX h1];omega
   ·have:=hH.lt j b hl0;omega
  ·intro j b hl hph
   have kW : Ph (pl' j) b:=hph;show ¬c'.Old (pl' j).gb
   rcases split j b hl with ⟨i,b0,rfl,hl0,rfl⟩|⟨hl0,hj⟩
   ·rw [ux,Ph.ren] at kW
    rw [ux];exact fun h=>hH2.ge i b0 hl0 kW ((KZ _).2 (Q6 _ h))
   ·rw [hpl2 j hj] at kW ⊢
    exact hH.ge j b hl0 kW
  ·intro j j' b b' hl hl' hp hp' hg
   have hp:Ph (pl' j) b:=hp;have hp' : Ph (pl' j') b':=hp';have hg:(pl' j).gb=(pl' j').gb:=hg
   rcases split j b hl with ⟨i,b0,rfl,hl0,rfl⟩|⟨hl0,hj⟩
   ·rw [ux,Ph.ren] at hp
    rw [ux] at hg
    rcases split j' b' hl' with ⟨i',b0',rfl,hl0',rfl⟩|⟨hl0',hj'⟩
    ·rw [ux,Ph.ren] at hp'
     rw [ux] at hg;rw [hH2.inj i i' b0 b0' hl0 hl0' hp hp' hg]
    ·rw [hpl2 j' hj'] at hp' hg
     exact (hH2.ge i b0 hl0 hp (by rw [hg,KZ];exact beside j' b' hl0' hj' hp')).elim
   ·rw [hpl2 j hj] at hp hg
    rcases split j' b' hl' with ⟨i',b0',rfl,hl0',rfl⟩|⟨hl0',hj'⟩
    ·rw [ux,Ph.ren] at hp'
     rw [ux] at hg;exact (hH2.ge i' b0' hl0' hp' (by rw [<- hg,KZ];exact beside j b hl0 hj hp)).elim
    ·rw [hpl2 j' hj'] at hp' hg
     exact hH.inj j j' b b' hl0 hl0' hp hp' hg
 refine ⟨c',r0.ren ρ,nx+(n0 - ids.length),rfl,rfl,rfl,hH',by omega,F.ok c c' (evo.toK _) hFp,?_,r0,c2.heap,n0,hR,rfl,rfl,rfl⟩
 cases e with
 | returned gv=>
  cases r0 with
  | val v=>exact aD.push hk2 hlk v gv hend
  | pan d=>exact hend.elim
 | panicked ch=>
  cases r0 with
  | val v=>exact hend.elim
  | pan d=>obtain ⟨v,h1,h2⟩:=hend;exact ⟨v,h1,aG.keep hk2 _ _ h2⟩
 | outgrown=>cases r0<;>exact hend.elim
end Uw
namespace Uw
open Go
variable [Glob]
section
variable {P : Program} {Q : az -> St -> Prop} {t t' y n : Tree} {p q : Prop}
theorem aw (hgo' : WT P Q t') (h:WT P Q t'->WT P Q t:=by
  first
  | (show _->WT _ _ (Tree.test _ _ _)
     first
     | exact U5 (by omega)
     | exact UR (by simp [inR];omega)
     | exact ah rfl
     | exact aR rfl
     | exact Q0 (by first|assumption|omega)
     | exact U9 (by first|assumption|omega)
     | exact QV (by first|assumption|omega)
     | exact U8 (by first|assumption|omega)
     | exact U6 (by first|assumption|omega)
     | exact U7 (by first|assumption|omega)
     | exact Nz (by first|(simp [inR];done)|(simp [inR];omega))
     | exact Wi (by first|assumption|omega|exact rfl)
     | exact Wj (by first|assumption|omega)
     | exact Wl (by first|assumption|omega)
     | exact Wm (by first|assumption|omega|exact rfl)
     | exact UV (by first|assumption|omega)
     | exact UW (by first|assumption|omega|exact rfl)
     | exact UX (by first|assumption|omega|exact rfl)
     | exact UY (by first|assumption|omega)
     | exact UZ (by assumption)
     | exact U0 (by assumption)
     | exact U1 (by assumption)
     | exact U2 (by assumption)
     | exact UT (by first|assumption|omega|exact rfl)
     | exact Wh (by first|assumption|omega)
     | exact QT (by first|assumption|omega)
     | exact UU (by first|assumption|omega|exact rfl)
     | exact Wg (by assumption)
     | exact aR (by assumption)
     | exact U3 (by assumption)
     | exact U4 (by assumption))
  | (show _->WT _ _ (Tree.call _ _ _)
     exact aK _ (by assumption))
  | (show _->WT _ _ (Tree.elem _ _ _)
     first
     | exact au _ (by assumption)
     | exact QZ (by first|assumption|omega)
     | exact QW (by first|assumption|omega)
     | exact Ir (by first|assumption|omega)
     | exact au _ (QQ _ _ _ (by first|assumption|omega))
     | exact au _ (by assumption))
  | (show _->WT _ _ (Tree.byte _ _ _)
     first
     | exact QY (by first|assumption|omega)
     | exact QX (by first|assumption|omega)
     | exact Is (by first|assumption|omega)
     | exact Q5 (by first|assumption|omega))
  | (show _->WT _ _ (Tree.same _ _ _)
     exact aO rfl)):WT P Q t:=h hgo'
theorem bw (h1:p->WT P Q y) (h2:q->WT P Q n) (h:(p->WT P Q y)->(q->WT P Q n)->WT P Q t:=by
  show _->_->WT _ _ (Tree.test _ _ _)
  first
  | exact NJ
  | exact QU
  | exact En
  | exact Eo
  | exact zx
  | exact zy
  | exact NG
  | exact NH
  | exact Iq
  | exact QS
  | exact NI
  | exact bz):WT P Q t:=h h1 h2
end
theorem wW {st st' : St} (h:Weak st st':=by
  refine Weak.of ?_ ?_ rfl rfl ?_ rfl rfl<;>repeat' first|exact trivial|refine ⟨⟨_,rfl,?_⟩,?_⟩|exact Eh (by first|with_reducible rfl|assumption|omega)|exact Ik (by first|with_reducible rfl|assumption|omega|(simp;done)|(simp;omega)) rfl rfl|exact Or.inl ⟨rfl,rfl⟩|exact NA (by assumption)|exact Or.inr (Or.inl ⟨rfl,by first|exact ⟨_,_,_,rfl,rfl,Or.inl rfl⟩|exact ⟨_,_,_,rfl,rfl,Or.inr rfl⟩⟩)|exact Or.inr (Or.inr (Or.inl rfl))|exact Or.inr (Or.inr (Or.inr (Or.inl ⟨_,_,_,_,_,_,_,rfl,rfl,by first|assumption|exact rfl,rfl⟩)))|exact Or.inr (Or.inr (Or.inr ⟨_,_,_,_,_,_,_,rfl,rfl,by first|assumption|exact rfl,rfl⟩))|refine Or.inr (Or.inr (Or.inr (Or.inr (Or.inl ⟨_,_,rfl,rfl,?_⟩))))|refine ⟨⟨Or.inl ⟨_,rfl,?_⟩,rfl⟩,?_⟩|refine ⟨⟨Or.inr ⟨rfl,rfl⟩,rfl⟩,?_⟩|refine ⟨⟨Or.inr ⟨rfl,rfl,rfl⟩,rfl⟩,?_⟩|exact ⟨rfl,rfl⟩|exact ⟨rfl,by assumption⟩|exact ⟨rfl,rfl,rfl⟩|exact qK rfl rfl|refine ⟨⟨rfl,fun _=>rfl⟩,?_⟩|refine And.intro ?_ ?_|refine ⟨⟨rfl,fun _=>rfl⟩,?_⟩):Weak st st':=h
end Uw
namespace Uw
open Go
variable [Glob]
theorem wM {st st' : St} (h:Weak st st':=by
  refine Weak.of ?_ ?_ rfl rfl ?_ rfl rfl<;>repeat' first|exact trivial|refine ⟨⟨_,rfl,?_⟩,?_⟩|exact Eh (by first|with_reducible rfl|assumption|omega)|exact Ik (by first|with_reducible rfl|assumption|omega|(simp;done)|(simp;omega)) rfl rfl|exact Or.inl ⟨rfl,rfl⟩|exact NA (by assumption)|exact Or.inr (Or.inl ⟨rfl,by first|exact ⟨_,_,_,rfl,rfl,Or.inl rfl⟩|exact ⟨_,_,_,rfl,rfl,Or.inr rfl⟩⟩)|exact Or.inr (Or.inr (Or.inl rfl))|exact Or.inr (Or.inr (Or.inr (Or.inl ⟨_,_,_,_,_,_,_,rfl,rfl,by first|assumption|exact rfl,rfl⟩)))|exact Or.inr (Or.inr (Or.inr ⟨_,_,_,_,_,_,_,rfl,rfl,by first|assumption|exact rfl,rfl⟩))|refine Or.inr (Or.inr (Or.inr (Or.inr (Or.inl ⟨_,_,rfl,rfl,?_⟩))))|refine ⟨⟨Or.inl ⟨_,rfl,?_⟩,rfl⟩,?_⟩|refine ⟨⟨Or.inr ⟨rfl,rfl⟩,rfl⟩,?_⟩|refine ⟨⟨Or.inr ⟨rfl,rfl,rfl⟩,rfl⟩,?_⟩|exact ⟨rfl,rfl,by assumption⟩|exact ⟨rfl,by assumption⟩|exact ⟨rfl,rfl⟩|exact ⟨rfl,rfl,rfl⟩|exact qK rfl rfl|refine ⟨⟨rfl,fun _=>rfl⟩,?_⟩|refine And.intro ?_ ?_|refine ⟨⟨rfl,fun _=>rfl⟩,?_⟩):Weak st st':=h
end Uw
namespace Uw
open Go
variable [Glob]
section
variable {P : Program} {Q : az -> St -> Prop}
def Q7 (n:Nat) (good:Nat->Prop) (j:Nat):Prop:=j<=n/\∀m,m<j->good m
def forM (n:Nat) (j:Nat):Nat:=n - j
theorem dH (n:Nat) (S:Nat->St) (good:Nat->Prop) {m:bE} {st:St} {k:az->St->Tree} (hw:Weak st (S 0))
  (last:(∀j,j<n->good j)->WT P (cK S (Q7 n good) (forM n) n fun e s=>WT P Q (k e s)) (exec m (S n) Tree.done))
  (round:∀j,j<n->(∀i,i<j->good i)->WT P (cK S (Q7 n good) (forM n) j fun e s=>WT P Q (k e s)) (exec m (S j) Tree.done)):WT P Q (.code (.loop m) st k):=by
 refine cX S (Q7 n good) (forM n) 0 hw ⟨ZN _,fun j h=>absurd h (Nat.not_lt_zero _)⟩ ?_;rintro j ⟨h1,h2⟩
 rcases ZG j n with h|h
 ·exact round j h h2
 ·obtain rfl:j=n:=Nat.le_antisymm h1 h
  exact last h2
theorem cH {n:Nat} {S:Nat->St} {good:Nat->Prop} {s:St} (j:Nat) (hg:good j) (hw:Weak s (S (j+1))) (hj:j<n:=by assumption) (hp:∀i,i<j->good i:=by assumption) :
  WT P (cK S (Q7 n good) (forM n) j Q) (.done .normal s):=by
 refine aN (j+1) ⟨hj,fun i hi=>?_⟩ (by unfold forM;omega) hw
 rcases ZG i j with h|h
 ·exact hp i h
 ·rw [show i=j by omega];exact hg
theorem Q8 {o:Option Dat} {v:Dat} {k:Dat->Tree} {n:Tree} (h:o=some v) (h2:WT P Q (k v)):WT P Q (.test o.isSome (.val o k) n):=
 ⟨fun _=>⟨v,h,h2⟩,fun hf=>(by rw [h] at hf;cases hf)⟩
theorem NL {o:Option Dat} {k:Dat->Tree} {n:Tree} (h:o=none) (h2:WT P Q n):WT P Q (.test o.isSome (.val o k) n):=
 ⟨fun hf=>(by rw [h] at hf;cases hf),fun _=>h2⟩
theorem m1 {t t' : Tree} (hgo' : WT P Q t') (h:WT P Q t'->WT P Q t:=by
  first
  | exact Q8 (by assumption)
  | exact NL (by assumption)):WT P Q t:=h hgo'
end
end Uw
namespace Uw
open Go Go.RowKit
def jC (t:List Deferred) (a:Act):Act:={ a with defers:=a.defers++t }
def CP (t:List Deferred) (Q:Exit->Act->World->Prop) (e:Exit) (a:Act) (w:World):Prop:=∃a0,a=jC t a0/\Q e a0 w
section
variable {P : Program} {t : List Deferred} {Q : Exit -> Act -> World -> Prop} {ops : Array Oper}
theorem CQ (a:Act):(jC t a).eval=a.eval:=funext fun x=>by cases x<;>rfl
theorem nN (a:Act) (d:Option Tmp) (v:Value):(jC t a).put d v=jC t (a.put d v):=by cases d<;>rfl
theorem Ep (h:LetsOut Q):LetsOut (CP t Q):=by obtain ⟨a,w,h⟩:=h;exact ⟨_,w,a,rfl,h⟩
theorem Jz {o:Oper} {a:Act} {w:World} {K K' : Act->World->Prop} (hK:∀a w,K a w->K' (jC t a) w) (h:o.wp P a w K Q):o.wp P (jC t a) w K' (CP t Q):=by
 unfold Oper.wp at *;rw [CQ];generalize (execOp a.eval o).run P w=r at *
 cases r with
 | ok nx w'=>
  cases nx with
  | value v=>show K' _ _;rw [nN];exact hK _ _ h
  | skip=>show K' _ _;rw [nN];exact hK _ _ h
  | defer d=>show K' (Act.put _ _ _) _;rw [show ({ jC t a with defers:=d::(jC t a).defers }:Act)=jC t { a with defers:=d::a.defers } from rfl,nN];exact hK _ _ h
  | enter f args=>
   rw [Oper.upon_enter] at h ⊢;refine Calls.mono h ?_;intro e w'' hh
   cases e with
   | returned v=>show K' _ _;rw [nN];exact hK _ _ hh
   | panicked ch=>exact ⟨a,rfl,hh⟩
   | outgrown=>exact Ep hh
  | row rw' args=>exact Rows.mono h fun v w'' hh=>by show K' _ _;rw [nN];exact hK _ _ hh
  | _=>exact h.elim
 | halt s w'=>
  cases s<;>first|exact ⟨a,rfl,h⟩|exact h.elim
theorem wY (hno:¬LetsOut Q):∀(L:List Oper) (a:Act) (w:World),wpList P ops Q L a w->wpList P ops (CP t Q) L (jC t a) w
 | [],a,w,h=>⟨a,rfl,h⟩
 | o::L,a,w,h=>by
  simp only [wpList] at h ⊢;show if Region.wanted o (yielded ops a.tmps) then _ else _
  split
  ·rename_i hw
   rw [if_pos hw] at h
   rcases h with h|h
   ·exact .inl (Jz (fun a w h=>wY hno L a w h) h)
   ·exact (hno h.2).elim
  ·rename_i hw
   rw [if_neg hw] at h;rw [nN];exact wY hno L _ _ h
theorem vl {md:Region.Mode} (hno:¬LetsOut Q):∀(fuel:Nat) (L:Array Bool) (a:Act) (w:World),wpAny P md ops Q fuel L a w->wpAny P md ops (CP t Q) fuel L (jC t a) w
 | 0,L,a,w,h=>⟨h.1,a,rfl,h.2⟩
 | fuel+1,L,a,w,h=>by
  refine ⟨fun hr=>⟨a,rfl,h.1 hr⟩,fun i hi=>?_⟩;have h:=h.2 i hi;unfold wpOp at h ⊢
  split
  ·rename_i ho
   rw [ho] at h;exact vl hno fuel _ _ _ h
  ·rename_i o ho
   rw [ho] at h;simp only at h;show if Region.wanted o (yielded ops a.tmps) then _ else _
   split
   ·rename_i hw
    rw [if_pos hw] at h
    rcases h with h|h
    ·exact .inl (Jz (fun a w h=>vl hno fuel _ _ _ h) h)
    ·exact (hno h.2).elim
   ·rename_i hw
    rw [if_neg hw] at h;rw [nN];exact vl hno fuel _ _ _ h
end
def tailW (P:Program) (t:List Deferred):WPS P where
 W:=fun c Q a w=>Code.wp P c (CP t Q) (jC t a) w
 dfr:=true
 mono:=fun h hq=>Go.wp_mono h fun e a w ⟨a0,h1,h2⟩=>⟨a0,h1,hq _ _ _ h2⟩
 skip:=fun h=>wp_skip ⟨_,rfl,h⟩
 exit:=fun h=>wp_exit ⟨_,rfl,h⟩
 ret:=fun h=>wp_ret ⟨_,rfl,h⟩
 seq:=fun h=>wp_seq (Go.wp_mono h fun e a w ⟨a0,h1,h2⟩=>by
  subst h1
  cases e with
  | normal=>exact h2
  | exit id=>exact ⟨a0,rfl,h2⟩
  | goto l=>exact ⟨a0,rfl,h2⟩
  | ret=>exact ⟨a0,rfl,h2⟩
  | panic ch=>exact ⟨a0,rfl,h2⟩
  | outgrown=>exact ⟨a0,rfl,h2⟩)
 cond:=fun hc h1 h2=>wp_cond_split (by rw [CQ];exact hc) h1 h2
 block:=fun {id c Q a w} h=>wp_block (Go.wp_mono h fun e a w ⟨a0,h1,h2⟩=>by
  subst h1
  cases e with
  | exit j=>
   simp only [Exit.inBlock] at h2 ⊢
   split
   ·rename_i hj;rw [if_pos hj] at h2;exact ⟨a0,rfl,h2⟩
   ·rename_i hj;rw [if_neg hj] at h2;exact ⟨a0,rfl,h2⟩
  | normal=>exact ⟨a0,rfl,h2⟩
  | goto l=>exact ⟨a0,rfl,h2⟩
  | ret=>exact ⟨a0,rfl,h2⟩
  | panic ch=>exact ⟨a0,rfl,h2⟩
  | outgrown=>exact ⟨a0,rfl,h2⟩)
 loop:=fun {c Q a w} I μ h0 h=>wp_loop_ghost (fun n a w=>∃a0,a=jC t a0/\I a0 w/\μ a0 w=n) (μ a w) ⟨a,rfl,h0,rfl⟩ (by
  rintro n _ w ⟨a0,rfl,h1,rfl⟩;refine Go.wp_mono (h a0 w h1) ?_;rintro e _ w ⟨a1,rfl,h2⟩
  cases e with
  | normal=>exact ⟨_,h2.2,a1,rfl,h2.1,rfl⟩
  | exit id=>exact ⟨a1,rfl,h2⟩
  | goto l=>exact ⟨a1,rfl,h2⟩
  | ret=>exact ⟨a1,rfl,h2⟩
  | panic ch=>exact ⟨a1,rfl,h2⟩
  | outgrown=>exact ⟨a1,rfl,h2⟩)
 scope:=fun _ {c Q a w} h=>wp_scope_straight (Go.wp_mono h fun e a w ⟨a0,h1,h2⟩=>by
  subst h1
  cases e with
  | goto l=>exact h2
  | normal=>exact ⟨a0,rfl,h2⟩
  | exit id=>exact ⟨a0,rfl,h2⟩
  | ret=>exact ⟨a0,rfl,h2⟩
  | panic ch=>exact ⟨a0,rfl,h2⟩
  | outgrown=>exact ⟨a0,rfl,h2⟩)
 label:=fun h=>wp_label ⟨_,rfl,h⟩
 list:=fun hno _ h=>wp_region_list (wY hno _ _ _ h)
 any:=fun hm hno _ h=>wp_region_any hm (vl hno _ _ _ _ h)
variable [Glob]
section
variable {c : Cx} {w00 w0 : World} {n : Nat} {gs : Fr} {st : St} {a : Act}
theorem cz.gok {next:Nat} (r:cz c w0 next):GOk c.B c.w:=
 ⟨Zn r.kd.1 r.below.size,r.kd.2.1,Glob.ok w0 c.w (fun k hk=>r.below.block k (Zm hk r.kd.2.1)) r.kd.2.2⟩
theorem Rel.Ws {c' : Cx} (r:Rel c w00 n gs st a) (h:Evo c c') (hh:c'.heap=st.heap) (hH:cz c' w0 st.next):Rel c' w0 n gs st a:=
 ⟨hh,hH,r.size,r.regs.evo h,gs.ok c c' (h.toK _) r.frames,r.nD,r.base,r.defers.evo h⟩
def Cx.others (c:Cx) (X:Nat->Prop):Cx:={ c with J0:=⟨fun b o=>c.J0.J b o\/X b,fun b=>c.J0.X b\/X b⟩ }
theorem Evo.others (X:Nat->Prop):Evo c (c.others X):=by
 refine ⟨fun b o hi=>⟨?_,rfl⟩,fun id b hb=>⟨b,hb,by cases b<;>simp [cD,Cx.others]⟩⟩
 rcases hi with ⟨h1,h2⟩|⟨h1,h2,h3⟩
 ·exact .inl ⟨h1.imp (fun h=>h) .inl,.inl h2⟩
 ·by_cases hx:X b
  ·exact .inl ⟨.inr (.inr hx),.inr hx⟩
  ·refine .inr ⟨fun h=>?_,h2,h3⟩
   rcases h with h|h|h
   ·exact h1 (.inl h)
   ·exact h1 (.inr h)
   ·exact hx h
theorem Rel.others (r:Rel c w0 n gs st a) (X:Nat->Prop) (hX:∀b,X b->b<c.w.heap.size) (hn:∀b,X b->∀id blk,look c.heap id=some blk->Ph (c.pl id) blk->(c.pl id).gb≠b):Rel (c.others X) c.w n gs st a:=by
 refine r.Ws (Evo.others X) r.heap ⟨Below.refl _ _,?_,r.hrel.gok,fun id b hl=>cj.evo (Evo.others X) rfl (fun _=>rfl) (r.hrel.blk id b hl),r.hrel.lt,?_,r.hrel.inj⟩
 ·rintro b (hb|hb)
  ·exact ⟨Zm (r.hrel.other b hb).1 r.hrel.below.size,rfl⟩
  ·exact ⟨hX b hb,rfl⟩
 ·intro id b hl hp hold
  rcases hold with h|h|h
  ·exact r.hrel.ge id b hl hp (.inl h)
  ·exact r.hrel.ge id b hl hp (.inr h)
  ·exact hn _ h id b hl hp rfl
theorem Rel.Q9 (r:Rel c w0 n gs st a) {L:Nat} {o o' : Obj} (hL:c.J0.X L) (hB:c.B<=L) (ho:c.w.heap[L]? = some o) (h1:o.isCells=false) (h2:o'.isCells=false):Rel { c with w:=c.w.putObj L o' } (c.w.putObj L o') n gs st a:=by
 have hlt:L<c.w.heap.size:=(ZH.1 ho).1;have hsz:(c.w.putObj L o').heap.size=c.w.heap.size:=by simp [World.putObj]
 have hcell:∀b i,(c.w.putObj L o').cell? ⟨b,i,none⟩=c.w.cell? ⟨b,i,none⟩:=by
  intro b i;by_cases hb:b=L
  ·subst hb
   unfold World.cell?;rw [World.putObj_heap_same hlt,ho]
   cases o<;>cases o'<;>simp_all [Obj.isCells]
  ·exact World.cell?_of_block (World.putObj_heap_other (fun e=>hb e))
 have hev:Evo c { c with w:=c.w.putObj L o' }:=by
  refine ⟨fun b i hi=>⟨?_,hcell b i⟩,fun id b hb=>⟨b,hb,by cases b<;>simp [cD]⟩⟩
  rcases hi with h|⟨h1,h2,h3⟩
  ·exact .inl h
  ·exact .inr ⟨h1,by rw [hsz];exact h2,h3⟩
 refine r.Ws hev r.heap ⟨Below.refl _ _,fun b hb=>⟨by rw [hsz];exact Zm (r.hrel.other b hb).1 r.hrel.below.size,rfl⟩,?_,?_,r.hrel.lt,r.hrel.ge,r.hrel.inj⟩
 ·obtain ⟨g1,g2,g3⟩:=r.hrel.gok
  exact ⟨by rw [hsz];exact g1,g2,Glob.ok c.w _ (fun k hk=>World.putObj_heap_other (by omega)) g3⟩
 ·intro id b hl
  refine cj.evo hev rfl (fun hp=>World.putObj_heap_other ?_) (r.hrel.blk id b hl);rintro rfl;exact r.hrel.ge id b hl hp (.inr hL)
end
end Uw
namespace Uw
open Go Go.RowKit
variable [Glob]
theorem mY {B L:Nat} {w:World} {o:Obj} (h:B<=L):Below B w (w.putObj L o):=
 ⟨rfl,rfl,rfl,by simp [World.putObj],fun k hk=>World.putObj_heap_other (fun e=>absurd e (by omega))⟩
theorem fold_size (ps:List (Tmp×Value)) (t:Array Value):(ps.foldl (fun t (p:Tmp×Value)=>t.setIfInBounds p.1 p.2) t).size=t.size:=by
 induction ps generalizing t with
 | nil=>rfl
 | cons p ps ih=>rw [aag,ih];simp
def Iter (P:Program) (gf:FuncId) (lb:Array Value) (encs:Nat->Array Value) (N:Nat) (OK:World->Prop):Prop:=
 ∀(l:Nat) (J:Nat->World->Prop) (W:World),(∀k W1,J k W1->k<N->YieldAt Fence.wide 0 P l (encs k) W1 fun e W'=>e = .returned (.bool true)/\J (k+1) W')->(∀k W1,J k W1->OK W1)->J 0 W->
  CallsIn Fence.wide 0 P gf (#[.func (.yield l) #[] #[]]++lb) W fun e W'=>(∃v,e = .returned v)/\J N W'
section
variable {P : Program} {n : Nat} {gs : Fr} {c0 : Cx} {w00 : World} {a : Act}
def RI (n:Nat) (gs:Fr) (S:Nat->St) (c0:Cx) (a:Act) (rdy:Obj) (k:Nat) (W:World):Prop:=
 ∃c:Cx,c.w=W/\c.B=c0.B/\c.J0=(c0.others fun b=>b=c0.w.heap.size\/b=c0.w.heap.size+1).J0/\Rel c W n gs (S k) a/\Below c0.B c0.w W/\
  (∀b,c0.J0.X b->W.heap[b]? = c0.w.heap[b]?)/\W.heap[c0.w.heap.size]? = some (.deferred (some []))/\W.heap[c0.w.heap.size+1]? = some rdy
theorem RI.start {S:Nat->St} {rdy:Obj} (r:Rel c0 w00 n gs (S 0) a):RI n gs S c0 a rdy 0 ((c0.w.alloc (.deferred (some []))).alloc rdy):=by
 have hb:Below c0.w.heap.size c0.w ((c0.w.alloc (.deferred (some []))).alloc rdy):=((Below.refl _ c0.w).alloc (Ls _) _).alloc (by simp) _;have r1:=r.grow hb;refine ⟨({ c0 with w:=(c0.w.alloc (.deferred (some []))).alloc rdy }:Cx).others (fun b=>b=c0.w.heap.size\/b=c0.w.heap.size+1),rfl,rfl,rfl,r1.others (fun b=>b=c0.w.heap.size\/b=c0.w.heap.size+1) ?_ ?_,hb.mono r.hrel.zc,fun b hx=>?_,?_,?_⟩
 ·rintro b (rfl|rfl)<;>simp<;>omega
 ·rintro b hx id blk hl hp rfl
  have:=r.hrel.i6 hl hp
  rcases hx with h|h
  ·have h:(c0.pl id).gb=c0.w.heap.size:=h
   omega
  ·have h:(c0.pl id).gb=c0.w.heap.size+1:=h
   omega
 ·exact hb.block b (Zm (r.hrel.other b hx).1 r.hrel.below.size)
 ·exact (Below.heap_alloc _ _ _ (by simp)).trans (World.alloc_heap_new c0.w _)
 ·have:=World.alloc_heap_new (c0.w.alloc (.deferred (some []))) rdy
  rwa [World.size_alloc] at this
theorem NM {g:Operand} {ps:Array Tmp} {as bd:Code} {Q:Exit->Act->World->Prop} {gf:Nat} {lb:Array Value} (hg:a.eval g = .func (.func gf) #[] lb) (eg:∀args w,(callFunc gf args).run P w = .ok (.enter gf args) w)
  (N:Nat) (encs:Nat->Array Value) (hps:∀k,(encs k).size=ps.size) (R:jm) (base:Nat) (S:Nat->St) (hS:∀k,(S k).regs=R/\(S k).defers=[]/\(S k).base=base) (r:Rel c0 w00 n gs (S 0) a)
  (OK:World->Prop) (hOK:∀c:Cx,gs.p c->(∀b,c0.J0.X b->c.w.heap[b]? = c0.w.heap[b]?)->OK c.w) (hit:Iter P gf lb encs N OK)
  {pol XX : Pol} {mas mbd:bE} (hcas:comp P n pol as=some mas) (XY:comp P n XX bd=some mbd) (hn1:noD as=true) (hn2:noD bd=true) (Vb:Nat->jm)
  (Wt:∀(k:Nat) (c:Cx),k<N->gs.p c->mU c R a.tmps->mU c (Vb k++R) ((ps.zip (encs k)).foldl (fun t (p,v)=>t.setIfInBounds p v) a.tmps))
  (round:∀k,k<N->WT P (fun e s=>e = .normal/\WT P (fun e s'=>e = .normal/\s'.defers=[]/\Weak ⟨R,s'.heap,s'.next,[],base⟩ (S (k+1))) (exec mbd s Tree.done)) (exec mas ⟨Vb k++R,(S k).heap,(S k).next,[],(S k).next⟩ Tree.done))
  (hdone:∀(c:Cx),c.B=c0.B->c.J0=(c0.others fun b=>b=c0.w.heap.size\/b=c0.w.heap.size+1).J0->Rel c c.w n gs (S N) a->Below c0.B c0.w c.w->c.w.heap[c0.w.heap.size]? = some (.deferred (some []))->
   Q .normal { a with defers:={ target:=.collected c0.w.heap.size,args:=#[] }::a.defers } c.w):(Code.rangeFunc g ps as bd).wp P Q a c0.w:=by
 refine (wpIn_wide (n:=0)).1 (wpIn_rangeFunc ?_);intro fn _;obtain ⟨rec,hrec⟩:∃rec:LoopState->Loop,rec=fun st=>{ state:=st,pending:=none,fn,tmps:=a.tmps,params:=ps,assign:=as,body:=bd,defers:=c0.w.heap.size }:=⟨_,rfl⟩
 obtain ⟨W1,hW1⟩:∃W1,(c0.w.alloc (.deferred (some []))).alloc (.loop (rec .ready))=W1:=⟨_,rfl⟩
 have h0:RI n gs S c0 a (.loop (rec .ready)) 0 W1:=by rw [<- hW1];exact RI.start r
 obtain ⟨L,hL⟩:∃L,c0.w.heap.size+1=L:=⟨_,rfl⟩
 have hBL:c0.B<=L:=by have:=r.hrel.zc;omega
 refine ⟨L,[{ target:=.collected c0.w.heap.size,args:=#[] }],W1,{ target:=.fn (.func gf) lb,args:=#[.func (.yield L) #[] #[]] },W1,gf,#[.func (.yield L) #[] #[]]++lb,W1,?_,?_,fun _ _=>trivial,?_,fun h=>(by simp [Fence.wide] at h),?_⟩
 ·rw [<- hW1,hrec,<- hL];exact run_enterLoop_outer _ _ _ _ _
 ·simp only [resolve,hg]
  simp [go_sem]
 ·simp [invoke,go_sem,eg]
 refine (hit L (RI n gs S c0 a (.loop (rec .ready))) W1 ?_ ?_ h0).mono ?_
 ·-- one round
  rintro k W ⟨c,rfl,hB,hJ,rk,hbel,hX,hD,hLo⟩ hk;rw [hL] at hLo;obtain ⟨e1,e2,e3⟩:=hS k;have hXL:c.J0.X L:=by rw [hJ];exact .inr (.inr hL.symm)
  have hXD:c.J0.X c0.w.heap.size:=by rw [hJ];exact .inr (.inl rfl)
  have hX0:∀b,c0.J0.X b->c.J0.X b:=fun b hb=>by rw [hJ];exact .inl hb
  have XZ:∀b,c0.J0.X b->b≠L:=fun b hb e=>by
   have h1:=(r.hrel.other b hb).1;have h2:=r.hrel.below.size;omega
  have hy:=run_yield (P:=P) (args:=encs k) hLo (by rw [hrec];exact hps k);rw [hrec] at hy;refine ⟨fn,_,as,bd,hy,roundIn_of_wpIn trivial ?_⟩;have rr:Rel c c.w n (zk gs (S k) a rk.frK) ⟨Vb k++R,(S k).heap,(S k).next,[],(S k).next⟩ { tmps:=(ps.zip (encs k)).foldl (fun t (p,v)=>t.setIfInBounds p v) a.tmps,defers:=[] }:=by
   refine ⟨rk.heap,rk.hrel,?_,Wt k c hk rk.frames (by rw [<- e1];exact rk.regs),rk.UD,Ls _,Ls _,rfl⟩;have:=fold_size (ps.zip (encs k)).toList a.tmps;rw [<- aaK];exact this.trans rk.size
  refine wpIn_mono (kN (bp P L 0) as mas hcas (.inr hn1) Tree.done c _ _ rr (round k hk)) ?_;rintro e a1 w1 ⟨c1,me,st1,b1,j1,rfl,x1,r1,hq1⟩;simp only [WT] at hq1;obtain ⟨rfl,hq1⟩:=hq1
  cases e<;>simp only [bu] at x1
  have o1:c1.w.heap[L]? = some (.loop (rec .ready)):=((r1.hrel.other L (by rw [j1];exact hXL)).2).trans hLo;refine ⟨_,run_beginRound o1 (by rw [hrec]),?_⟩;have r2:=r1.Q9 (o':=.loop { rec .ready with state:=.busy }) (by rw [j1];exact hXL) (by rw [b1,hB];exact hBL) o1 rfl rfl;refine wpIn_mono (kN (bp P L 0) bd mbd XY (.inr hn2) Tree.done _ _ _ r2 hq1) ?_;rintro e a2 w2 ⟨c2,me,st2,b2,j2,rfl,x2,r3,hq2⟩;simp only [WT] at hq2;obtain ⟨rfl,hd2,hw2⟩:=hq2
  cases e<;>simp only [bu] at x2
  have hlt1:L<c1.w.heap.size:=(ZH.1 o1).1;have o2:c2.w.heap[L]? = some (.loop { rec .ready with state:=.busy }):=((r3.hrel.other L (by rw [j2];show c1.J0.X L;rw [j1];exact hXL)).2).trans (World.putObj_heap_same hlt1);refine ⟨_,_,run_endRound none o2,rfl,?_⟩;have hfr:=r3.frames;have r4:Rel c2 (c1.w.putObj L (.loop { rec .ready with state:=.busy })) n gs ⟨R,st2.heap,st2.next,[],base⟩ a:=by
   refine ⟨r3.heap,r3.hrel,rk.size,fun i v hv=>(hfr.1 i v (by rw [e1];exact hv)).2,hfr.2.2,by rw [<- e3];exact rk.nD,?_,?_⟩
   ·rw [<- e3];exact Zn rk.base (Zn r3.nD r3.base)
   ·have:=hfr.2.1.2;rw [e2] at this;exact this
  obtain ⟨c3,b3,j3,w3,_,r5⟩:=r4.weak hw2;have hJ3:c3.J0=c.J0:=j3.trans (j2.trans j1);have hB3:c3.B=c0.B:=b3.trans (b2.trans (b1.trans hB));have r6:=r5.Q9 (o:=.loop { rec .ready with state:=.busy }) (o':=.loop (rec .ready)) (by rw [hJ3];exact hXL) (by rw [hB3];exact hBL) (by rw [w3];exact o2) rfl rfl;have hlt2:L<c2.w.heap.size:=(ZH.1 o2).1;rw [w3] at r6;have Wu:(Obj.loop { ({ rec .ready with state:=.busy }:Loop) with state:=if (none:Option Code).isNone then .ready else .done,pending:=none }) = .loop (rec .ready):=by rw [hrec];rfl
  rw [Wu];have keep:∀b,c.J0.X b->b≠L->(c2.w.putObj L (.loop (rec .ready))).heap[b]? = c.w.heap[b]?:=by
   intro b hb hbL;rw [World.putObj_heap_other hbL,(r3.hrel.other b (by rw [j2];show c1.J0.X b;rw [j1];exact hb)).2,World.putObj_heap_other hbL,(r1.hrel.other b (by rw [j1];exact hb)).2]
  refine ⟨{ c3 with w:=c2.w.putObj L (.loop (rec .ready)) },rfl,hB3,hJ3.trans hJ,r6,?_,fun b hb=>(keep b (hX0 b hb) (XZ b hb)).trans (hX b hb),(keep _ hXD (by omega)).trans hD,?_⟩
  ·have q1:=r1.hrel.below
   have q2:=r3.hrel.below;rw [b1,hB] at q1;rw [b2,show ({ c1 with w:=c1.w.putObj L (.loop { rec .ready with state:=.busy }) }:Cx).B=c0.B from b1.trans hB] at q2;exact (((hbel.trans q1).trans (mY hBL)).trans q2).trans (mY hBL)
  ·rw [hL];exact World.putObj_heap_same hlt2
 ·rintro k W ⟨c,rfl,hB,hJ,rk,hbel,hX,hD,hLo⟩
  exact hOK c rk.frames hX
 ·rintro e W ⟨⟨v,rfl⟩,c,rfl,hB,hJ,rk,hbel,hX,hD,hLo⟩
  rw [hL] at hLo;have hXL:c.J0.X L:=by rw [hJ];exact .inr (.inr hL.symm)
  refine ⟨none,_,by have:=run_endLoop (P:=P) hLo (by rw [hrec];simp);rw [hrec] at this;exact this,?_⟩;have r1:=rk.Q9 (o':=.loop { state:=.exhausted,pending:=none,fn,tmps:=a.tmps,params:=ps,assign:=as,body:=bd,defers:=c0.w.heap.size }) hXL (by rw [hB];exact hBL) hLo rfl rfl;exact hdone { c with w:=c.w.putObj L _ } hB hJ r1 (hbel.trans (mY hBL)) ((World.putObj_heap_other (by omega)).trans hD)
end
end Uw
namespace Uw
open Go Go.RowKit
def cL:Code->Code
 | .seq x _=>x
 | .block _ x=>x
 | .loop x=>x
 | .rangeFunc _ _ x _=>x
 | c=>c
def cR:Code->Code
 | .seq _ y=>y
 | .rangeFunc _ _ _ y=>y
 | c=>c
def fW (P:Program) (f:FuncId):Code:=match P.funcs[f]? with
 | some fn=>fn.body.getD .skip
 | none=>.skip
def JA (P:Program) (f:FuncId) (n:Nat) (res:List iK) (code:Code):Prop:=∃fn,P.funcs[f]? = some fn/\fn.body=some code/\fn.ntmps=n/\fO P fn.results.toList=some res
variable [Glob]
section
variable {P : Program} {n : Nat} {gs : Fr} {c : Cx} {w0 : World} {st : St} {a : Act} {Q : Exit -> Act -> World -> Prop}
theorem yN {x y:Code} {pol:Pol} {m:bE} (hc:comp P n pol x=some m) (r:Rel c w0 n gs st a) (S1:St) (h:WT P (fun e s=>e = .normal/\Weak s S1) (exec m st Tree.done))
  (next:∀(c' : Cx) (a' : Act),c'.B=c.B->c'.J0=c.J0->Rel c' w0 n gs S1 a'->Code.wp P y Q a' c'.w):Code.wp P (.seq x y) Q a c.w:=by
 refine wp_seq (Go.wp_mono (kN (plainW P) x m hc (.inl rfl) Tree.done c st a r h) ?_);rintro e a' w' ⟨c1,me,st1,b1,j1,rfl,x1,r1,hq⟩;simp only [WT] at hq;obtain ⟨rfl,hw⟩:=hq
 cases e<;>simp only [bu] at x1
 obtain ⟨c2,b2,j2,w2,_,r2⟩:=r1.weak hw;have:=next c2 a' (b2.trans b1) (j2.trans j1) r2;rw [w2] at this;exact this
theorem x5.of {st st' : St} (h1:KU (cY []) st.regs st.heap st'.heap st'.regs) (h2:Nu (cY []) st.heap st'.heap st'.next st'.heap) (h3:st'.base=st.base) (h4:Nat.ble st.base st'.next=true) (h5:CB (cY []) st.heap st'.heap st.base)
  (h6:eb st'.heap st'.defers=true) (h7:st.defers=nL (cY []) st'.defers):x5 (cY []) st st':=
 ⟨fun i v h=>pZ h1 i v h,fun i b h=>(kC h2 i b h).1,fun i b h=>(kC h2 i b h).2,h3,Y0 h4,nM h5,fun id id' _ _ he=>he,h6,h7⟩
theorem Rel.forget (r:Rel c w0 n gs st a) {st' : St} (h:x5 (cY []) st st') {id0:Nat} {cs0:List V} (hid:look st.heap id0=some (.var cs0)) (hno:look st'.heap id0=none) :
  Rel (c.weak (cY []) st'.heap) w0 n gs st' a/\∀id blk,look (c.weak (cY []) st'.heap).heap id=some blk->Ph ((c.weak (cY []) st'.heap).pl id) blk->((c.weak (cY []) st'.heap).pl id).gb≠(c.pl id0).gb:=by
 refine ⟨r.Nl h,fun id blk hl hp hg=>?_⟩;have hs:∀id b',look st'.heap id=some b'->(∃b,look c.heap (cY [] id)=some b/\pW (cY []) c.heap st'.heap b b')\/(look c.heap (cY [] id)=none/\ja b'):=by rw [r.heap];exact h.heap
 have hl' : look st'.heap id=some blk:=hl
 rcases hs id blk hl' with ⟨b,hb,dM⟩|⟨hn,hz⟩
 ·rw [fm hs hb] at hp hg
  rw [<- r.heap] at hid;have:=r.hrel.inj id id0 b _ hb hid (dM.ph hp) trivial hg;subst this;rw [hno] at hl';cases hl'
 ·rw [rS hs hn] at hp
  cases blk<;>simp [ja,Ph] at hz hp
theorem K0 {c' : Cx} {fn:Func} {res:List iK} {J:Nat->Nat->Prop} {w:World} {st' : St} {a' : Act} (e5:Rel c' w0 n gs st' a') (hres:fO P fn.results.toList=some res) (hB:c'.B=w.heap.size)
  (hJ:∀b o,c'.Old b->c'.J0.J b o->J b o\/(w.heap.size<=b/\b<c'.w.heap.size))
  {vs:List V} {ds:List Dat} (g1:resV st' res=some vs) (g2:fE st'.heap vs=some ds) (g3:tq st'.heap vs=true) :
  ∃v,(results fn a'.tmps).run P c'.w = .ok v c'.w/\aG c'.w (fun b o=>J b o\/(w.heap.size<=b/\b<c'.w.heap.size)) (fV ds) v:=by
 have hk:Keeps c'.w c'.w (Imm c') (fun b o=>J b o\/(w.heap.size<=b/\b<c'.w.heap.size)):=by
  intro b o hi;refine ⟨?_,rfl⟩
  rcases hi with ⟨h1,hi⟩|⟨hi1,hi2,_⟩
  ·exact hJ b o h1 hi
  ·exact .inr ⟨Z3 fun h=>hi1 (.inl (by rw [hB];exact h)),hi2⟩
 obtain ⟨us,f1,f2⟩:=rT (P:=P) e5 hres g1;rw [<- e5.heap] at g2 g3;have k1:=vg e5.hrel hk (fun b o h1 h2=>.inr ⟨Z3 fun h=>h1 (.inl (by rw [hB];exact h)),h2⟩) g2 g3 f2;refine ⟨_,mW f1,?_⟩;have hl:=k1.length
 match ds,k1,hl with
 | [],k1,hl=>simp [aQ] at k1;subst k1;exact ⟨[],by simp,rfl⟩
 | [d],k1,hl=>
  obtain ⟨u,us',rfl,h1,h2⟩:=k1;simp [aQ] at h2;subst h2;simpa [fV] using h1
 | d::d'::r,k1,hl=>
  rw [dif_neg (by simp at hl ⊢;omega)];exact ⟨us,rfl,k1⟩
def Rb (w:World) (J:Nat->Nat->Prop) (r:Dat) (e:Ending) (w' : World):Prop:=∃v,e = .returned v/\aG w' (fun b o=>J b o\/(w.heap.size<=b/\b<w'.heap.size)) r v/\Below w.heap.size w w'
theorem Vd {fn:Func} {res:List iK} {J:Nat->Nat->Prop} {w:World} {y:Code} {pol:Pol} {m:bE} {rr:Dat} (hres:fO P fn.results.toList=some res) (hc:comp P n pol y=some m) {D:Nat} (r:Rel c c.w n gs st a) (hd:a.defers=[])
  (hB:c.B=w.heap.size) (hX:c.J0.X D) (hXB:∀b,c.J0.X b->w.heap.size<=b) (hJ:∀b o,c.J0.J b o->J b o\/c.J0.X b) (hD:c.w.heap[D]? = some (.deferred (some []))) (hbel:Below w.heap.size w c.w)
  (h:WT P (Ih res rr) (exec m st Tree.done)):Code.wp P y (bodyPostM Fence.wide 0 P fn (Rb w J rr)) { a with defers:={ target:=.collected D,args:=#[] }::a.defers } c.w:=by
 have hex:=kN (tailW P [{ target:=.collected D,args:=#[] }]) y m hc (.inl rfl) Tree.done c st a r h;have e' : Code.wp P y (CP [{ target:=.collected D,args:=#[] }] (Came P (Ih res rr) Tree.done c c.w n gs)) (jC [{ target:=.collected D,args:=#[] }] a) c.w:=hex;have ea:jC [{ target:=.collected D,args:=#[] }] a={ a with defers:={ target:=.collected D,args:=#[] }::a.defers }:=by unfold jC;rw [hd];rfl
 rw [ea] at e';refine Go.wp_mono e' ?_;clear hex e';rintro ex a2 w2 ⟨a0,rfl,c',me,st',e1,e2,rfl,e4,e5,e6⟩;simp only [WT] at e6;obtain ⟨g1,g2,vs',ds,g3,g4,g5,rfl⟩:=e6;have hXD:c'.J0.X D:=by rw [e2];exact hX
 have hD2:c'.w.heap[D]? = some (.deferred (some [])):=(e5.hrel.other D hXD).2.trans hD;have hBD:c'.B<=D:=by rw [e1,hB];exact hXB D hX
 have e7:=e5.Q9 (o':=.deferred none) hXD hBD hD2 rfl rfl;have hsz:(c'.w.putObj D (.deferred none)).heap.size=c'.w.heap.size:=by simp [World.putObj]
 obtain ⟨v,hv1,hv2⟩:=K0 (P:=P) (w:=w) (J:=J) e7 hres (e1.trans hB) (by
  intro b o h1 h2
  rcases hJ b o (by rw [<- e2];exact h2) with h3|h3
  ·exact .inl h3
  ·refine .inr ⟨hXB b h3,?_⟩
   show b<(c'.w.putObj D (.deferred none)).heap.size;rw [hsz];have:=(e5.hrel.other b (by rw [e2];exact h3)).1;exact Zm this e5.hrel.below.size) g3 g4 g5
 have Wv:Below w.heap.size w (c'.w.putObj D (.deferred none)):=by
  have:=e5.hrel.below;rw [e1,hB] at this;exact (hbel.trans this).trans (mY (by rw [<- hB,<- e1];exact hBD))
 have hdf:a0.defers=[]:=by have:=e5.defers;rw [g2] at this;exact this
 have key:LeavesInM Fence.wide 0 P fn (jC [{ target:=.collected D,args:=#[] }] a0).tmps (Rb w J (fV ds)) (jC [{ target:=.collected D,args:=#[] }] a0).defers .returning c'.w:=by
  unfold jC;rw [hdf];exact ⟨by simp,.inl ⟨D,_,rfl,run_takeDeferred hD2,v,hv1,v,rfl,hv2,Wv⟩⟩
 cases ex with
 | normal=>exact key
 | ret=>exact key
 | exit id=>cases me<;>simp only [bu] at e4;simp at g1
 | goto l=>cases me<;>simp only [bu] at e4
 | panic ch=>cases me<;>simp only [bu] at e4;simp at g1
 | outgrown=>cases me<;>simp only [bu] at e4
theorem K3 {f:FuncId} {res:List iK} {code:Code} {args:List Dat} {rr:Dat} (hf:JA P f n res code) (hn:args.length<=n)
  (h:∀(fn:Func) (w:World) (J:Nat->Nat->Prop) (c:Cx) (a:Act),fO P fn.results.toList=some res->c.B=w.heap.size->c.J0=⟨J,fun _=>False⟩->c.w=w->a.defers=[]->Rel c w n Fr.none (pI args) a->Code.wp P code (bodyPostM Fence.wide 0 P fn (Rb w J rr)) a w):Ret P f args rr:=by
 obtain ⟨fn,h1,h2,h3,h4⟩:=hf;intro w J vs hG hrel;refine (callsIn_wide (n:=0)).1 (callsIn_of_wp_marks h1 h2 trivial ?_ rfl);rw [h3];exact wpIn_wide.2 (h fn w J _ _ h4 rfl rfl rfl rfl (Rel.init hG hrel hn))
end
end Uw
namespace Uw
open Go
variable [Glob]
def Rf (ρ:Nat->Nat) (H h0:Heap):Nat->List Blk->Prop
 | _,[]=>True
 | i,b'::r=>((∃b,look H (ρ i)=some b/\pW ρ H h0 b b')\/(look H (ρ i)=none/\ja b'))/\Rf ρ H h0 (i+1) r
theorem NN {ρ:Nat->Nat} {H h0:Heap}:∀{bs:List Blk} {i:Nat},Rf ρ H h0 i bs->∀j b',look (aM i bs) j=some b'->(∃b,look H (ρ j)=some b/\pW ρ H h0 b b')\/(look H (ρ j)=none/\ja b')
 | [],_,_,j,b',h=>by simp [aM,look] at h
 | b0::r,i,⟨h1,h2⟩,j,b',h=>by
  rw [aM,aE] at h;by_cases e:i=j
  ·subst e
   rw [if_pos rfl] at h;injection h with h;subst h;exact h1
  ·rw [if_neg e] at h
   exact NN h2 j b' h
theorem Ww {P:Program} {Q:az->St->Prop} {f:FuncId} {vs vs0:List V} {H:Heap} {nx:Nat} {k:Res->Heap->Nat->Tree} {bs:List Blk} {R0:Res->Heap->Nat->Prop} (ids:List Nat) (hs:bN P f vs0 (aM 0 bs) bs.length R0)
  (hm:Nat.ble ids.length bs.length=true) (KY:(ids.all fun a=>Nat.blt a nx)=true) (hnd:zA ids=true) (hfit:Rf (nameOf ids nx) H (aM 0 bs) 0 bs) (hvs:VWL (nameOf ids nx) H (aM 0 bs) vs vs0)
  (h2:∀r0 h0 n0,R0 r0 h0 n0->WT P Q (k (r0.ren (nameOf ids nx)) (vj (nameOf ids nx) h0++H) (nx+(n0 - ids.length)))):WT P Q (.sub f vs H nx k):=by
 refine ax (bN.frame hs ids (Y0 hm) (fun a ha=>by have:=YW.1 KY a ha;simpa using this) (CN hnd) (NN hfit) hvs) ?_;rintro r h n ⟨r0,h0,n0,h1,rfl,rfl,rfl⟩;exact h2 r0 h0 n0 h1
def eM (P:Program) (f:FuncId) (vs:List V) (bs:List Blk) (r:V) (bs' : List Blk):Prop:=bN P f vs (aM 0 bs) bs.length fun r' h n=>r' = .val r/\h=aM 0 bs'/\n=bs'.length
section
variable {P : Program} {Q : az -> St -> Prop} {f : FuncId} {vs vs0 : List V} {H : Heap} {k : Res -> Heap -> Nat -> Tree} {bs bs' : List Blk} {v : V} {d : Dat}
theorem eE (nx:Nat) (ids:List Nat) (hs:eM P f vs0 bs v bs')
  (h2:WT P Q (k (.val (v.ren (nameOf ids nx))) (vj (nameOf ids nx) (aM 0 bs')++H) (nx+(bs'.length - ids.length))))
  (hm:Nat.ble ids.length bs.length=true:=by rfl) (KY:(ids.all fun a=>Nat.blt a nx)=true:=by rfl) (hnd:zA ids=true:=by rfl)
  (hfit:Rf (nameOf ids nx) H (aM 0 bs) 0 bs:=by
   repeat' first
    | exact trivial
    | refine And.intro (Or.inl ⟨_,rfl,⟨rfl,rfl⟩⟩) ?_
    | refine And.intro (Or.inl ⟨_,rfl,⟨rfl,rfl,rfl⟩⟩) ?_
    | refine And.intro (Or.inl ⟨_,rfl,?_⟩) ?_
    | refine And.intro (Or.inr ⟨rfl,rfl⟩) ?_
    | refine And.intro (Or.inr ⟨rfl,rfl,rfl⟩) ?_
    | exact Eh (by first|with_reducible rfl|assumption|omega)
    | exact Ik (by first|with_reducible rfl|assumption|omega|(simp;done)|(simp;omega)) rfl rfl
    | exact Or.inl ⟨rfl,rfl⟩
    | exact Or.inr (Or.inl ⟨rfl,by first|exact ⟨_,_,_,rfl,rfl,Or.inl rfl⟩|exact ⟨_,_,_,rfl,rfl,Or.inr rfl⟩⟩)
    | refine And.intro ?_ ?_)
  (hvs:VWL (nameOf ids nx) H (aM 0 bs) vs vs0:=by
   repeat' first
    | exact trivial
    | refine And.intro (Eh (by first|with_reducible rfl|assumption|omega)) ?_
    | refine And.intro (Or.inl ⟨rfl,rfl⟩) ?_
    | refine And.intro (Or.inr (Or.inl ⟨rfl,by first|exact ⟨_,_,_,rfl,rfl,Or.inl rfl⟩|exact ⟨_,_,_,rfl,rfl,Or.inr rfl⟩⟩)) ?_):WT P Q (.sub f vs H nx k):=by
 refine Ww ids hs hm KY hnd hfit hvs ?_;rintro r0 h0 n0 ⟨rfl,rfl,rfl⟩;exact h2
theorem bN.Wx {P:Program} {f:FuncId} {vs:List V} {h:Heap} {nx:Nat} {R0 R:Res->Heap->Nat->Prop} (hs:bN P f vs h nx R0)
  (hq:∀r h0 n0,R0 r h0 n0->∃v v' h1 n1,r = .val v/\Weak ⟨[(0,v)],h0,n0,[],nx⟩ ⟨[(0,v')],h1,n1,[],nx⟩/\R (.val v') h1 n1):bN P f vs h nx R:=by
 refine ⟨hs.1,fun c w0 F gvs h1 h2 h3 h4 h5=>(hs.2 c w0 F gvs h1 h2 h3 h4 h5).mono ?_⟩;rintro e w' ⟨c',r,nx',e1,e2,e3,e4,e5,e6,e7,e8⟩;obtain ⟨v,v',h1',n1,rfl,hw,hr⟩:=hq _ _ _ e8
 cases e with
 | returned gv=>
  have r0:Rel c' w0 1 F ⟨[(0,v)],c'.heap,nx',[],nx⟩ { tmps:=#[gv],defers:=[] }:=by
   refine ⟨rfl,e4,rfl,?_,e6,h3,e5,rfl⟩;intro i u hu;rw [aE] at hu;by_cases hi:0=i
   ·subst hi
    rw [if_pos rfl] at hu;injection hu with hu;subst hu
    exact e7
   ·rw [if_neg hi] at hu;simp [look] at hu
  obtain ⟨c2,k1,k2,k3,k4,k5⟩:=r0.weak hw;refine ⟨c2,.val v',n1,k1.trans e1,k2.trans e2,k3.trans e3,k5.hrel,k5.base,k5.frames,?_,by rw [k5.heap];exact hr⟩;have:=k5.regs 0 v' (by simp [aE]);show aD c2 v' gv;simpa using this
 | panicked ch=>exact e7.elim
 | outgrown=>exact e7.elim
def EQ (b:Nat) (res:List iK) (v:V) (bs' : List Blk) (e:az) (st:St):Prop:=(e = .normal\/e = .ret)/\st.defers=[]/\∃vs,resV st res=some vs/\Weak ⟨[(0,pX vs)],st.heap,st.next,[],b⟩ ⟨[(0,v)],aM 0 bs',bs'.length,[],b⟩
theorem dB {m:oK} (hf:jc P f m) (hn:Nat.ble vs.length m.n=true) (hw:WT P (EQ bs.length m.res v bs') (exec m.code ⟨dG 0 vs,aM 0 bs,bs.length,[],bs.length⟩ Tree.done)):eM P f vs bs v bs':=by
 refine bN.Wx (R0:=fun r h n=>∃u,r = .val u/\Weak ⟨[(0,u)],h,n,[],bs.length⟩ ⟨[(0,v)],aM 0 bs',bs'.length,[],bs.length⟩) (qG hf hn (WT.mono ?_ _ hw)) ?_
 ·rintro e st ⟨he,hd,vs,hr,hw⟩
  refine ⟨st,.inl rfl,?_⟩
  rcases he with rfl|rfl<;>exact ⟨hd,vs,hr,_,rfl,hw⟩
 ·rintro r h0 n0 ⟨u,rfl,hw⟩
  exact ⟨u,v,_,_,rfl,hw,rfl,rfl,rfl⟩
theorem dc (b:Nat) {res:List iK} {vs' : List V} {st:St} (hd:st.defers=[]) (hr:resV st res=some vs') (hw:Weak ⟨[(0,pX vs')],st.heap,st.next,[],b⟩ ⟨[(0,v)],aM 0 bs',bs'.length,[],b⟩):WT P (EQ b res v bs') (.done .ret st):=⟨.inr rfl,hd,vs',hr,hw⟩
theorem vm (b:Nat) {res:List iK} {vs' : List V} {st:St} (hd:st.defers=[]) (hr:resV st res=some vs') (hw:Weak ⟨[(0,pX vs')],st.heap,st.next,[],b⟩ ⟨[(0,v)],aM 0 bs',bs'.length,[],b⟩):WT P (EQ b res v bs') (.done .normal st):=⟨.inl rfl,hd,vs',hr,hw⟩
end
end Uw
namespace Uw
open Go Go.RowKit
variable [Glob]
theorem Iu {ids:List Nat} {nx j:Nat} (hj:j<nx) (hn:ids.contains j=false) (i:Nat):nameOf ids nx i≠j:=by
 intro e
 rcases ZG i ids.length with h|h
 ·have:=vk (nx:=nx) h
  rw [e] at this;rw [List.contains_eq_mem] at hn;simp at hn;exact hn this
 ·rw [mX h] at e
  omega
theorem Weak.rest {ids:List Nat} {nx:Nat} {h0 H H' : Heap} {n n' : Nat} {regs Td : jm} {ds:List V} {b:Nat} (hR:∀p∈Td,look regs p.1=some p.2/\p.2.closed H' = true/\p.2=p.2.ren (cY [])) (hH:∀p∈H',p.1<n'/\p.1<nx/\ids.contains p.1=false/\look H p.1=look H' p.1/\p.2.closed H' = true/\p.2=p.2.ren (cY []))
  (hc:eb H' ds=true) (hd:ds=nL (cY []) ds) (hb:b=0):Weak ⟨regs,vj (nameOf ids nx) h0++H,n,ds,b⟩ ⟨Td,H',n',ds,b⟩:=by
 have hl:∀{α:Type} (l:List (Nat×α)) (i:Nat) (x:α),look l i=some x->(i,x)∈l:=by
  intro α l
  induction l with
  | nil=>intro i x h;simp [look] at h
  | cons p l ih=>
   intro i x h;obtain ⟨j,y⟩:=p;rw [aE] at h;by_cases e:j=i
   ·subst e;rw [if_pos rfl] at h;injection h with h;subst h;exact List.mem_cons_self ..
   ·rw [if_neg e] at h;exact aaD _ (ih i x h)
 refine ⟨cY [],?_,?_,?_,rfl,?_,?_,fun _ _ _ _ e=>e,hc,?_⟩
 ·intro i v' h
  obtain ⟨h1,h2,h3⟩:=hR _ (hl _ _ _ h);exact ⟨v',h1,.inl ⟨h3,h2⟩⟩
 ·intro id b' h
  obtain ⟨_,h2,h3,h4,h5,h6⟩:=hH _ (hl _ _ _ h);refine .inl ⟨b',?_,qK h6 h5⟩;show look (vj (nameOf ids nx) h0++H) id=_;rw [kZ,jB (Iu h2 h3)];show look H id=_;rw [h4,h]
 ·intro id x h
  exact (hH _ (hl _ _ _ h)).1
 ·subst hb;exact ZN _
 ·subst hb;intro id h;exact absurd h (Nat.not_lt_zero _)
 ·exact hd
section
variable {P : Program} {Q : az -> St -> Prop} {f : FuncId} {vs vs0 : List V} {H : Heap} {k : Res -> Heap -> Nat -> Tree} {bs bs' : List Blk} {v : V} {d : Dat}
end
end Uw
namespace Uw
open Go
variable [Glob]
end Uw
namespace Uw
open Go
structure Ev where
 F:FuncId->List Dat->Option Dat
 L:bE->St->Option (az×St)
 S:FuncId->List V->Heap->Nat->Option (V×Heap×Nat)
variable [Glob]
structure YK (P:Program) (E:Ev):Prop where
 F:∀f ds r,E.F f ds=some r->Ret P f ds r
 L:∀m st e st',E.L m st=some (e,st')->e≠.normal/\∃N,∀Q:az->St->Prop,Q e st'->Rounds P m Q N st
 S:∀f vs h nx v h' n',E.S f vs h nx=some (v,h',n')->bN P f vs h nx fun r h2 n2=>r = .val v/\h2=h'/\n2=n'
def NP (P:Program):List (Nat×oK)->Prop
 | []=>True
 | (f,m)::r=>jc P f m/\NP P r
theorem JB {P:Program}:∀{tab:List (Nat×oK)},NP P tab->∀f m,look tab f=some m->jc P f m
 | [],_,_,_,h=>by cases h
 | (g,a)::r,⟨h1,h2⟩,f,m,h=>by
  rw [aE] at h
  split at h
  ·rename_i e
   injection h with h
   rw [<- e,<- h];exact h1
  ·exact JB h2 f m h
end Uw
namespace Uw
open Go Go.RowKit
variable [Glob]
section
variable {c : Cx} {w0 : World} {nx : Nat} {J : Nat -> Nat -> Prop} (hh : cz c w0 nx) (hk : Keeps c.w c.w (Imm c) J)
include hh hk
def frz (h h' : Heap):List V->Option (List Dat)
 | []=>some []
 | .d x::r=>(frz h h' r).map (x::·)
 | .ref id ver off len::r=>match look h id,look h' id,frz h h' r with
  | some (.arr k xs),_,some l=>some (.slice k ((xs.drop off).take len) false::l)
  | some (.mt k c8 xs),none,some l=>match Nat.beq ver c8 with
   | true=>some (.slice k ((xs.drop off).take len) false::l)
   | false=>none
  | _,_,_=>none
 | _=>none
theorem yO {h' : Heap} (hnew:∀id k ver xs,look c.heap id=some (.mt k ver xs)->look h' id=none->0<(c.pl id).cap->∀o,J (c.pl id).gb o):∀{vs:List V} {ds:List Dat} {us:List Value},frz c.heap h' vs=some ds->aC c vs us->aQ c.w J ds us
 | [],ds,us,h,r=>by simp [frz] at h;subst h;simpa [aQ,aC] using r
 | v::vs,ds,us,h,r=>by
  obtain ⟨u,us',rfl,r1,r2⟩:=r;unfold frz at h
  split at h
  ·rename_i heq;simp at heq
  ·rename_i x rr heq
   simp only [Zu] at heq;obtain ⟨rfl,rfl⟩:=heq;rw [Pe] at h;obtain ⟨l,hl,rfl⟩:=h;exact ⟨u,us',rfl,aG.keep hk _ _ r1,yO hnew hl r2⟩
  ·rename_i id ver off len rr heq
   simp only [Zu] at heq;obtain ⟨rfl,rfl⟩:=heq
   split at h
   ·rename_i k xs _ l hl1 hl2
    simp at h;subst h;exact ⟨u,us',rfl,aG.keep hk _ _ (sW hl1 r1),yO hnew hl2 r2⟩
   ·rename_i k c8 xs l hl1 hl2 hl3
    split at h
    ·rename_i hb
     simp at h;subst h;have hb:=wt hb;subst hb;exact ⟨u,us',rfl,Nb hh hk hl1 (hnew _ _ _ _ hl1 hl2) r1,yO hnew hl3 r2⟩
    ·simp at h
   ·simp at h
  ·simp at h
end
mutual
theorem NQ:∀v:V,v.ren (cY [])=v
 | .ptr id o=>rfl
 | .kV id v i c=>rfl
 | .ref id v o l=>rfl
 | .agg cs=>by rw [V.ren,nw cs]
 | .func f fs cs=>by rw [V.ren,nw fs,nw cs]
 | .tuple cs=>by rw [V.ren,nw cs]
 | .d x=>rfl
 | .ro cs o=>rfl
 | .hnd id=>rfl
 | .row id len=>rfl
 | .undef=>rfl
theorem nw:∀l:List V,nL (cY []) l=l
 | []=>rfl
 | v::r=>by rw [nL,NQ v,nw r]
end
theorem bN.freeze {P:Program} {f:FuncId} {vs:List V} {h:Heap} {nx:Nat} {R0 R:Res->Heap->Nat->Prop} (hs:bN P f vs h nx R0)
  (hq:∀r h0 n0,R0 r h0 n0->∃cs ds h1 n1,r = .val (.agg cs)/\frz h0 h1 cs=some ds/\(∀id x,look h1 id=some x->look h0 id=some x/\x.closed h1=true/\id<n1)/\nx<=n1/\(∀id,id<nx->(look h0 id).isSome=true->(look h1 id).isSome=true)/\R (.val (.agg (ds.map V.d))) h1 n1):bN P f vs h nx R:=by
 refine ⟨hs.1,fun c w0 F gvs h1 h2 h3 h4 h5=>(hs.2 c w0 F gvs h1 h2 h3 h4 h5).mono ?_⟩;rintro e w' ⟨c',r,nx',e1,e2,e3,e4,e5,e6,e7,e8⟩;obtain ⟨cs,ds,h1',n1,rfl,hd,hw,hn1,hkp,hr⟩:=hq _ _ _ e8
 cases e with
 | returned gv=>
  obtain ⟨us,rfl,e7⟩:=e7;have r0:Rel c' w0 0 F ⟨[],c'.heap,nx',[],nx⟩ { tmps:=#[],defers:=[] }:=
   ⟨rfl,e4,rfl,fun i v hv=>by simp [look] at hv,e6,h3,e5,rfl⟩
  have hwr:x5 (cY []) ⟨[],c'.heap,nx',[],nx⟩ ⟨[],h1',n1,[],nx⟩:=by
   refine ⟨fun i v hv=>by simp [look] at hv,fun i x hx=>.inl ⟨x,(hw i x hx).1,qK ?_ (hw i x hx).2.1⟩,fun i x hx=>(hw i x hx).2.2,rfl,hn1,fun id hid=>⟨rfl,hkp id hid⟩,fun id id' _ _ he=>he,rfl,rfl⟩
   cases x with
   | var cs=>show Blk.var cs=Blk.var (nL (cY []) cs);rw [nw]
   | _=>rfl
  have r1:=r0.Nl hwr;have hs' : ∀id b',look h1' id=some b'->(∃b,look c'.heap (cY [] id)=some b/\pW (cY []) c'.heap h1' b b')\/(look c'.heap (cY [] id)=none/\ja b'):=hwr.heap;refine ⟨c'.weak (cY []) h1',.val (.agg (ds.map V.d)),n1,e1,e2,e3,r1.hrel,hn1,r1.frames,?_,hr⟩;refine ⟨us,rfl,aC.ofL ?_⟩;refine yO (c:=c') e4 (iJ hs') ?_ hd e7;intro id k ver xs hl hl1 hcap o;refine .inr ⟨e4.ge id _ hl hcap,e4.i6 hl hcap,fun id2 Ve g1 g2 g3=>?_⟩;exfalso;obtain ⟨k1,_,_⟩:=hw id2 Ve g1;have hp:(c'.weak (cY []) h1').pl id2=c'.pl id2:=fm hs' k1;rw [hp] at g2 g3;have:=e4.inj id2 id Ve _ k1 hl g2 hcap g3;subst this;have g1:look h1' id2=some Ve:=g1;rw [hl1] at g1;cases g1
 | panicked ch=>exact e7.elim
 | outgrown=>exact e7.elim
end Uw
namespace Uw
open Go
mutual
def Dat.eqb:Dat->Dat->Bool
 | .bool a,.bool b=>a == b
 | .int k a,.int k' b=>decide (k=k')&&decide (a=b)
 | .str a,.str b=>decide (a=b)
 | .nil,.nil=>true
 | .slice k xs z,.slice k' ys z'=>Nat.beq k k'&&(z == z')&&zB xs ys
 | .agg xs,.agg ys=>F7 xs ys
 | .func f,.func g=>Nat.beq f g
 | .nilFunc,.nilFunc=>true
 | .nilIface,.nilIface=>true
 | .nilPtr,.nilPtr=>true
 | .qu,.qu=>true
 | .iface t d,.iface t' d'=>Nat.beq t t'&&d.eqb d'
 | .tuple xs,.tuple ys=>F7 xs ys
 | _,_=>false
def F7:List Dat->List Dat->Bool
 | [],[]=>true
 | x::r,y::r'=>x.eqb y&&F7 r r'
 | _,_=>false
def zB:List (List Dat)->List (List Dat)->Bool
 | [],[]=>true
 | x::r,y::r'=>F7 x y&&zB r r'
 | _,_=>false
end
mutual
def Dat.leb:Dat->Dat->Bool
 | .nil,.slice _ [] false=>true
 | .slice k xs _,.slice k' ys false=>Nat.beq k k'&&CS xs ys
 | .agg xs,.agg ys=>zC xs ys
 | .tuple xs,.tuple ys=>zC xs ys
 | x,y=>x.eqb y
def zC:List Dat->List Dat->Bool
 | [],[]=>true
 | x::r,y::r'=>x.leb y&&zC r r'
 | _,_=>false
def CS:List (List Dat)->List (List Dat)->Bool
 | [],[]=>true
 | x::r,y::r'=>zC x y&&CS r r'
 | _,_=>false
end
mutual
theorem Dat.jv:∀(x y:Dat),x.eqb y=true->x=y
 | .bool a,y,h=>by cases y<;>simp [Dat.eqb] at h;rw [h]
 | .int k a,y,h=>by cases y<;>simp [Dat.eqb] at h;rw [h.1,h.2]
 | .str a,y,h=>by cases y<;>simp [Dat.eqb] at h;rw [h]
 | .nil,y,h=>by cases y<;>simp [Dat.eqb] at h;rfl
 | .slice k xs z,y,h=>by
  cases y<;>simp [Dat.eqb] at h
  rw [h.1.1,h.1.2,vn xs _ h.2]
 | .agg xs,y,h=>by
  cases y<;>simp [Dat.eqb] at h
  rw [vo xs _ h]
 | .func f,y,h=>by cases y<;>simp [Dat.eqb] at h;rw [h]
 | .nilFunc,y,h=>by cases y<;>simp [Dat.eqb] at h;rfl
 | .nilIface,y,h=>by cases y<;>simp [Dat.eqb] at h;rfl
 | .nilPtr,y,h=>by cases y<;>simp [Dat.eqb] at h;rfl
 | .qu,y,h=>by cases y<;>simp [Dat.eqb] at h;rfl
 | .iface t d,y,h=>by
  cases y<;>simp [Dat.eqb] at h
  rw [h.1,Dat.jv d _ h.2]
 | .tuple xs,y,h=>by
  cases y<;>simp [Dat.eqb] at h
  rw [vo xs _ h]
theorem vo:∀(x y:List Dat),F7 x y=true->x=y
 | [],y,h=>by cases y<;>simp [F7] at h;rfl
 | a::r,y,h=>by
  cases y<;>simp [F7] at h
  rw [Dat.jv a _ h.1,vo r _ h.2]
theorem vn:∀(x y:List (List Dat)),zB x y=true->x=y
 | [],y,h=>by cases y<;>simp [zB] at h;rfl
 | a::r,y,h=>by
  cases y<;>simp [zB] at h
  rw [vo a _ h.1,vn r _ h.2]
end
mutual
def V.eqb:V->V->Bool
 | .d x,.d y=>x.eqb y
 | .ptr a b,.ptr c d=>Nat.beq a c&&Nat.beq b d
 | .ro a b,.ro c d=>F7 a c&&Nat.beq b d
 | .kV a b c d,.kV a' b' c' d'=>Nat.beq a a'&&Nat.beq b b'&&Nat.beq c c'&&Nat.beq d d'
 | .ref a b c d,.ref a' b' c' d'=>Nat.beq a a'&&Nat.beq b b'&&Nat.beq c c'&&Nat.beq d d'
 | .agg a,.agg b=>Br a b
 | .func f a b,.func g c d=>Nat.beq f g&&Br a c&&Br b d
 | .tuple a,.tuple b=>Br a b
 | .hnd a,.hnd b=>Nat.beq a b
 | .row a b,.row c d=>Nat.beq a c&&Nat.beq b d
 | .undef,.undef=>true
 | _,_=>false
def Br:List V->List V->Bool
 | [],[]=>true
 | x::r,y::r'=>x.eqb y&&Br r r'
 | _,_=>false
end
mutual
theorem V.jv:∀(x y:V),x.eqb y=true->x=y
 | .d x,y,h=>by
  cases y<;>simp [V.eqb] at h
  rw [Dat.jv x _ h]
 | .ptr a b,y,h=>by cases y<;>simp [V.eqb] at h;rw [h.1,h.2]
 | .ro a b,y,h=>by cases y<;>simp [V.eqb] at h;rw [vo a _ h.1,h.2]
 | .kV a b c d,y,h=>by cases y<;>simp [V.eqb] at h;rw [h.1.1.1,h.1.1.2,h.1.2,h.2]
 | .ref a b c d,y,h=>by cases y<;>simp [V.eqb] at h;rw [h.1.1.1,h.1.1.2,h.1.2,h.2]
 | .agg a,y,h=>by
  cases y<;>simp [V.eqb] at h
  rw [qM a _ h]
 | .func f a b,y,h=>by
  cases y<;>simp [V.eqb] at h
  rw [h.1.1,qM a _ h.1.2,qM b _ h.2]
 | .tuple a,y,h=>by
  cases y<;>simp [V.eqb] at h
  rw [qM a _ h]
 | .hnd a,y,h=>by cases y<;>simp [V.eqb] at h;rw [h]
 | .row a b,y,h=>by cases y<;>simp [V.eqb] at h;rw [h.1,h.2]
 | .undef,y,h=>by cases y<;>simp [V.eqb] at h;rfl
theorem qM:∀(x y:List V),Br x y=true->x=y
 | [],y,h=>by cases y<;>simp [Br] at h;rfl
 | a::r,y,h=>by
  cases y<;>simp [Br] at h
  rw [V.jv a _ h.1,qM r _ h.2]
end
def K4:Option V->Option V->Bool
 | none,none=>true
 | some x,some y=>x.eqb y
 | _,_=>false
theorem Es:∀{x y:Option V},K4 x y=true->x=y
 | none,none,_=>rfl
 | some x,some y,h=>by rw [V.jv x y h]
 | none,some _,h=>by cases h
 | some _,none,h=>by cases h
def K5:List (oJ×Dat)->List (oJ×Dat)->Bool
 | [],[]=>true
 | (k,x)::r,(k',y)::r'=>decide (k=k')&&x.eqb y&&K5 r r'
 | _,_=>false
theorem JC:∀(x y:List (oJ×Dat)),K5 x y=true->x=y
 | [],y,h=>by cases y<;>simp [K5] at h;rfl
 | (k,a)::r,y,h=>by
  cases y with
  | nil=>simp [K5] at h
  | cons b s=>
   obtain ⟨k',b⟩:=b;simp only [K5,i9,decide_eq_true_eq] at h;rw [h.1.1,Dat.jv a b h.1.2,JC r s h.2]
def Blk.eqb:Blk->Blk->Bool
 | .var a,.var b=>Br a b
 | .arr k xs,.arr k' ys=>Nat.beq k k'&&zB xs ys
 | .mt k v xs,.mt k' v' ys=>Nat.beq k k'&&Nat.beq v v'&&zB xs ys
 | .iter s n,.iter s' n'=>decide (s=s')&&Nat.beq n n'
 | .map k es,.map k' es'=>decide (k=k')&&K5 es es'
 | _,_=>false
theorem Blk.jv:∀(x y:Blk),x.eqb y=true->x=y
 | .var a,y,h=>by
  cases y<;>simp [Blk.eqb] at h
  rw [qM a _ h]
 | .arr k a,y,h=>by
  cases y<;>simp [Blk.eqb] at h
  rw [h.1,vn a _ h.2]
 | .mt k v a,y,h=>by
  cases y<;>simp [Blk.eqb] at h
  rw [h.1.1,h.1.2,vn a _ h.2]
 | .iter s n,y,h=>by cases y<;>simp [Blk.eqb] at h;rw [h.1,h.2]
 | .map k es,y,h=>by
  cases y<;>simp [Blk.eqb] at h
  rw [h.1,JC es _ h.2]
def JD (ρ:Nat->Nat) (st:jm):jm->Bool
 | []=>true
 | (i,v)::r=>K4 (look st i) (some (v.ren ρ))&&JD ρ st r
theorem F8 {ρ:Nat->Nat} {st:jm}:∀{r:jm},JD ρ st r=true->r.map (fun p=>look st p.1)=r.map (fun p=>some (p.2.ren ρ))
 | [],_=>rfl
 | (i,v)::r,h=>by
  simp only [JD,i9] at h;rw [ZD,ZD,F8 h.2,Es h.1]
def JE (ρ:Nat->Nat) (h:Heap):Heap->Bool
 | []=>true
 | (i,b)::r=>(match look h (ρ i) with|some b'=>b'.eqb (b.ren ρ)|none=>false)&&JE ρ h r
theorem F9 {ρ:Nat->Nat} {h:Heap}:∀{r:Heap},JE ρ h r=true->r.map (fun p=>look h (ρ p.1))=r.map (fun p=>some (p.2.ren ρ))
 | [],_=>rfl
 | (i,b)::r,e=>by
  simp only [JE,i9] at e;obtain ⟨e1,e2⟩:=e
  split at e1
  ·rename_i b' hb
   rw [ZD,ZD,F9 e2,hb,Blk.jv _ _ e1]
  ·cases e1
def NR (l:List (Nat×Nat)) (st st' : St):Bool:=
 JD (cY l) st.regs st'.regs&&(st'.regs.all fun p=>p.2.closed st'.heap)&&JE (cY l) st.heap st'.heap&&(st'.heap.all fun p=>p.2.closed st'.heap&&Nat.blt p.1 st'.next)
 &&Nat.beq st'.base st.base&&Nat.ble st.base st'.next&&F3 (cY l) st.heap st'.heap st.base&&wS (cY l) (Ii st'.heap)&&eb st'.heap st'.defers&&Br st.defers (nL (cY l) st'.defers)
def hasK {α:Type} (i:Nat):List (Nat×α)->Bool
 | []=>false
 | (j,_)::r=>Nat.beq i j||hasK i r
def once {α:Type}:List (Nat×α)->List (Nat×α)->List (Nat×α)
 | acc,[]=>acc
 | acc,(i,v)::r=>match hasK i acc with|true=>once acc r|false=>once ((i,v)::acc) r
def tidy (st:St):St:={ st with regs:=once [] st.regs,heap:=once [] st.heap }
mutual
def Tf:V->V->List (Nat×Nat)
 | .ptr a _,.ptr b _=>[(a,b)]
 | .ref a _ _ _,.ref b _ _ _=>[(a,b)]
 | .hnd a,.hnd b=>[(a,b)]
 | .row a _,.row b _=>[(a,b)]
 | .func _ a b,.func _ c d=>uy a c++uy b d
 | .agg a,.agg b=>uy a b
 | .tuple a,.tuple b=>uy a b
 | _,_=>[]
def uy:List V->List V->List (Nat×Nat)
 | x::r,y::r'=>Tf x y++uy r r'
 | _,_=>[]
end
def Ti (st:jm):jm->List (Nat×Nat)
 | []=>[]
 | (i,v)::r=>(match look st i with|some v'=>Tf v v' | none=>([]:List (Nat×Nat)))++Ti st r
def isN:az->Bool
 | .normal=>true
 | _=>false
def Wy:Option Blk->Option Blk->List (Nat×Nat)
 | some (.var a),some (.var b)=>uy a b
 | _,_=>[]
def NT (h h' : Heap):Nat->List (Nat×Nat)->List (Nat×Nat)->List (Nat×Nat)
 | 0,_,seen=>seen
 | _+1,[],seen=>seen
 | n+1,(a,b)::w,seen=>match hasK a seen with
  | true=>NT h h' n w seen
  | false=>NT h h' n (Wy (look h a) (look h' b)++w) ((a,b)::seen)
def Tj (s s' : St):List (Nat×Nat):=NT s.heap s'.heap 3000 (Ti s'.regs s.regs++uy s.defers s'.defers) []
def reached (st:St):St:=
 let s:=tidy st
 { s with heap:=s.heap.filter fun p=>Nat.blt p.1 s.base||hasK p.1 (Tj s s) }
def NU:List (az×St)->Option (az×St)
 | [x]=>some x
 | x::r=>match (x::r).all fun y=>isN y.1&&NR (Tj (reached x.2) y.2) y.2 (reached x.2) with
  | true=>some (.normal,reached x.2)
  | false=>none
 | []=>none
structure Rk where
 F:FuncId->List Dat->Option Dat
 L:bE->St->Option (az×St)
 R:Nat->List DOp->St->Option (az×St)
 S:FuncId->List V->Heap->Nat->Option (Res×Heap×Nat)
 D:FuncId->List V->Heap->Nat->Option Dat->Option (Heap×Nat)
noncomputable def rkT (E:Rk) (t:Tree):Option (az×St):=
 Tree.rec (motive:=fun _=>Option (az×St))
  (fun e st=>some (e,st))
  none
  (fun b _ _ y n=>match b with|true=>y|false=>n)
  (fun _ _ _ _=>none)
  (fun x y _ n=>match K4 x y with|true=>n|false=>none)
  (fun xs i _ k=>match xs[i]? with|some x=>k x|none=>none)
  (fun s i _ k=>match s[i]? with|some x=>k x|none=>none)
  (fun o _ k=>match o with|some x=>k x|none=>none)
  (fun o _ k=>match o with|some x=>k x|none=>none)
  (fun o _ k=>match o with|some x=>k x|none=>none)
  (fun h _ k=>k h)
  (fun f ds _ k=>match E.F f ds with|some r=>k r|none=>none)
  (fun f vs h nx _ k=>match E.S f vs h nx with|some x=>k x.1 x.2.1 x.2.2|none=>none)
  (fun c st _ k=>match c with
   | .loop m=>match E.L m st with|some x=>k x.1 x.2|none=>none
   | .draw n l=>match E.R n l st with|some x=>k x.1 x.2|none=>none
   | _=>none)
  t
noncomputable def rkB (E:Rk) (t:Tree):Option (List (az×St)):=
 Tree.rec (motive:=fun _=>Option (List (az×St)))
  (fun e st=>some [(e,st)])
  none
  (fun b _ _ y n=>match b with|true=>y|false=>n)
  (fun _ _ y n=>match y,n with|some a,some b=>some (a++b)|_,_=>none)
  (fun x y _ n=>match K4 x y with|true=>n|false=>none)
  (fun xs i _ k=>match xs[i]? with|some x=>k x|none=>none)
  (fun s i _ k=>match s[i]? with|some x=>k x|none=>none)
  (fun o _ k=>match o with|some x=>k x|none=>none)
  (fun o _ k=>match o with|some x=>k x|none=>none)
  (fun o _ k=>match o with|some x=>k x|none=>none)
  (fun h _ k=>k h)
  (fun f ds _ k=>match E.F f ds with|some r=>k r|none=>none)
  (fun f vs h nx _ k=>match E.S f vs h nx with|some x=>k x.1 x.2.1 x.2.2|none=>none)
  (fun c st _ k=>match c with
   | .loop m=>match E.L m st with|some x=>k x.1 x.2|none=>none
   | .draw n l=>match E.R n l st with|some x=>k x.1 x.2|none=>none
   | _=>none)
  t
def vp (res:List iK) (st:St):Option Dat:=
 match resV st res with
 | some vs=>match fE st.heap vs,tq st.heap vs with
  | some ds,true=>some (fV ds)
  | _,_=>none
 | none=>none
def JF (E:Rk) (res:List iK) (x:az×St):Option Dat:=
 match x.2.defers with
 | []=>match x.1 with
  | .ret=>vp res x.2
  | .normal=>vp res x.2
  | _=>none
 | [.func g fs cs]=>match x.1 with
  | .ret=>match E.D g (fs++cs) x.2.heap x.2.next none with
   | some y=>vp res { x.2 with heap:=y.1,next:=y.2 }
   | none=>none
  | .normal=>match E.D g (fs++cs) x.2.heap x.2.next none with
   | some y=>vp res { x.2 with heap:=y.1,next:=y.2 }
   | none=>none
  | .panic d=>match E.D g (fs++cs) x.2.heap x.2.next (some d) with
   | some y=>vp res { x.2 with heap:=y.1,next:=y.2 }
   | none=>none
  | _=>none
 | _=>none
def CU (res:List iK) (x:az×St):Option (Res×Heap×Nat):=
 match x.2.defers with
 | []=>match x.1 with
  | .ret=>match resV x.2 res with|some vs=>some (.val (pX vs),x.2.heap,x.2.next)|none=>none
  | .normal=>match resV x.2 res with|some vs=>some (.val (pX vs),x.2.heap,x.2.next)|none=>none
  | .panic d=>some (.pan d,x.2.heap,x.2.next)
  | _=>none
 | _=>none
def Rh (nx:Nat) (x:Res×Heap×Nat):Option (Res×Heap×Nat):=
 let h1:=(once [] x.2.1).filter fun p=>Nat.blt p.1 nx
 match x.1 with
 | .val (.agg cs)=>match frz x.2.1 h1 cs,(h1.all fun p=>(match look x.2.1 p.1 with|some b=>b.eqb p.2|none=>false)&&p.2.closed h1&&Nat.blt p.1 x.2.2)&&Nat.ble nx x.2.2&&(x.2.1.all fun p=>!Nat.blt p.1 nx||hasK p.1 h1) with
  | some ds,true=>some (.val (.agg (ds.map V.d)),h1,x.2.2)
  | _,_=>none
 | _=>none
noncomputable def Vf (orc:FuncId->List Dat->Option Dat) (orS:FuncId->List V->Heap->Nat->Option (Res×Heap×Nat)) (tab:List (Nat×oK)) (qN:List (Nat×yx)) (fz:List Nat) (E:Rk):Rk where
 F:=fun f ds=>match orc f ds with
  | some r=>some r
  | none=>match look tab f with
   | some m=>match Nat.ble ds.length m.n with
    | true=>match rkT E (exec m.code (pI ds) Tree.done) with
     | some x=>JF E m.res x
     | none=>none
    | false=>none
   | none=>none
 L:=fun m st=>match rkT E (exec m st Tree.done) with
  | some (.normal,st')=>E.L m st'
  | r=>r
 R:=fun n l st=>match rkB E (tI l (keepR l st.regs) n [] [] st Tree.done) with
  | some xs=>NU xs
  | none=>none
 S:=fun f vs h nx=>match orS f vs h nx with
  | some x=>some x
  | none=>match look tab f with
  | some m=>match Nat.ble vs.length m.n with
   | true=>match rkT E (exec m.code ⟨dG 0 vs,h,nx,[],nx⟩ Tree.done) with
    | some x=>match pR fz f with
     | true=>match CU m.res x with|some y=>Rh nx y|none=>none
     | false=>CU m.res x
    | none=>none
   | false=>none
  | none=>none
 D:=fun g vs h nx mode=>match look qN g with
  | some m=>match Nat.ble vs.length m.n with
   | true=>match rkT E (Jy m (put (some m.t) (.d (CG mode)) ⟨dG 0 vs,h,nx,[],nx⟩) Tree.done) with
    | some (.ret,st)=>match st.defers with|[]=>some (st.heap,st.next)|_=>none
    | some (.normal,st)=>match st.defers with|[]=>some (st.heap,st.next)|_=>none
    | _=>none
   | false=>none
  | none=>none
noncomputable def rkN (orc:FuncId->List Dat->Option Dat) (orS:FuncId->List V->Heap->Nat->Option (Res×Heap×Nat)) (tab:List (Nat×oK)) (qN:List (Nat×yx)) (fz:List Nat) (n:Nat):Rk:=
 Nat.rec (motive:=fun _=>Rk) ⟨fun _ _=>none,fun _ _=>none,fun _ _ _=>none,fun _ _ _ _=>none,fun _ _ _ _ _=>none⟩ (fun _ E=>Vf orc orS tab qN fz E) n
variable [Glob]
theorem NV {l:List (Nat×Nat)} {st st' : St} (h:NR l st st' = true):Weak st st':=by
 simp only [NR,i9] at h;obtain ⟨⟨⟨⟨⟨⟨⟨⟨⟨h1,h2⟩,h3⟩,h4⟩,h5⟩,h6⟩,h7⟩,h8⟩,h9⟩,h10⟩:=h;exact Weak.eqs l (F8 h1) h2 (F9 h3) h4 (wt h5) h6 h7 h8 h9 (qM _ _ h10)
theorem DLe.jD {x y:Dat} (h:x.eqb y=true):DLe x y:=Dat.jv x y h ▸ .refl x
mutual
theorem Dat.Vg:∀(x y:Dat),x.leb y=true->DLe x y
 | .slice k xs z,y,h=>by
  cases y with
  | slice k' ys z'=>
   cases z' with
   | false=>
    simp only [Dat.leb,i9] at h;rw [wt h.1];exact .slice (Ge xs ys h.2)
   | true=>exact DLe.jD (by simpa [Dat.leb] using h)
  | _=>exact DLe.jD (by simpa [Dat.leb] using h)
 | .agg xs,y,h=>by
  cases y with
  | agg ys=>exact .agg (qO xs ys (by simpa [Dat.leb] using h))
  | _=>exact DLe.jD (by simpa [Dat.leb] using h)
 | .tuple xs,y,h=>by
  cases y with
  | tuple ys=>exact .tuple (qO xs ys (by simpa [Dat.leb] using h))
  | _=>exact DLe.jD (by simpa [Dat.leb] using h)
 | .nil,y,h=>by
  cases y with
  | slice k' ys z'=>
   cases z'<;>cases ys<;>first|exact .nil _|(simp [Dat.leb,Dat.eqb] at h;done)
  | _=>exact DLe.jD (by simpa [Dat.leb] using h)
 | .bool a,y,h=>by exact DLe.jD (by cases y<;>simpa [Dat.leb] using h)
 | .int k a,y,h=>by exact DLe.jD (by cases y<;>simpa [Dat.leb] using h)
 | .str a,y,h=>by exact DLe.jD (by cases y<;>simpa [Dat.leb] using h)
 | .func a,y,h=>by exact DLe.jD (by cases y<;>simpa [Dat.leb] using h)
 | .nilFunc,y,h=>by exact DLe.jD (by cases y<;>simpa [Dat.leb] using h)
 | .nilIface,y,h=>by exact DLe.jD (by cases y<;>simpa [Dat.leb] using h)
 | .nilPtr,y,h=>by exact DLe.jD (by cases y<;>simpa [Dat.leb] using h)
 | .qu,y,h=>by exact DLe.jD (by cases y<;>simpa [Dat.leb] using h)
 | .iface t d,y,h=>by exact DLe.jD (by cases y<;>simpa [Dat.leb] using h)
theorem qO:∀(x y:List Dat),zC x y=true->vi x y
 | [],y,h=>by cases y<;>simp [zC] at h;exact .refl _
 | a::r,y,h=>by
  cases y with
  | nil=>simp [zC] at h
  | cons b s=>
   simp only [zC,i9] at h;exact .cons (Dat.Vg a b h.1) (qO r s h.2)
theorem Ge:∀(x y:List (List Dat)),CS x y=true->Eg x y
 | [],y,h=>by cases y<;>simp [CS] at h;exact .refl _
 | a::r,y,h=>by
  cases y with
  | nil=>simp [CS] at h
  | cons b s=>
   simp only [CS,i9] at h;exact .cons (qO a b h.1) (Ge r s h.2)
end
structure Ri (P:Program) (E:Rk):Prop where
 F:∀f ds r,E.F f ds=some r->Ret P f ds r
 L:∀m st e st',E.L m st=some (e,st')->e≠.normal/\∃N,∀Q:az->St->Prop,Q e st'->Rounds P m Q N st
 R:∀n l st e st',E.R n l st=some (e,st')->∀Q:az->St->Prop,Q e st'->H5 P (.draw n l) st Q
 S:∀f vs h nx r h' n',E.S f vs h nx=some (r,h',n')->bN P f vs h nx fun r2 h2 n2=>r2=r/\h2=h'/\n2=n'
 D:∀f vs h nx mode h' n',E.D f vs h nx mode=some (h',n')->tr P f vs h nx mode fun h2 n2=>h2=h'/\n2=n'
theorem wZ {P:Program} {E:Rk} (hE:Ri P E) {Q:az->St->Prop}:∀(t:Tree) (e:az) (st:St),rkT E t=some (e,st)->Q e st->WT P Q t:=by
 intro t
 induction t with
 | done e0 st0=>
  intro e st h hq;injection h with h
  injection h with h1 h2
  subst h1 h2;exact hq
 | fail=>intro e st h _;cases h
 | test b y n hy hn=>
  intro e st h hq
  cases b with
  | true=>exact ah rfl (hy e st h hq)
  | false=>exact aR rfl (hn e st h hq)
 | both=>intro e st h _;cases h
 | same x y n ih=>
  intro e st h hq
  cases hx:K4 x y with
  | true=>simp only [rkT,hx] at h;exact aO (Es hx) (ih e st h hq)
  | false=>simp only [rkT,hx] at h;cases h
 | elem xs i k ih=>
  intro e st h hq
  cases hx:xs[i]? with
  | none=>simp only [rkT,hx] at h;cases h
  | some x=>simp only [rkT,hx] at h;exact au x hx (ih x e st h hq)
 | byte xs i k ih=>
  intro e st h hq
  cases hx:xs[i]? with
  | none=>simp only [rkT,hx] at h;cases h
  | some x=>simp only [rkT,hx] at h;exact yJ x hx (ih x e st h hq)
 | val o k ih=>
  intro e st h hq
  cases o with
  | none=>cases h
  | some x=>exact Ns x rfl (ih x e st h hq)
 | blk o k ih=>
  intro e st h hq
  cases o with
  | none=>cases h
  | some x=>exact Ef x rfl (ih x e st h hq)
 | A7 o k ih=>
  intro e st h hq
  cases o with
  | none=>cases h
  | some x=>exact yK x rfl (ih x e st h hq)
 | heq hh k ih=>intro e st h hq;exact Jv (ih hh e st h hq)
 | call f ds k ih=>
  intro e st h hq
  cases hx:E.F f ds with
  | none=>simp only [rkT,hx] at h;cases h
  | some x=>simp only [rkT,hx] at h;exact aK x (hE.F f ds x hx) (ih x e st h hq)
 | sub f vs hh nx k ih=>
  intro e st h hq
  cases hx:E.S f vs hh nx with
  | none=>simp only [rkT,hx] at h;cases h
  | some x=>
   obtain ⟨v,h',n'⟩:=x;simp only [rkT,hx] at h;refine ax (hE.S f vs hh nx v h' n' hx) ?_;rintro r h2 n2 ⟨rfl,rfl,rfl⟩;exact ih r h2 n2 e st h hq
 | code c st0 k ih=>
  intro e st h hq
  cases c with
  | loop m=>
   cases hx:E.L m st0 with
   | none=>simp only [rkT,hx] at h;cases h
   | some x=>
    obtain ⟨e1,st1⟩:=x;simp only [rkT,hx] at h;obtain ⟨_,N,hN⟩:=hE.L m st0 e1 st1 hx;exact dO N (hN _ (ih e1 st1 e st h hq))
  | draw n l=>
   cases hx:E.R n l st0 with
   | none=>simp only [rkT,hx] at h;cases h
   | some x=>
    obtain ⟨e1,st1⟩:=x;simp only [rkT,hx] at h;exact qH (hE.R n l st0 e1 st1 hx _ (ih e1 st1 e st h hq))
  | skip=>cases h
  | ops=>cases h
  | seq=>cases h
  | cond=>cases h
  | block=>cases h
  | exit=>cases h
  | ret=>cases h
theorem Vh {P:Program} {E:Rk} (hE:Ri P E) {Q:az->St->Prop}:∀(t:Tree) (xs:List (az×St)),rkB E t=some xs->(∀x∈xs,Q x.1 x.2)->WT P Q t:=by
 intro t
 induction t with
 | done e0 st0=>
  intro xx h hq;injection h with h
  subst h;exact hq _ (aam.2 rfl)
 | fail=>intro xx h _;cases h
 | test b y n hy hn=>
  intro xx h hq
  cases b with
  | true=>exact ah rfl (hy xx h hq)
  | false=>exact aR rfl (hn xx h hq)
 | both y n hy hn=>
  intro xx h hq
  cases ha:rkB E y with
  | none=>simp only [rkB] at h ha;rw [ha] at h;cases h
  | some a=>cases hb:rkB E n with
   | none=>simp only [rkB] at h ha hb;rw [ha,hb] at h;cases h
   | some b=>
    have h:(match rkB E y,rkB E n with|some a,some b=>some (a++b)|_,_=>none)=some xx:=h;rw [ha,hb] at h;injection h with h
    subst h;exact vh (hy a ha fun x hx=>hq x (Za.2 (.inl hx))) (hn b hb fun x hx=>hq x (Za.2 (.inr hx)))
 | same x y n ih=>
  intro xx h hq
  cases hx:K4 x y with
  | true=>simp only [rkB,hx] at h;exact aO (Es hx) (ih xx h hq)
  | false=>simp only [rkB,hx] at h;cases h
 | elem xs i k ih=>
  intro xx h hq
  cases hx:xs[i]? with
  | none=>simp only [rkB,hx] at h;cases h
  | some x=>simp only [rkB,hx] at h;exact au x hx (ih x xx h hq)
 | byte xs i k ih=>
  intro xx h hq
  cases hx:xs[i]? with
  | none=>simp only [rkB,hx] at h;cases h
  | some x=>simp only [rkB,hx] at h;exact yJ x hx (ih x xx h hq)
 | val o k ih=>
  intro xx h hq
  cases o with
  | none=>cases h
  | some x=>exact Ns x rfl (ih x xx h hq)
 | blk o k ih=>
  intro xx h hq
  cases o with
  | none=>cases h
  | some x=>exact Ef x rfl (ih x xx h hq)
 | A7 o k ih=>
  intro xx h hq
  cases o with
  | none=>cases h
  | some x=>exact yK x rfl (ih x xx h hq)
 | heq hh k ih=>intro xx h hq;exact Jv (ih hh xx h hq)
 | call f ds k ih=>
  intro xx h hq
  cases hx:E.F f ds with
  | none=>simp only [rkB,hx] at h;cases h
  | some x=>simp only [rkB,hx] at h;exact aK x (hE.F f ds x hx) (ih x xx h hq)
 | sub f vs hh nx k ih=>
  intro xx h hq
  cases hx:E.S f vs hh nx with
  | none=>simp only [rkB,hx] at h;cases h
  | some x=>
   obtain ⟨v,h',n'⟩:=x;simp only [rkB,hx] at h;refine ax (hE.S f vs hh nx v h' n' hx) ?_;rintro r h2 n2 ⟨rfl,rfl,rfl⟩;exact ih r h2 n2 xx h hq
 | code c st0 k ih=>
  intro xx h hq
  cases c with
  | loop m=>
   cases hx:E.L m st0 with
   | none=>simp only [rkB,hx] at h;cases h
   | some x=>
    obtain ⟨e1,st1⟩:=x;simp only [rkB,hx] at h;obtain ⟨_,N,hN⟩:=hE.L m st0 e1 st1 hx;exact dO N (hN _ (ih e1 st1 xx h hq))
  | draw n l=>
   cases hx:E.R n l st0 with
   | none=>simp only [rkB,hx] at h;cases h
   | some x=>
    obtain ⟨e1,st1⟩:=x;simp only [rkB,hx] at h;exact qH (hE.R n l st0 e1 st1 hx _ (ih e1 st1 xx h hq))
  | skip=>cases h
  | ops=>cases h
  | seq=>cases h
  | cond=>cases h
  | block=>cases h
  | exit=>cases h
  | ret=>cases h
theorem Gf {res:List iK} {st:St} {r:Dat} (h:vp res st=some r):∃vs ds,resV st res=some vs/\fE st.heap vs=some ds/\tq st.heap vs=true/\fV ds=r:=by
 unfold vp at h
 split at h
 ·rename_i vs h1
  split at h
  ·rename_i ds h2 h3
   injection h with h
   exact ⟨vs,ds,h1,h2,h3,h⟩
  ·cases h
 ·cases h
theorem NW {P:Program} {E:Rk} (hE:Ri P E) {res:List iK} {x:az×St} {r:Dat} (h:JF E res x=some r):F5 P res r x.1 x.2:=by
 obtain ⟨e,st⟩:=x;unfold JF at h;simp only at h ⊢
 split at h
 ·rename_i hd
  have key:vp res st=some r->(e = .normal\/e = .ret)->F5 P res r e st:=fun h he=>by
   obtain ⟨vs,ds,h1⟩:=Gf h;exact .inl ⟨he,hd,vs,ds,h1⟩
  cases e with
  | ret=>exact key h (.inr rfl)
  | normal=>exact key h (.inl rfl)
  | exit _=>cases h
  | panic _=>cases h
 ·rename_i g fs cs hd
  have key:∀mode,((e = .normal\/e = .ret)/\mode=none\/∃d,e = .panic d/\mode=some d)->(match E.D g (fs++cs) st.heap st.next mode with|some y=>vp res { st with heap:=y.1,next:=y.2 }|none=>none)=some r->F5 P res r e st:=fun mode hm h=>by
   split at h
   ·rename_i y hy
    obtain ⟨h',n'⟩:=y;obtain ⟨vs,ds,h1⟩:=Gf h;refine .inr ⟨mode,g,fs,cs,hm,hd,tr.mono (hE.D g (fs++cs) st.heap st.next mode h' n' hy) ?_⟩;rintro _ _ ⟨rfl,rfl⟩;exact ⟨vs,ds,h1⟩
   ·cases h
  cases e with
  | ret=>exact key none (.inl ⟨.inr rfl,rfl⟩) h
  | normal=>exact key none (.inl ⟨.inl rfl,rfl⟩) h
  | exit _=>cases h
  | panic d=>exact key (some d) (.inr ⟨d,rfl,rfl⟩) h
 ·cases h
theorem Gg {res:List iK} {x:az×St} {v:Res} {h' : Heap} {n' : Nat} (h:CU res x=some (v,h',n')):Ed res (fun r h2 n2=>r=v/\h2=h'/\n2=n') x.1 x.2:=by
 obtain ⟨e,st⟩:=x;unfold CU at h;simp only at h ⊢
 split at h
 ·rename_i hd
  cases e with
  | exit _=>cases h
  | panic d=>
   injection h with h
   injection h with h1 h2
   injection h2 with h2 h3
   exact ⟨hd,h1,h2,h3⟩
  | ret=>
   simp only at h
   split at h
   ·rename_i vs hv
    injection h with h
    injection h with h1 h2
    injection h2 with h2 h3
    exact ⟨hd,vs,hv,h1,h2,h3⟩
   ·cases h
  | normal=>
   simp only at h
   split at h
   ·rename_i vs hv
    injection h with h
    injection h with h1 h2
    injection h2 with h2 h3
    exact ⟨hd,vs,hv,h1,h2,h3⟩
   ·cases h
 ·cases h
theorem CV {α:Type} {i:Nat}:∀{l:List (Nat×α)},hasK i l=true->(look l i).isSome=true
 | [],h=>by cases h
 | (j,a)::r,h=>by
  rw [aE]
  split
  ·rfl
  ·rename_i hne
   rw [hasK,Zl] at h
   rcases h with h|h
   ·exact absurd (wt h).symm hne
   ·exact CV h
theorem Rj {P:Program} {f:FuncId} {vs:List V} {h:Heap} {nx:Nat} {r1:Res} {h1:Heap} {n1:Nat} (hs:bN P f vs h nx fun r h2 n2=>r=r1/\h2=h1/\n2=n1) {v:Res} {h' : Heap} {n' : Nat} (e:Rh nx (r1,h1,n1)=some (v,h',n')):bN P f vs h nx fun r h2 n2=>r=v/\h2=h'/\n2=n':=by
 refine hs.freeze ?_;rintro _ _ _ ⟨rfl,rfl,rfl⟩;unfold Rh at e;simp only at e
 split at e
 ·rename_i cs
  split at e
  ·rename_i ds hfr hb
   injection e with e
   injection e with e1 e2
   injection e2 with e2 e3
   rw [i9,i9] at hb;obtain ⟨⟨b1,b2⟩,b3⟩:=hb;subst e3;rw [e2] at hfr b1 b3;refine ⟨cs,ds,h',_,rfl,hfr,?_,Y0 b2,?_,e1,rfl,rfl⟩
   ·intro id x hx
    have hm:=YW.1 b1 (id,x) (qa hx);rw [i9,i9] at hm;obtain ⟨⟨m1,m2⟩,m3⟩:=hm;refine ⟨?_,m2,by simpa using m3⟩
    split at m1
    ·rename_i b hb
     have e:b=x:=Blk.jv _ _ m1;rw [<- e];exact hb
    ·cases m1
   ·intro id hid hs
    obtain ⟨x,hx⟩:=aa9.1 hs;have hm:=YW.1 b3 (id,x) (qa hx);rw [Zl] at hm
    rcases hm with hm|hm
    ·simp only [ZC] at hm
     have:Nat.blt id nx=true:=by simpa using hid
     rw [this] at hm;cases hm
    ·exact CV hm
  ·cases e
 ·cases e
theorem NY {P:Program} {orc:FuncId->List Dat->Option Dat} {orS:FuncId->List V->Heap->Nat->Option (Res×Heap×Nat)} {tab:List (Nat×oK)} {qN:List (Nat×yx)} {fz:List Nat} (ho:∀f ds r,orc f ds=some r->Ret P f ds r) (hos:∀f vs h nx r h' n',orS f vs h nx=some (r,h',n')->bN P f vs h nx fun r2 h2 n2=>r2=r/\h2=h'/\n2=n') (ht:∀f m,look tab f=some m->jc P f m) (hd:∀f m,look qN f=some m->tO P f m):∀n,Ri P (rkN orc orS tab qN fz n)
 | 0=>⟨fun _ _ _ h=>(by cases h),fun _ _ _ _ h=>(by cases h),fun _ _ _ _ _ h=>(by cases h),fun _ _ _ _ _ _ _ h=>(by cases h),fun _ _ _ _ _ _ _ h=>(by cases h)⟩
 | n+1=>by
  have ih:=NY (fz:=fz) ho hos ht hd n;refine ⟨fun f ds r h=>?_,fun m st e st' h=>?_,fun k l st e st' h Q hq=>?_,fun f vs hh nx v h' n' h=>?_,fun f vs hh nx mode h' n' h=>?_⟩
  ·have h:(match orc f ds with
    | some r=>some r
    | none=>match look tab f with
     | some m=>match Nat.ble ds.length m.n with
      | true=>match rkT (rkN orc orS tab qN fz n) (exec m.code (pI ds) Tree.done) with
       | some x=>JF (rkN orc orS tab qN fz n) m.res x
       | none=>none
      | false=>none
     | none=>none)=some r:=h
   split at h
   ·rename_i r' hr
    injection h with h
    exact ho f ds r (by rw [hr,h])
   ·split at h
    ·rename_i m hm
     split at h
     ·rename_i hn
      split at h
      ·rename_i x hx
       exact qJ (ht f m hm) hn (wZ ih _ x.1 x.2 hx (NW ih h))
      ·cases h
     ·cases h
    ·cases h
  ·have h:(match rkT (rkN orc orS tab qN fz n) (exec m st Tree.done) with
    | some (.normal,st')=>(rkN orc orS tab qN fz n).L m st'
    | r=>r)=some (e,st'):=h
   split at h
   ·rename_i st2 hx
    obtain ⟨h1,N,hN⟩:=ih.L m st2 e st' h;exact ⟨h1,N+1,fun Q hq=>wZ ih _ _ _ hx (hN Q hq)⟩
   ·rename_i r hne
    have hx:=h;have hen:e≠.normal:=fun e1=>hne st' (by rw [hx,e1]);refine ⟨hen,1,fun Q hq=>wZ ih _ _ _ hx ?_⟩
    cases e with
    | normal=>exact absurd rfl hen
    | exit j=>exact hq
    | ret=>exact hq
    | panic d=>exact hq
  ·have h:(match rkB (rkN orc orS tab qN fz n) (tI l (keepR l st.regs) k [] [] st Tree.done) with
    | some xs=>NU xs
    | none=>none)=some (e,st'):=h
   split at h
   ·rename_i xs hx
    refine sZ (Vh ih _ xs hx ?_);unfold NU at h
    split at h
    ·rename_i x
     injection h with h
     rintro y hy;rw [aam.1 hy,h];exact ⟨st',.inl rfl,hq⟩
    ·rename_i x r _
     split at h
     ·rename_i hall
      injection h with h
      injection h with h1 h2
      subst h1 h2;rintro ⟨ey,sy⟩ hy;have hh:=YW.1 hall _ hy;rw [i9] at hh
      cases ey with
      | normal=>exact ⟨_,.inr (NV hh.2),hq⟩
      | exit _=>cases hh.1
      | ret=>cases hh.1
      | panic _=>cases hh.1
     ·cases h
    ·cases h
   ·cases h
  ·have h:(match orS f vs hh nx with
    | some x=>some x
    | none=>match look tab f with
    | some m=>match Nat.ble vs.length m.n with
     | true=>match rkT (rkN orc orS tab qN fz n) (exec m.code ⟨dG 0 vs,hh,nx,[],nx⟩ Tree.done) with
      | some x=>match pR fz f with
       | true=>match CU m.res x with|some y=>Rh nx y|none=>none
       | false=>CU m.res x
      | none=>none
     | false=>none
    | none=>none)=some (v,h',n'):=h
   split at h
   ·rename_i x hx
    injection h with h
    subst h;exact hos f vs hh nx v h' n' hx
   ·split at h
    ·rename_i m hm
     split at h
     ·rename_i hn
      split at h
      ·rename_i x hx
       split at h
       ·split at h
        ·rename_i y hy
         obtain ⟨r1,h1,n1⟩:=y;exact Rj (yL (ht f m hm) hn (wZ ih _ x.1 x.2 hx (Gg hy))) h
        ·cases h
       ·exact yL (ht f m hm) hn (wZ ih _ x.1 x.2 hx (Gg h))
      ·cases h
     ·cases h
    ·cases h
  ·have h:(match look qN f with
    | some m=>match Nat.ble vs.length m.n with
     | true=>match rkT (rkN orc orS tab qN fz n) (Jy m (put (some m.t) (.d (CG mode)) ⟨dG 0 vs,hh,nx,[],nx⟩) Tree.done) with
      | some (.ret,st)=>match st.defers with|[]=>some (st.heap,st.next)|_=>none
      | some (.normal,st)=>match st.defers with|[]=>some (st.heap,st.next)|_=>none
      | _=>none
     | false=>none
    | none=>none)=some (h',n'):=h
   have key:∀m e st,look qN f=some m->Nat.ble vs.length m.n=true->rkT (rkN orc orS tab qN fz n) (Jy m (put (some m.t) (.d (CG mode)) ⟨dG 0 vs,hh,nx,[],nx⟩) Tree.done)=some (e,st)->(e = .normal\/e = .ret)->(match st.defers with|[]=>some (st.heap,st.next)|_=>none)=some (h',n')->tr P f vs hh nx mode fun h2 n2=>h2=h'/\n2=n':=by
    intro m e st hm hn hx he h
    split at h
    ·rename_i hdd
     injection h with h
     injection h with h1 h2
     exact jA (hd f m hm) hn (wZ ih _ e st hx ⟨he,hdd,h1,h2⟩)
    ·cases h
   split at h
   ·rename_i m hm
    split at h
    ·rename_i hn
     split at h
     ·rename_i st hx
      exact key m _ st hm hn hx (.inr rfl) h
     ·rename_i st hx
      exact key m _ st hm hn hx (.inl rfl) h
     ·cases h
    ·cases h
   ·cases h
def NZ (P:Program):List (Nat×yx)->Prop
 | []=>True
 | (f,m)::r=>tO P f m/\NZ P r
theorem JG {P:Program}:∀{tab:List (Nat×yx)},NZ P tab->∀f m,look tab f=some m->tO P f m
 | [],_,_,_,h=>by cases h
 | (g,a)::r,⟨h1,h2⟩,f,m,h=>by
  rw [aE] at h
  split at h
  ·rename_i e
   injection h with h
   rw [<- e,<- h];exact h1
  ·exact JG h2 f m h
theorem Vi {P:Program} {orc:FuncId->List Dat->Option Dat} {orS:FuncId->List V->Heap->Nat->Option (Res×Heap×Nat)} {tab:List (Nat×oK)} {qN:List (Nat×yx)} {fz:List Nat} (n:Nat) (ho:∀f ds r,orc f ds=some r->Ret P f ds r) (hos:∀f vs h nx r h' n',orS f vs h nx=some (r,h',n')->bN P f vs h nx fun r2 h2 n2=>r2=r/\h2=h'/\n2=n') (ht:∀f m,look tab f=some m->jc P f m) (hd:∀f m,look qN f=some m->tO P f m) {f:FuncId} {ds:List Dat} {r:Dat} (h:(rkN orc orS tab qN fz n).F f ds=some r):Ret P f ds r:=(NY ho hos ht hd n).F f ds r h
end Uw
namespace Uw
open Go Go.RowKit
section
variable {P : Program} [Glob] {Q : az -> St -> Prop} {t t' : Tree}
end
end Uw
