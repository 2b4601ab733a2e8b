/- Y4: Uzi Uzb Uzc Uzk Uzl Uzm Uzd (merged by merge2.py from the working texts). -/
import Derived.Test.YtkmkjfkpnmhaiaaGreatDoorY3
set_option linter.unusedSimpArgs false
set_option linter.unnecessarySimpa false
set_option linter.unusedVariables false
set_option linter.unusedSectionVars false
namespace Uw
open Go Go.RowKit
def cL:Code->Code
 | .seq x _=>x
 | .block _ x=>x
 | .loop x=>x
 | .rangeFunc _ _ x _=>x
 | c=>c
def cR:Code->Code
 | .seq _ y=>y
 | .rangeFunc _ _ _ y=>y
 | c=>c
def gC (P:Program) (f:FuncId):Code:=match P.funcs[f]? with
 | some fn=>fn.body.getD .skip
 | none=>.skip
def I7 (P:Program) (f:FuncId) (n:Nat) (res:List gB) (code:Code):Prop:=∃fn,P.funcs[f]? = some fn/\fn.body=some code/\fn.ntmps=n/\g9 P fn.results.toList=some res
variable [Glob]
section
variable {P : Program} {n : Nat} {gs : Fr} {c : Cx} {w0 : World} {st : St} {a : Act} {Q : Exit -> Act -> World -> Prop}
theorem yx {x y:Code} {pol:Pol} {m:bT} (hc:comp P n pol x=some m) (r:Rel c w0 n gs st a) (S1:St) (h:WT P (fun e s=>e = .normal/\Weak s S1) (exec m st Tree.done))
  (next:∀(c' : Cx) (a' : Act),c'.B=c.B->c'.J0=c.J0->Rel c' w0 n gs S1 a'->Code.wp P y Q a' c'.w):Code.wp P (.seq x y) Q a c.w:=by
 refine wp_seq (Go.wp_mono (kh (plainW P) x m hc (.inl rfl) Tree.done c st a r h) ?_);rintro e a' w' ⟨c1,me,st1,b1,j1,rfl,x1,r1,hq⟩;simp only [WT] at hq;obtain ⟨rfl,hw⟩:=hq
 cases e<;>simp only [bE] at x1
 obtain ⟨c2,b2,j2,w2,_,r2⟩:=r1.weak hw;have:=next c2 a' (b2.trans b1) (j2.trans j1) r2;rw [w2] at this;exact this
theorem xE.of {st st' : St} (h1:od (c6 []) st.regs st.heap st'.heap st'.regs) (h2:Mc (c6 []) st.heap st'.heap st'.next st'.heap) (h3:st'.base=st.base) (h4:Nat.ble st.base st'.next=true) (h5:BV (c6 []) st.heap st'.heap st.base)
  (h6:cB st'.heap st'.defers=true) (h7:st.defers=fx (c6 []) st'.defers):xE (c6 []) st st':=
 ⟨fun i v h=>jU h1 i v h,fun i b h=>(jV h2 i b h).1,fun i b h=>(jV h2 i b h).2,h3,XI h4,mG h5,fun id id' _ _ he=>he,h6,h7⟩
theorem Rel.forget (r:Rel c w0 n gs st a) {st' : St} (h:xE (c6 []) st st') {id0:Nat} {cs0:List V} (hid:look st.heap id0=some (.var cs0)) (hno:look st'.heap id0=none) :
  Rel (c.weak (c6 []) st'.heap) w0 n gs st' a/\∀id blk,look (c.weak (c6 []) st'.heap).heap id=some blk->Ph ((c.weak (c6 []) st'.heap).pl id) blk->((c.weak (c6 []) st'.heap).pl id).gb≠(c.pl id0).gb:=by
 refine ⟨r.LZ h,fun id blk hl hp hg=>?_⟩;have hs:∀id b',look st'.heap id=some b'->(∃b,look c.heap (c6 [] id)=some b/\nj (c6 []) c.heap st'.heap b b')\/(look c.heap (c6 [] id)=none/\ja b'):=by rw [r.heap];exact h.heap
 have hl' : look st'.heap id=some blk:=hl
 rcases hs id blk hl' with ⟨b,hb,dH⟩|⟨hn,hz⟩
 ·rw [fH hs hb] at hp hg
  rw [<- r.heap] at hid;have:=r.hrel.inj id id0 b _ hb hid (dH.ph hp) trivial hg;subst this;rw [hno] at hl';cases hl'
 ·rw [rq hs hn] at hp
  cases blk<;>simp [ja,Ph] at hz hp
theorem J8 {c' : Cx} {fn:Func} {res:List gB} {J:Nat->Nat->Prop} {w:World} {st' : St} {a' : Act} (e5:Rel c' w0 n gs st' a') (hres:g9 P fn.results.toList=some res) (hB:c'.B=w.heap.size)
  (hJ:∀b o,c'.Old b->c'.J0.J b o->J b o\/(w.heap.size<=b/\b<c'.w.heap.size))
  {vs:List V} {ds:List Dat} (g1:resV st' res=some vs) (g2:dD st'.heap vs=some ds) (g3:wB st'.heap vs=true) :
  ∃v,(results fn a'.tmps).run P c'.w = .ok v c'.w/\aD c'.w (fun b o=>J b o\/(w.heap.size<=b/\b<c'.w.heap.size)) (jM ds) v:=by
 have hk:Keeps c'.w c'.w (Imm c') (fun b o=>J b o\/(w.heap.size<=b/\b<c'.w.heap.size)):=by
  intro b o hi;refine ⟨?_,rfl⟩
  rcases hi with ⟨h1,hi⟩|⟨hi1,hi2,_⟩
  ·exact hJ b o h1 hi
  ·exact .inr ⟨Zb fun h=>hi1 (.inl (by rw [hB];exact h)),hi2⟩
 obtain ⟨us,f1,f2⟩:=ru (P:=P) e5 hres g1;rw [<- e5.heap] at g2 g3;have k1:=u3 e5.hrel hk (fun b o h1 h2=>.inr ⟨Zb fun h=>h1 (.inl (by rw [hB];exact h)),h2⟩) g2 g3 f2;refine ⟨_,lM f1,?_⟩;have hl:=k1.length
 match ds,k1,hl with
 | [],k1,hl=>simp [aO] at k1;subst k1;exact ⟨[],by simp,rfl⟩
 | [d],k1,hl=>
  obtain ⟨u,us',rfl,h1,h2⟩:=k1;simp [aO] at h2;subst h2;simpa [jM] using h1
 | d::d'::r,k1,hl=>
  rw [dif_neg (by simp at hl ⊢;omega)];exact ⟨us,rfl,k1⟩
def Pz (w:World) (J:Nat->Nat->Prop) (r:Dat) (e:Ending) (w' : World):Prop:=∃v,e = .returned v/\aD w' (fun b o=>J b o\/(w.heap.size<=b/\b<w'.heap.size)) r v/\Below w.heap.size w w'
theorem SJ {fn:Func} {res:List gB} {J:Nat->Nat->Prop} {w:World} {y:Code} {pol:Pol} {m:bT} {rr:Dat} (hres:g9 P fn.results.toList=some res) (hc:comp P n pol y=some m) {D:Nat} (r:Rel c c.w n gs st a) (hd:a.defers=[])
  (hB:c.B=w.heap.size) (hX:c.J0.X D) (hXB:∀b,c.J0.X b->w.heap.size<=b) (hJ:∀b o,c.J0.J b o->J b o\/c.J0.X b) (hD:c.w.heap[D]? = some (.deferred (some []))) (hbel:Below w.heap.size w c.w)
  (h:WT P (Dx res rr) (exec m st Tree.done)):Code.wp P y (bodyPostM Fence.wide 0 P fn (Pz w J rr)) { a with defers:={ target:=.collected D,args:=#[] }::a.defers } c.w:=by
 have hex:=kh (tailW P [{ target:=.collected D,args:=#[] }]) y m hc (.inl rfl) Tree.done c st a r h;have e' : Code.wp P y (B2 [{ target:=.collected D,args:=#[] }] (Came P (Dx res rr) Tree.done c c.w n gs)) (ju [{ target:=.collected D,args:=#[] }] a) c.w:=hex;have ea:ju [{ target:=.collected D,args:=#[] }] a={ a with defers:={ target:=.collected D,args:=#[] }::a.defers }:=by unfold ju;rw [hd];rfl
 rw [ea] at e';refine Go.wp_mono e' ?_;clear hex e';rintro ex a2 w2 ⟨a0,rfl,c',me,st',e1,e2,rfl,e4,e5,e6⟩;simp only [WT] at e6;obtain ⟨g1,g2,vs',ds,g3,g4,g5,rfl⟩:=e6;have hXD:c'.J0.X D:=by rw [e2];exact hX
 have hD2:c'.w.heap[D]? = some (.deferred (some [])):=(e5.hrel.other D hXD).2.trans hD;have hBD:c'.B<=D:=by rw [e1,hB];exact hXB D hX
 have e7:=e5.Py (o':=.deferred none) hXD hBD hD2 rfl rfl;have hsz:(c'.w.putObj D (.deferred none)).heap.size=c'.w.heap.size:=by simp [World.putObj]
 obtain ⟨v,hv1,hv2⟩:=J8 (P:=P) (w:=w) (J:=J) e7 hres (e1.trans hB) (by
  intro b o h1 h2
  rcases hJ b o (by rw [<- e2];exact h2) with h3|h3
  ·exact .inl h3
  ·refine .inr ⟨hXB b h3,?_⟩
   show b<(c'.w.putObj D (.deferred none)).heap.size;rw [hsz];have:=(e5.hrel.other b (by rw [e2];exact h3)).1;exact Yd this e5.hrel.below.size) g3 g4 g5
 have UX:Below w.heap.size w (c'.w.putObj D (.deferred none)):=by
  have:=e5.hrel.below;rw [e1,hB] at this;exact (hbel.trans this).trans (lO (by rw [<- hB,<- e1];exact hBD))
 have hdf:a0.defers=[]:=by have:=e5.defers;rw [g2] at this;exact this
 have key:LeavesInM Fence.wide 0 P fn (ju [{ target:=.collected D,args:=#[] }] a0).tmps (Pz w J (jM ds)) (ju [{ target:=.collected D,args:=#[] }] a0).defers .returning c'.w:=by
  unfold ju;rw [hdf];exact ⟨by simp,.inl ⟨D,_,rfl,run_takeDeferred hD2,v,hv1,v,rfl,hv2,UX⟩⟩
 cases ex with
 | normal=>exact key
 | ret=>exact key
 | exit id=>cases me<;>simp only [bE] at e4;simp at g1
 | goto l=>cases me<;>simp only [bE] at e4
 | panic ch=>cases me<;>simp only [bE] at e4;simp at g1
 | outgrown=>cases me<;>simp only [bE] at e4
theorem J9 {f:FuncId} {res:List gB} {code:Code} {args:List Dat} {rr:Dat} (hf:I7 P f n res code) (hn:args.length<=n)
  (h:∀(fn:Func) (w:World) (J:Nat->Nat->Prop) (c:Cx) (a:Act),g9 P fn.results.toList=some res->c.B=w.heap.size->c.J0=⟨J,fun _=>False⟩->c.w=w->a.defers=[]->Rel c w n Fr.none (kV args) a->Code.wp P code (bodyPostM Fence.wide 0 P fn (Pz w J rr)) a w):Ret P f args rr:=by
 obtain ⟨fn,h1,h2,h3,h4⟩:=hf;intro w J vs hG hrel;refine (callsIn_wide (n:=0)).1 (callsIn_of_wp_marks h1 h2 trivial ?_ rfl);rw [h3];exact wpIn_wide.2 (h fn w J _ _ h4 rfl rfl rfl rfl (Rel.init hG hrel hn))
end
end Uw
namespace Uw
open Go
variable [Glob]
def Ko (ρ:Nat->Nat) (H h0:Heap):Nat->List Blk->Prop
 | _,[]=>True
 | i,b'::r=>((∃b,look H (ρ i)=some b/\nj ρ H h0 b b')\/(look H (ρ i)=none/\ja b'))/\Ko ρ H h0 (i+1) r
theorem MP {ρ:Nat->Nat} {H h0:Heap}:∀{bs:List Blk} {i:Nat},Ko ρ H h0 i bs->∀j b',look (bn i bs) j=some b'->(∃b,look H (ρ j)=some b/\nj ρ H h0 b b')\/(look H (ρ j)=none/\ja b')
 | [],_,_,j,b',h=>by simp [bn,look] at h
 | b0::r,i,⟨h1,h2⟩,j,b',h=>by
  rw [bn,ai] at h;by_cases e:i=j
  ·subst e
   rw [if_pos rfl] at h;injection h with h;subst h;exact h1
  ·rw [if_neg e] at h
   exact MP h2 j b' h
theorem MQ {P:Program} {Q:aB->St->Prop} {f:FuncId} {vs vs0:List V} {H:Heap} {nx:Nat} {k:Res->Heap->Nat->Tree} {bs:List Blk} {R0:Res->Heap->Nat->Prop} (ids:List Nat) (hs:kT P f vs0 (bn 0 bs) bs.length R0)
  (hm:Nat.ble ids.length bs.length=true) (A7:(ids.all fun a=>Nat.blt a nx)=true) (hnd:uf ids=true) (hfit:Ko (nameOf ids nx) H (bn 0 bs) 0 bs) (hvs:VWL (nameOf ids nx) H (bn 0 bs) vs vs0)
  (h2:∀r0 h0 n0,R0 r0 h0 n0->WT P Q (k (r0.ren (nameOf ids nx)) (ue (nameOf ids nx) h0++H) (nx+(n0 - ids.length)))):WT P Q (.sub f vs H nx k):=by
 refine L9 (kT.frame hs ids (XI hm) (fun a ha=>by have:=XL.1 A7 a ha;simpa using this) (B1 hnd) (MP hfit) hvs) ?_;rintro r h n ⟨r0,h0,n0,h1,rfl,rfl,rfl⟩;exact h2 r0 h0 n0 h1
def bh (P:Program) (f:FuncId) (vs:List V) (bs:List Blk) (r:V) (bs' : List Blk):Prop:=kT P f vs (bn 0 bs) bs.length fun r' h n=>r' = .val r/\h=bn 0 bs'/\n=bs'.length
def ku (P:Program) (f:FuncId) (vs:List V) (bs:List Blk) (d:Dat):Prop:=kT P f vs (bn 0 bs) bs.length fun r' h n=>r' = .pan d
section
variable {P : Program} {Q : aB -> St -> Prop} {f : FuncId} {vs vs0 : List V} {H : Heap} {k : Res -> Heap -> Nat -> Tree} {bs bs' : List Blk} {v : V} {d : Dat}
theorem ae (nx:Nat) (ids:List Nat) (hs:bh P f vs0 bs v bs')
  (h2:WT P Q (k (.val (v.ren (nameOf ids nx))) (ue (nameOf ids nx) (bn 0 bs')++H) (nx+(bs'.length - ids.length))))
  (hm:Nat.ble ids.length bs.length=true:=by rfl) (A7:(ids.all fun a=>Nat.blt a nx)=true:=by rfl) (hnd:uf ids=true:=by rfl)
  (hfit:Ko (nameOf ids nx) H (bn 0 bs) 0 bs:=by
   repeat' first
    | exact trivial
    | refine And.intro (Or.inl ⟨_,rfl,⟨rfl,rfl⟩⟩) ?_
    | refine And.intro (Or.inl ⟨_,rfl,⟨rfl,rfl,rfl⟩⟩) ?_
    | refine And.intro (Or.inl ⟨_,rfl,?_⟩) ?_
    | refine And.intro (Or.inr ⟨rfl,rfl⟩) ?_
    | refine And.intro (Or.inr ⟨rfl,rfl,rfl⟩) ?_
    | exact cN (by first|with_reducible rfl|assumption|omega)
    | exact zj (by first|with_reducible rfl|assumption|omega|(simp;done)|(simp;omega)) rfl rfl
    | exact Or.inl ⟨rfl,rfl⟩
    | exact Or.inr (Or.inl ⟨rfl,by first|exact ⟨_,_,rfl,rfl,Or.inl rfl⟩|exact ⟨_,_,rfl,rfl,Or.inr rfl⟩⟩)
    | refine And.intro ?_ ?_)
  (hvs:VWL (nameOf ids nx) H (bn 0 bs) vs vs0:=by
   repeat' first
    | exact trivial
    | refine And.intro (cN (by first|with_reducible rfl|assumption|omega)) ?_
    | refine And.intro (Or.inl ⟨rfl,rfl⟩) ?_
    | refine And.intro (Or.inr (Or.inl ⟨rfl,by first|exact ⟨_,_,rfl,rfl,Or.inl rfl⟩|exact ⟨_,_,rfl,rfl,Or.inr rfl⟩⟩)) ?_):WT P Q (.sub f vs H nx k):=by
 refine MQ ids hs hm A7 hnd hfit hvs ?_;rintro r0 h0 n0 ⟨rfl,rfl,rfl⟩;exact h2
theorem bg (nx:Nat) (ids:List Nat) (hs:ku P f vs0 bs d) (h2:∀h n,WT P Q (k (.pan d) h n))
  (hm:Nat.ble ids.length bs.length=true:=by rfl) (A7:(ids.all fun a=>Nat.blt a nx)=true:=by rfl) (hnd:uf ids=true:=by rfl)
  (hfit:Ko (nameOf ids nx) H (bn 0 bs) 0 bs:=by
   repeat' first
    | exact trivial
    | refine And.intro (Or.inl ⟨_,rfl,⟨rfl,rfl⟩⟩) ?_
    | refine And.intro (Or.inl ⟨_,rfl,⟨rfl,rfl,rfl⟩⟩) ?_
    | refine And.intro (Or.inl ⟨_,rfl,?_⟩) ?_
    | refine And.intro (Or.inr ⟨rfl,rfl⟩) ?_
    | refine And.intro (Or.inr ⟨rfl,rfl,rfl⟩) ?_
    | exact cN (by first|with_reducible rfl|assumption|omega)
    | exact zj (by first|with_reducible rfl|assumption|omega|(simp;done)|(simp;omega)) rfl rfl
    | exact Or.inl ⟨rfl,rfl⟩
    | exact Or.inr (Or.inl ⟨rfl,by first|exact ⟨_,_,rfl,rfl,Or.inl rfl⟩|exact ⟨_,_,rfl,rfl,Or.inr rfl⟩⟩)
    | refine And.intro ?_ ?_)
  (hvs:VWL (nameOf ids nx) H (bn 0 bs) vs vs0:=by
   repeat' first
    | exact trivial
    | refine And.intro (cN (by first|with_reducible rfl|assumption|omega)) ?_
    | refine And.intro (Or.inl ⟨rfl,rfl⟩) ?_
    | refine And.intro (Or.inr (Or.inl ⟨rfl,by first|exact ⟨_,_,rfl,rfl,Or.inl rfl⟩|exact ⟨_,_,rfl,rfl,Or.inr rfl⟩⟩)) ?_):WT P Q (.sub f vs H nx k):=by
 refine MQ ids hs hm A7 hnd hfit hvs ?_;rintro r0 h0 n0 rfl;exact h2 _ _
theorem kT.UY {P:Program} {f:FuncId} {vs:List V} {h:Heap} {nx:Nat} {R0 R:Res->Heap->Nat->Prop} (hs:kT P f vs h nx R0)
  (hq:∀r h0 n0,R0 r h0 n0->∃v v' h1 n1,r = .val v/\Weak ⟨[(0,v)],h0,n0,[],nx⟩ ⟨[(0,v')],h1,n1,[],nx⟩/\R (.val v') h1 n1):kT P f vs h nx R:=by
 refine ⟨hs.1,fun c w0 F gvs h1 h2 h3 h4 h5=>(hs.2 c w0 F gvs h1 h2 h3 h4 h5).mono ?_⟩;rintro e w' ⟨c',r,nx',e1,e2,e3,e4,e5,e6,e7,e8⟩;obtain ⟨v,v',h1',n1,rfl,hw,hr⟩:=hq _ _ _ e8
 cases e with
 | returned gv=>
  have r0:Rel c' w0 1 F ⟨[(0,v)],c'.heap,nx',[],nx⟩ { tmps:=#[gv],defers:=[] }:=by
   refine ⟨rfl,e4,rfl,?_,e6,h3,e5,rfl⟩;intro i u hu;rw [ai] at hu;by_cases hi:0=i
   ·subst hi
    rw [if_pos rfl] at hu;injection hu with hu;subst hu
    exact e7
   ·rw [if_neg hi] at hu;simp [look] at hu
  obtain ⟨c2,k1,k2,k3,k4,k5⟩:=r0.weak hw;refine ⟨c2,.val v',n1,k1.trans e1,k2.trans e2,k3.trans e3,k5.hrel,k5.base,k5.frames,?_,by rw [k5.heap];exact hr⟩;have:=k5.regs 0 v' (by simp [ai]);show ay c2 v' gv;simpa using this
 | panicked ch=>exact e7.elim
 | outgrown=>exact e7.elim
def EQ (b:Nat) (res:List gB) (v:V) (bs' : List Blk) (e:aB) (st:St):Prop:=(e = .normal\/e = .ret)/\st.defers=[]/\∃vs,resV st res=some vs/\Weak ⟨[(0,mD vs)],st.heap,st.next,[],b⟩ ⟨[(0,v)],bn 0 bs',bs'.length,[],b⟩
def PQ (res:List gB) (d:Dat) (e:aB) (st:St):Prop:=∃st',(st' = st\/Weak st st')/\FM res (fun r' h n=>r' = .pan d) e st'
theorem aF {m:bD} (hf:aQ P f m) (hn:Nat.ble vs.length m.n=true) (hw:WT P (EQ bs.length m.res v bs') (exec m.code ⟨ez 0 vs,bn 0 bs,bs.length,[],bs.length⟩ Tree.done)):bh P f vs bs v bs':=by
 refine kT.UY (R0:=fun r h n=>∃u,r = .val u/\Weak ⟨[(0,u)],h,n,[],bs.length⟩ ⟨[(0,v)],bn 0 bs',bs'.length,[],bs.length⟩) (pT hf hn (WT.mono ?_ _ hw)) ?_
 ·rintro e st ⟨he,hd,vs,hr,hw⟩
  refine ⟨st,.inl rfl,?_⟩
  rcases he with rfl|rfl<;>exact ⟨hd,vs,hr,_,rfl,hw⟩
 ·rintro r h0 n0 ⟨u,rfl,hw⟩
  exact ⟨u,v,_,_,rfl,hw,rfl,rfl,rfl⟩
theorem aL {m:bD} (hf:aQ P f m) (hn:Nat.ble vs.length m.n=true) (hw:WT P (PQ m.res d) (exec m.code ⟨ez 0 vs,bn 0 bs,bs.length,[],bs.length⟩ Tree.done)):ku P f vs bs d:=pT hf hn hw
theorem aE (b:Nat) {res:List gB} {vs' : List V} {st:St} (hd:st.defers=[]) (hr:resV st res=some vs') (hw:Weak ⟨[(0,mD vs')],st.heap,st.next,[],b⟩ ⟨[(0,v)],bn 0 bs',bs'.length,[],b⟩):WT P (EQ b res v bs') (.done .ret st):=⟨.inr rfl,hd,vs',hr,hw⟩
theorem c9 (b:Nat) {res:List gB} {vs' : List V} {st:St} (hd:st.defers=[]) (hr:resV st res=some vs') (hw:Weak ⟨[(0,mD vs')],st.heap,st.next,[],b⟩ ⟨[(0,v)],bn 0 bs',bs'.length,[],b⟩):WT P (EQ b res v bs') (.done .normal st):=⟨.inl rfl,hd,vs',hr,hw⟩
theorem aM {res:List gB} {st:St} (hd:st.defers=[]):WT P (PQ res d) (.done (.panic d) st):=⟨st,.inl rfl,hd,rfl⟩
end
end Uw
namespace Uw
open Go Go.RowKit
variable [Glob]
theorem HT {ids:List Nat} {nx j:Nat} (hj:j<nx) (hn:ids.contains j=false) (i:Nat):nameOf ids nx i≠j:=by
 intro e
 rcases XR i ids.length with h|h
 ·have:=u9 (nx:=nx) h
  rw [e] at this;rw [List.contains_eq_mem] at hn;simp at hn;exact hn this
 ·rw [lN h] at e
  omega
theorem Weak.rest {ids:List Nat} {nx:Nat} {h0 H H' : Heap} {n n' : Nat} {regs Q6 : fk} {ds:List V} {b:Nat} (hR:∀p∈Q6,look regs p.1=some p.2/\p.2.closed H' = true/\p.2=p.2.ren (c6 [])) (hH:∀p∈H',p.1<n'/\p.1<nx/\ids.contains p.1=false/\look H p.1=look H' p.1/\p.2.closed H' = true/\p.2=p.2.ren (c6 []))
  (hc:cB H' ds=true) (hd:ds=fx (c6 []) ds) (hb:b=0):Weak ⟨regs,ue (nameOf ids nx) h0++H,n,ds,b⟩ ⟨Q6,H',n',ds,b⟩:=by
 have hl:∀{α:Type} (l:List (Nat×α)) (i:Nat) (x:α),look l i=some x->(i,x)∈l:=by
  intro α l
  induction l with
  | nil=>intro i x h;simp [look] at h
  | cons p l ih=>
   intro i x h;obtain ⟨j,y⟩:=p;rw [ai] at h;by_cases e:j=i
   ·subst e;rw [if_pos rfl] at h;injection h with h;subst h;exact YL ..
   ·rw [if_neg e] at h;exact Yl _ (ih i x h)
 refine ⟨c6 [],?_,?_,?_,rfl,?_,?_,fun _ _ _ _ e=>e,hc,?_⟩
 ·intro i v' h
  obtain ⟨h1,h2,h3⟩:=hR _ (hl _ _ _ h);exact ⟨v',h1,.inl ⟨h3,h2⟩⟩
 ·intro id b' h
  obtain ⟨_,h2,h3,h4,h5,h6⟩:=hH _ (hl _ _ _ h);refine .inl ⟨b',?_,dL h6 h5⟩;show look (ue (nameOf ids nx) h0++H) id=_;rw [kt,jt (HT h2 h3)];show look H id=_;rw [h4,h]
 ·intro id x h
  exact (hH _ (hl _ _ _ h)).1
 ·subst hb;exact Yy _
 ·subst hb;intro id h;exact absurd h (YY _)
 ·exact hd
section
variable {P : Program} {Q : aB -> St -> Prop} {f : FuncId} {vs vs0 : List V} {H : Heap} {k : Res -> Heap -> Nat -> Tree} {bs bs' : List Blk} {v : V} {d : Dat}
theorem PD (nx:Nat) (ids:List Nat) (hs:ku P f vs0 bs d) (h2:∀h0 n0,WT P Q (k (.pan d) (ue (nameOf ids nx) h0++H) (nx+(n0 - ids.length))))
  (hm:Nat.ble ids.length bs.length=true:=by rfl) (A7:(ids.all fun a=>Nat.blt a nx)=true:=by rfl) (hnd:uf ids=true:=by rfl)
  (hfit:Ko (nameOf ids nx) H (bn 0 bs) 0 bs:=by
   repeat' first
    | exact trivial
    | refine And.intro (Or.inl ⟨_,rfl,⟨rfl,rfl⟩⟩) ?_
    | refine And.intro (Or.inl ⟨_,rfl,⟨rfl,rfl,rfl⟩⟩) ?_
    | refine And.intro (Or.inl ⟨_,rfl,?_⟩) ?_
    | refine And.intro (Or.inr ⟨rfl,rfl⟩) ?_
    | refine And.intro (Or.inr ⟨rfl,rfl,rfl⟩) ?_
    | exact cN (by first|with_reducible rfl|assumption|omega)
    | exact zj (by first|with_reducible rfl|assumption|omega|(simp;done)|(simp;omega)) rfl rfl
    | exact Or.inl ⟨rfl,rfl⟩
    | exact Or.inr (Or.inl ⟨rfl,by first|exact ⟨_,_,rfl,rfl,Or.inl rfl⟩|exact ⟨_,_,rfl,rfl,Or.inr rfl⟩⟩)
    | refine And.intro ?_ ?_)
  (hvs:VWL (nameOf ids nx) H (bn 0 bs) vs vs0:=by
   repeat' first
    | exact trivial
    | refine And.intro (cN (by first|with_reducible rfl|assumption|omega)) ?_
    | refine And.intro (Or.inl ⟨rfl,rfl⟩) ?_
    | refine And.intro (Or.inr (Or.inl ⟨rfl,by first|exact ⟨_,_,rfl,rfl,Or.inl rfl⟩|exact ⟨_,_,rfl,rfl,Or.inr rfl⟩⟩)) ?_):WT P Q (.sub f vs H nx k):=by
 refine MQ ids hs hm A7 hnd hfit hvs ?_;rintro r0 h0 n0 rfl;exact h2 _ _
end
end Uw
namespace Uw
open Go Go.RowKit
variable [Glob]
section
variable {c : Cx} {w0 : World} {nx : Nat} {J : Nat -> Nat -> Prop} (hh : cU c w0 nx) (hk : Keeps c.w c.w (Imm c) J)
include hh hk
theorem SK {id ver off len k:Nat} {xs:List (List Dat)} {gv:Value} (hl:look c.heap id=some (.mt k ver xs)) (hnew:0<(c.pl id).cap->∀o,J (c.pl id).gb o) (h:ay c (.ref id ver off len) gv):aD c.w J (.slice k ((xs.drop off).take len) false) gv:=by
 simp only [ay,hl] at h;obtain ⟨_,_,h⟩:=h;obtain ⟨h1,h2⟩:=h rfl;have hlen:((xs.drop off).take len).length=len:=by simp;omega
 rcases h2 with ⟨h2,h3,_⟩|⟨b,o,h2,h3⟩
 ·exact .inl ⟨⟨_,h2,by simp⟩,XD (by omega)⟩
 ·obtain ⟨b3,b4,bb⟩:=hh.blk id _ hl
  refine .inr ⟨b,o,(c.pl id).cap - off,by rw [hlen];exact h2,by rw [hlen];omega,by simp,?_⟩;by_cases hl0:len=0
  ·subst hl0;simp [ct]
  ·obtain ⟨vs,e,g1,g2,g3,g4⟩:=bb (by omega)
   obtain ⟨rfl,rfl⟩:=h3 (by omega);have hfl:=mj b4 off len (by omega);refine ct.of_flat (us:=((vs.toList.take (xs.length * k)).drop (off * k)).take (len * k)) (fun x hx=>b4 x (YG (X9 hx))) ?_ ?_
   ·rw [hfl];exact aO.keep hk _ _ ((g3.drop _).take _)
   ·intro j v hv
    refine ⟨?_,hnew (by omega) _,g4 v (YG (X9 (XK hv)))⟩;rw [Xx] at hv
    split at hv
    ·rw [Yi,Xx] at hv
     split at hv
     ·rw [bV g1];simpa using hv
     ·simp at hv
    ·simp at hv
def frz (h h' : Heap):List V->Option (List Dat)
 | []=>some []
 | .d x::r=>(frz h h' r).map (x::·)
 | .ref id ver off len::r=>match look h id,look h' id,frz h h' r with
  | some (.arr k xs),_,some l=>some (.slice k ((xs.drop off).take len) false::l)
  | some (.mt k dq xs),none,some l=>match Nat.beq ver dq with
   | true=>some (.slice k ((xs.drop off).take len) false::l)
   | false=>none
  | _,_,_=>none
 | _=>none
theorem yy {h' : Heap} (hnew:∀id k ver xs,look c.heap id=some (.mt k ver xs)->look h' id=none->0<(c.pl id).cap->∀o,J (c.pl id).gb o):∀{vs:List V} {ds:List Dat} {us:List Value},frz c.heap h' vs=some ds->av c vs us->aO c.w J ds us
 | [],ds,us,h,r=>by simp [frz] at h;subst h;simpa [aO,av] using r
 | v::vs,ds,us,h,r=>by
  obtain ⟨u,us',rfl,r1,r2⟩:=r;unfold frz at h
  split at h
  ·rename_i heq;simp at heq
  ·rename_i x rr heq
   simp only [Yn] at heq;obtain ⟨rfl,rfl⟩:=heq;rw [Xu] at h;obtain ⟨l,hl,rfl⟩:=h;exact ⟨u,us',rfl,aD.keep hk _ _ r1,yy hnew hl r2⟩
  ·rename_i id ver off len rr heq
   simp only [Yn] at heq;obtain ⟨rfl,rfl⟩:=heq
   split at h
   ·rename_i k xs _ l hl1 hl2
    simp at h;subst h;exact ⟨u,us',rfl,aD.keep hk _ _ (sr hl1 r1),yy hnew hl2 r2⟩
   ·rename_i k dq xs l hl1 hl2 hl3
    split at h
    ·rename_i hb
     simp at h;subst h;have hb:=Xp hb;subst hb;exact ⟨u,us',rfl,SK hh hk hl1 (hnew _ _ _ _ hl1 hl2) r1,yy hnew hl3 r2⟩
    ·simp at h
   ·simp at h
  ·simp at h
end
mutual
theorem MR:∀v:V,v.ren (c6 [])=v
 | .ptr id o=>rfl
 | .l9 id v i c=>rfl
 | .ref id v o l=>rfl
 | .agg cs=>by rw [V.ren,l7 cs]
 | .func f fs cs=>by rw [V.ren,l7 fs,l7 cs]
 | .tuple cs=>by rw [V.ren,l7 cs]
 | .d x=>rfl
 | .ro cs o=>rfl
 | .hnd id=>rfl
 | .row id len=>rfl
 | .undef=>rfl
theorem l7:∀l:List V,fx (c6 []) l=l
 | []=>rfl
 | v::r=>by rw [fx,MR v,l7 r]
end
theorem kT.freeze {P:Program} {f:FuncId} {vs:List V} {h:Heap} {nx:Nat} {R0 R:Res->Heap->Nat->Prop} (hs:kT P f vs h nx R0)
  (hq:∀r h0 n0,R0 r h0 n0->∃cs ds h1 n1,r = .val (.agg cs)/\frz h0 h1 cs=some ds/\(∀id x,look h1 id=some x->look h0 id=some x/\x.closed h1=true/\id<n1)/\nx<=n1/\(∀id,id<nx->(look h0 id).isSome=true->(look h1 id).isSome=true)/\R (.val (.agg (ds.map V.d))) h1 n1):kT P f vs h nx R:=by
 refine ⟨hs.1,fun c w0 F gvs h1 h2 h3 h4 h5=>(hs.2 c w0 F gvs h1 h2 h3 h4 h5).mono ?_⟩;rintro e w' ⟨c',r,nx',e1,e2,e3,e4,e5,e6,e7,e8⟩;obtain ⟨cs,ds,h1',n1,rfl,hd,hw,hn1,hkp,hr⟩:=hq _ _ _ e8
 cases e with
 | returned gv=>
  obtain ⟨us,rfl,e7⟩:=e7;have r0:Rel c' w0 0 F ⟨[],c'.heap,nx',[],nx⟩ { tmps:=#[],defers:=[] }:=
   ⟨rfl,e4,rfl,fun i v hv=>by simp [look] at hv,e6,h3,e5,rfl⟩
  have hwr:xE (c6 []) ⟨[],c'.heap,nx',[],nx⟩ ⟨[],h1',n1,[],nx⟩:=by
   refine ⟨fun i v hv=>by simp [look] at hv,fun i x hx=>.inl ⟨x,(hw i x hx).1,dL ?_ (hw i x hx).2.1⟩,fun i x hx=>(hw i x hx).2.2,rfl,hn1,fun id hid=>⟨rfl,hkp id hid⟩,fun id id' _ _ he=>he,rfl,rfl⟩
   cases x with
   | var cs=>show Blk.var cs=Blk.var (fx (c6 []) cs);rw [l7]
   | _=>rfl
  have r1:=r0.LZ hwr;have hs' : ∀id b',look h1' id=some b'->(∃b,look c'.heap (c6 [] id)=some b/\nj (c6 []) c'.heap h1' b b')\/(look c'.heap (c6 [] id)=none/\ja b'):=hwr.heap;refine ⟨c'.weak (c6 []) h1',.val (.agg (ds.map V.d)),n1,e1,e2,e3,r1.hrel,hn1,r1.frames,?_,hr⟩;refine ⟨us,rfl,av.ofL ?_⟩;refine yy (c:=c') e4 (iV hs') ?_ hd e7;intro id k ver xs hl hl1 hcap o;refine .inr ⟨e4.ge id _ hl hcap,e4.jn hl hcap,fun id2 SL g1 g2 g3=>?_⟩;exfalso;obtain ⟨k1,_,_⟩:=hw id2 SL g1;have hp:(c'.weak (c6 []) h1').pl id2=c'.pl id2:=fH hs' k1;rw [hp] at g2 g3;have:=e4.inj id2 id SL _ k1 hl g2 hcap g3;subst this;have g1:look h1' id2=some SL:=g1;rw [hl1] at g1;cases g1
 | panicked ch=>exact e7.elim
 | outgrown=>exact e7.elim
end Uw
namespace Uw
open Go
noncomputable def runT (res:List gB) (t:Tree):List Dat->Option (List (FuncId×List Dat)×Dat):=
 Tree.rec (motive:=fun _=>List Dat->Option (List (FuncId×List Dat)×Dat))
  (fun e st _=>match e with
   | .ret=>match st.defers,resV st res with
    | [],some vs=>match dD st.heap vs,wB st.heap vs with
     | some ds,true=>some ([],jM ds)
     | _,_=>none
    | _,_=>none
   | _=>none)
  (fun _=>none)
  (fun b _ _ y n as=>match b with|true=>y as|false=>n as)
  (fun _ _ _ _ _=>none)
  (fun _ _ _ _ _=>none)
  (fun xs i _ k as=>match xs[i]? with|some x=>k x as|none=>none)
  (fun s i _ k as=>match s[i]? with|some x=>k x as|none=>none)
  (fun o _ k as=>match o with|some x=>k x as|none=>none)
  (fun o _ k as=>match o with|some x=>k x as|none=>none)
  (fun o _ k as=>match o with|some x=>k x as|none=>none)
  (fun h _ k as=>k h as)
  (fun f ds _ k as=>match as with|r::rs=>(match k r rs with|some (cs,d)=>some ((f,ds)::cs,d)|none=>none)|[]=>none)
  (fun _ _ _ _ _ _ _=>none)
  (fun _ _ _ _ _=>none)
  t
variable [Glob]
def HU (P:Program):List (FuncId×List Dat)->List Dat->Prop
 | [],_=>True
 | (f,ds)::cs,r::rs=>Ret P f ds r/\HU P cs rs
 | _::_,[]=>False
theorem PG {P:Program} {res:List gB} {r:Dat}:∀(t:Tree) (as:List Dat) (cs:List (FuncId×List Dat)),runT res t as=some (cs,r)->HU P cs as->WT P (Dx res r) t:=by
 intro t
 induction t with
 | done e st=>
  intro as cs h _
  cases e with
  | ret=>
   simp only [runT] at h
   split at h
   ·rename_i hd hv
    split at h
    ·rename_i h1 h2
     injection h with h
     injection h with h0 h
     exact aC hd hv h1 h2 h
    ·cases h
   ·cases h
  | normal=>cases h
  | exit _=>cases h
  | panic _=>cases h
 | fail=>intro as cs h _;cases h
 | test b y n hy hn=>
  intro as cs h ha
  cases b with
  | true=>exact OV rfl (hy as cs h ha)
  | false=>exact L6 rfl (hn as cs h ha)
 | both=>intro as cs h _;cases h
 | same=>intro as cs h _;cases h
 | elem xs i k ih=>
  intro as cs h ha
  cases hx:xs[i]? with
  | none=>simp only [runT,hx] at h;cases h
  | some x=>simp only [runT,hx] at h;exact iR x hx (ih x as cs h ha)
 | byte xs i k ih=>
  intro as cs h ha
  cases hx:xs[i]? with
  | none=>simp only [runT,hx] at h;cases h
  | some x=>simp only [runT,hx] at h;exact yu x hx (ih x as cs h ha)
 | val o k ih=>
  intro as cs h ha
  cases o with
  | none=>cases h
  | some x=>exact L8 x rfl (ih x as cs h ha)
 | blk o k ih=>
  intro as cs h ha
  cases o with
  | none=>cases h
  | some x=>exact kW x rfl (ih x as cs h ha)
 | A3 o k ih=>
  intro as cs h ha
  cases o with
  | none=>cases h
  | some x=>exact yw x rfl (ih x as cs h ha)
 | heq hh k ih=>intro as cs h ha;exact I0 (ih hh as cs h ha)
 | call f ds k ih=>
  intro as cs h ha
  cases as with
  | nil=>cases h
  | cons a as=>
   cases hk:runT res (k a) as with
   | none=>
    have h:(match runT res (k a) as with|some (cs,d)=>some ((f,ds)::cs,d)|none=>none)=some (cs,r):=h;rw [hk] at h;cases h
   | some y=>
    have h:(match runT res (k a) as with|some (cs,d)=>some ((f,ds)::cs,d)|none=>none)=some (cs,r):=h;rw [hk] at h;obtain ⟨cs2,d⟩:=y;injection h with h
    injection h with h1 h2
    subst h1 h2;exact Dy a ha.1 (ih a as cs2 hk ha.2)
 | sub=>intro as cs h _;cases h
 | code=>intro as cs h _;cases h
theorem MU {P:Program} {f:FuncId} {m:bD} (hf:aQ P f m) {args:List Dat} {r:Dat} (cs:List (FuncId×List Dat)) (as:List Dat) (hn:Nat.ble args.length m.n=true) (h:runT m.res (exec m.code (kV args) Tree.done) as=some (cs,r)) (ha:HU P cs as):Ret P f args r:=bf hf hn (PG _ _ _ h ha)
end Uw
namespace Uw
open Go
structure Ev where
 F:FuncId->List Dat->Option Dat
 L:bT->St->Option (aB×St)
 S:FuncId->List V->Heap->Nat->Option (V×Heap×Nat)
noncomputable def evT (E:Ev) (t:Tree):Option (aB×St):=
 Tree.rec (motive:=fun _=>Option (aB×St))
  (fun e st=>some (e,st))
  none
  (fun b _ _ y n=>match b with|true=>y|false=>n)
  (fun _ _ _ _=>none)
  (fun _ _ _ _=>none)
  (fun xs i _ k=>match xs[i]? with|some x=>k x|none=>none)
  (fun s i _ k=>match s[i]? with|some x=>k x|none=>none)
  (fun o _ k=>match o with|some x=>k x|none=>none)
  (fun o _ k=>match o with|some x=>k x|none=>none)
  (fun o _ k=>match o with|some x=>k x|none=>none)
  (fun h _ k=>k h)
  (fun f ds _ k=>match E.F f ds with|some r=>k r|none=>none)
  (fun f vs h nx _ k=>match E.S f vs h nx with|some x=>k (.val x.1) x.2.1 x.2.2|none=>none)
  (fun c st _ k=>match c with
   | .loop m=>match E.L m st with|some x=>k x.1 x.2|none=>none
   | _=>none)
  t
noncomputable def I8 (res:List gB) (x:aB×St):Option Dat:=
 match x.1,x.2.defers,resV x.2 res with
 | .ret,[],some vs=>match dD x.2.heap vs,wB x.2.heap vs with
  | some ds,true=>some (jM ds)
  | _,_=>none
 | .normal,[],some vs=>match dD x.2.heap vs,wB x.2.heap vs with
  | some ds,true=>some (jM ds)
  | _,_=>none
 | _,_,_=>none
noncomputable def I9 (res:List gB) (x:aB×St):Option (V×Heap×Nat):=
 match x.1,x.2.defers,resV x.2 res with
 | .ret,[],some vs=>some (mD vs,x.2.heap,x.2.next)
 | .normal,[],some vs=>some (mD vs,x.2.heap,x.2.next)
 | _,_,_=>none
noncomputable def SN (tab:List (Nat×bD)) (E:Ev):Ev where
 F:=fun f ds=>match look tab f with
  | some m=>match Nat.ble ds.length m.n with
   | true=>match evT E (exec m.code (kV ds) Tree.done) with
    | some x=>I8 m.res x
    | none=>none
   | false=>none
  | none=>none
 L:=fun m st=>match evT E (exec m st Tree.done) with
  | some (.normal,st')=>E.L m st'
  | r=>r
 S:=fun f vs h nx=>match look tab f with
  | some m=>match Nat.ble vs.length m.n with
   | true=>match evT E (exec m.code ⟨ez 0 vs,h,nx,[],nx⟩ Tree.done) with
    | some x=>I9 m.res x
    | none=>none
   | false=>none
  | none=>none
noncomputable def evN (tab:List (Nat×bD)) (n:Nat):Ev:=Nat.rec (motive:=fun _=>Ev) ⟨fun _ _=>none,fun _ _=>none,fun _ _ _ _=>none⟩ (fun _ E=>SN tab E) n
variable [Glob]
structure UZ (P:Program) (E:Ev):Prop where
 F:∀f ds r,E.F f ds=some r->Ret P f ds r
 L:∀m st e st',E.L m st=some (e,st')->e≠.normal/\∃N,∀Q:aB->St->Prop,Q e st'->Rounds P m Q N st
 S:∀f vs h nx v h' n',E.S f vs h nx=some (v,h',n')->kT P f vs h nx fun r h2 n2=>r = .val v/\h2=h'/\n2=n'
theorem DR {P:Program} {E:Ev} (hE:UZ P E) {Q:aB->St->Prop}:∀(t:Tree) (e:aB) (st:St),evT E t=some (e,st)->Q e st->WT P Q t:=by
 intro t
 induction t with
 | done e0 st0=>
  intro e st h hq;injection h with h
  injection h with h1 h2
  subst h1 h2;exact hq
 | fail=>intro e st h _;cases h
 | test b y n hy hn=>
  intro e st h hq
  cases b with
  | true=>exact OV rfl (hy e st h hq)
  | false=>exact L6 rfl (hn e st h hq)
 | both=>intro e st h _;cases h
 | same=>intro e st h _;cases h
 | elem xs i k ih=>
  intro e st h hq
  cases hx:xs[i]? with
  | none=>simp only [evT,hx] at h;cases h
  | some x=>simp only [evT,hx] at h;exact iR x hx (ih x e st h hq)
 | byte xs i k ih=>
  intro e st h hq
  cases hx:xs[i]? with
  | none=>simp only [evT,hx] at h;cases h
  | some x=>simp only [evT,hx] at h;exact yu x hx (ih x e st h hq)
 | val o k ih=>
  intro e st h hq
  cases o with
  | none=>cases h
  | some x=>exact L8 x rfl (ih x e st h hq)
 | blk o k ih=>
  intro e st h hq
  cases o with
  | none=>cases h
  | some x=>exact kW x rfl (ih x e st h hq)
 | A3 o k ih=>
  intro e st h hq
  cases o with
  | none=>cases h
  | some x=>exact yw x rfl (ih x e st h hq)
 | heq hh k ih=>intro e st h hq;exact I0 (ih hh e st h hq)
 | call f ds k ih=>
  intro e st h hq
  cases hx:E.F f ds with
  | none=>simp only [evT,hx] at h;cases h
  | some x=>simp only [evT,hx] at h;exact Dy x (hE.F f ds x hx) (ih x e st h hq)
 | sub f vs hh nx k ih=>
  intro e st h hq
  cases hx:E.S f vs hh nx with
  | none=>simp only [evT,hx] at h;cases h
  | some x=>
   obtain ⟨v,h',n'⟩:=x;simp only [evT,hx] at h;refine L9 (hE.S f vs hh nx v h' n' hx) ?_;rintro r h2 n2 ⟨rfl,rfl,rfl⟩;exact ih (.val v) h2 n2 e st h hq
 | code c st0 k ih=>
  intro e st h hq
  cases c with
  | loop m=>
   cases hx:E.L m st0 with
   | none=>simp only [evT,hx] at h;cases h
   | some x=>
    obtain ⟨e1,st1⟩:=x;simp only [evT,hx] at h;obtain ⟨_,N,hN⟩:=hE.L m st0 e1 st1 hx;exact fp N (hN _ (ih e1 st1 e st h hq))
  | skip=>cases h
  | ops=>cases h
  | seq=>cases h
  | cond=>cases h
  | block=>cases h
  | exit=>cases h
  | ret=>cases h
  | draw=>cases h
theorem MV {res:List gB} {x:aB×St} {r:Dat} (h:I8 res x=some r):Dx res r x.1 x.2:=by
 unfold I8 at h
 split at h
 ·rename_i h1 h2 h3
  split at h
  ·rename_i h4 h5
   injection h with h
   exact ⟨.inr h1,h2,_,_,h3,h4,h5,h⟩
  ·cases h
 ·rename_i h1 h2 h3
  split at h
  ·rename_i h4 h5
   injection h with h
   exact ⟨.inl h1,h2,_,_,h3,h4,h5,h⟩
  ·cases h
 ·cases h
theorem MW {res:List gB} {x:aB×St} {v:V} {h' : Heap} {n' : Nat} (h:I9 res x=some (v,h',n')):FM res (fun r h2 n2=>r = .val v/\h2=h'/\n2=n') x.1 x.2:=by
 unfold I9 at h;obtain ⟨e,st⟩:=x
 split at h
 ·rename_i h1 h2 h3
  injection h with h
  injection h with g1 g2
  injection g2 with g2 g3
  simp only at h1 h2 h3 g2 g3;subst h1;exact ⟨h2,_,h3,by rw [g1],g2,g3⟩
 ·rename_i h1 h2 h3
  injection h with h
  injection h with g1 g2
  injection g2 with g2 g3
  simp only at h1 h2 h3 g2 g3;subst h1;exact ⟨h2,_,h3,by rw [g1],g2,g3⟩
 ·cases h
theorem MX {P:Program} {tab:List (Nat×bD)} (ht:∀f m,look tab f=some m->aQ P f m):∀n,UZ P (evN tab n)
 | 0=>⟨fun _ _ _ h=>(by cases h),fun _ _ _ _ h=>(by cases h),fun _ _ _ _ _ _ _ h=>(by cases h)⟩
 | n+1=>by
  have ih:=MX ht n;refine ⟨fun f ds r h=>?_,fun m st e st' h=>?_,fun f vs hh nx v h' n' h=>?_⟩
  ·have h:(match look tab f with
    | some m=>match Nat.ble ds.length m.n with
     | true=>match evT (evN tab n) (exec m.code (kV ds) Tree.done) with
      | some x=>I8 m.res x
      | none=>none
     | false=>none
    | none=>none)=some r:=h
   split at h
   ·rename_i m hm
    split at h
    ·rename_i hn
     split at h
     ·rename_i x hx
      exact bf (ht f m hm) hn (DR ih _ x.1 x.2 hx (MV h))
     ·cases h
    ·cases h
   ·cases h
  ·have h:(match evT (evN tab n) (exec m st Tree.done) with
    | some (.normal,st')=>(evN tab n).L m st'
    | r=>r)=some (e,st'):=h
   split at h
   ·rename_i st2 hx
    obtain ⟨h1,N,hN⟩:=ih.L m st2 e st' h;exact ⟨h1,N+1,fun Q hq=>DR ih _ _ _ hx (hN Q hq)⟩
   ·rename_i r hne
    have hx:=h;have hen:e≠.normal:=fun e1=>hne st' (by rw [hx,e1]);refine ⟨hen,1,fun Q hq=>DR ih _ _ _ hx ?_⟩
    cases e with
    | normal=>exact absurd rfl hen
    | exit j=>exact hq
    | ret=>exact hq
    | panic d=>exact hq
  ·have h:(match look tab f with
    | some m=>match Nat.ble vs.length m.n with
     | true=>match evT (evN tab n) (exec m.code ⟨ez 0 vs,hh,nx,[],nx⟩ Tree.done) with
      | some x=>I9 m.res x
      | none=>none
     | false=>none
    | none=>none)=some (v,h',n'):=h
   split at h
   ·rename_i m hm
    split at h
    ·rename_i hn
     split at h
     ·rename_i x hx
      exact I1 (ht f m hm) hn (DR ih _ x.1 x.2 hx (MW h))
     ·cases h
    ·cases h
   ·cases h
def MY (P:Program):List (Nat×bD)->Prop
 | []=>True
 | (f,m)::r=>aQ P f m/\MY P r
theorem Je {P:Program}:∀{tab:List (Nat×bD)},MY P tab->∀f m,look tab f=some m->aQ P f m
 | [],_,_,_,h=>by cases h
 | (g,a)::r,⟨h1,h2⟩,f,m,h=>by
  rw [ai] at h
  split at h
  ·rename_i e
   injection h with h
   rw [<- e,<- h];exact h1
  ·exact Je h2 f m h
theorem DT {P:Program} {tab:List (Nat×bD)} (n:Nat) (ht:∀f m,look tab f=some m->aQ P f m) {f:FuncId} {ds:List Dat} {r:Dat} (h:(evN tab n).F f ds=some r):Ret P f ds r:=(MX ht n).F f ds r h
end Uw
namespace Uw
open Go Go.RowKit
section
variable {P : Program} [Glob] {Q : aB -> St -> Prop} {t t' : Tree}
end
end Uw
