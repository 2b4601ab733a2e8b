/- B4: Uzi Uzb Uzc Uzk Uzl Uzm Uzd (merged by merge2.py from the working texts). -/
import Derived.Test.YtkmkjfkpnmhaiaaGreatDoorB3
set_option linter.unusedSimpArgs false
set_option linter.unnecessarySimpa false
set_option linter.unusedVariables false
set_option linter.unusedSectionVars false
namespace Uw
open Go Go.RowKit
def cL:Code->Code
 | .seq x _=>x
 | .block _ x=>x
 | .loop x=>x
 | .rangeFunc _ _ x _=>x
 | c=>c
def cR:Code->Code
 | .seq _ y=>y
 | .rangeFunc _ _ _ y=>y
 | c=>c
def iq (P:Program) (f:FuncId):Code:=match P.funcs[f]? with
 | some fn=>fn.body.getD .skip
 | none=>.skip
def K1 (P:Program) (f:FuncId) (n:Nat) (res:List gY) (code:Code):Prop:=∃fn,P.funcs[f]? = some fn/\fn.body=some code/\fn.ntmps=n/\iP P fn.results.toList=some res
variable [Glob]
section
variable {P : Program} {n : Nat} {gs : Fr} {c : Cx} {w0 : World} {st : St} {a : Act} {Q : Exit -> Act -> World -> Prop}
theorem zz {x y:Code} {pol:Pol} {m:ck} (hc:comp P n pol x=some m) (r:Rel c w0 n gs st a) (S1:St) (h:WT P (fun e s=>e = .normal/\Weak s S1) (exec m st Tree.done))
  (next:∀(c' : Cx) (a' : Act),c'.B=c.B->c'.J0=c.J0->Rel c' w0 n gs S1 a'->Code.wp P y Q a' c'.w):Code.wp P (.seq x y) Q a c.w:=by
 refine wp_seq (Go.wp_mono (jv (plainW P) x m hc (.inl rfl) Tree.done c st a r h) ?_);rintro e a' w' ⟨c1,me,st1,b1,j1,rfl,x1,r1,hq⟩;simp only [WT] at hq;obtain ⟨rfl,hw⟩:=hq
 cases e<;>simp only [bB] at x1
 obtain ⟨c2,b2,j2,w2,_,r2⟩:=r1.weak hw;have:=next c2 a' (b2.trans b1) (j2.trans j1) r2;rw [w2] at this;exact this
theorem yJ.of {st st' : St} (h1:pI (dx []) st.regs st.heap st'.heap st'.regs) (h2:OW (dx []) st.heap st'.heap st'.next st'.heap) (h3:st'.base=st.base) (h4:Nat.ble st.base st'.next=true) (h5:Ed (dx []) st.heap st'.heap st.base)
  (h6:cQ st'.heap st'.defers=true) (h7:st.defers=gk (dx []) st'.defers):yJ (dx []) st st':=
 ⟨fun i v h=>kN h1 i v h,fun i b h=>(kO h2 i b h).1,fun i b h=>(kO h2 i b h).2,h3,aaO h4,nJ h5,fun id id' _ _ he=>he,h6,h7⟩
theorem Rel.forget (r:Rel c w0 n gs st a) {st' : St} (h:yJ (dx []) st st') {id0:Nat} {cs0:List V} (hid:look st.heap id0=some (.var cs0)) (hno:look st'.heap id0=none) :
  Rel (c.weak (dx []) st'.heap) w0 n gs st' a/\∀id blk,look (c.weak (dx []) st'.heap).heap id=some blk->Ph ((c.weak (dx []) st'.heap).pl id) blk->((c.weak (dx []) st'.heap).pl id).gb≠(c.pl id0).gb:=by
 refine ⟨r.OO h,fun id blk hl hp hg=>?_⟩;have hs:∀id b',look st'.heap id=some b'->(∃b,look c.heap (dx [] id)=some b/\oH (dx []) c.heap st'.heap b b')\/(look c.heap (dx [] id)=none/\jK b'):=by rw [r.heap];exact h.heap
 have hl' : look st'.heap id=some blk:=hl
 rcases hs id blk hl' with ⟨b,hb,ed⟩|⟨hn,hz⟩
 ·rw [gA hs hb] at hp hg
  rw [<- r.heap] at hid;have:=r.hrel.inj id id0 b _ hb hid (ed.ph hp) trivial hg;subst this;rw [hno] at hl';cases hl'
 ·rw [sB hs hn] at hp
  cases blk<;>simp [jK,Ph] at hz hp
theorem MU {c' : Cx} {fn:Func} {res:List gY} {J:Nat->Nat->Prop} {w:World} {st' : St} {a' : Act} (e5:Rel c' w0 n gs st' a') (hres:iP P fn.results.toList=some res) (hB:c'.B=w.heap.size)
  (hJ:∀b o,c'.Old b->c'.J0.J b o->J b o\/(w.heap.size<=b/\b<c'.w.heap.size))
  {vs:List V} {ds:List Dat} (g1:resV st' res=some vs) (g2:dY st'.heap vs=some ds) (g3:xZ st'.heap vs=true) :
  ∃v,(results fn a'.tmps).run P c'.w = .ok v c'.w/\aI c'.w (fun b o=>J b o\/(w.heap.size<=b/\b<c'.w.heap.size)) (kB ds) v:=by
 have hk:Keeps c'.w c'.w (Imm c') (fun b o=>J b o\/(w.heap.size<=b/\b<c'.w.heap.size)):=by
  intro b o hi;refine ⟨?_,rfl⟩
  rcases hi with ⟨h1,hi⟩|⟨hi1,hi2,_⟩
  ·exact hJ b o h1 hi
  ·exact .inr ⟨aci fun h=>hi1 (.inl (by rw [hB];exact h)),hi2⟩
 obtain ⟨us,f1,f2⟩:=jL (P:=P) e5 hres g1;rw [<- e5.heap] at g2 g3;have k1:=wa e5.hrel hk (fun b o h1 h2=>.inr ⟨aci fun h=>h1 (.inl (by rw [hB];exact h)),h2⟩) g2 g3 f2;refine ⟨_,gB f1,?_⟩;have hl:=k1.length
 match ds,k1,hl with
 | [],k1,hl=>simp [bp] at k1;subst k1;exact ⟨[],by simp,rfl⟩
 | [d],k1,hl=>
  obtain ⟨u,us',rfl,h1,h2⟩:=k1;simp [bp] at h2;subst h2;simpa [kB] using h1
 | d::d'::r,k1,hl=>
  rw [dif_neg (by simp at hl ⊢;omega)];exact ⟨us,rfl,k1⟩
def SV (w:World) (J:Nat->Nat->Prop) (r:Dat) (e:Ending) (w' : World):Prop:=∃v,e = .returned v/\aI w' (fun b o=>J b o\/(w.heap.size<=b/\b<w'.heap.size)) r v/\Below w.heap.size w w'
theorem WE {fn:Func} {res:List gY} {J:Nat->Nat->Prop} {w:World} {y:Code} {pol:Pol} {m:ck} {rr:Dat} (hres:iP P fn.results.toList=some res) (hc:comp P n pol y=some m) {D:Nat} (r:Rel c c.w n gs st a) (hd:a.defers=[])
  (hB:c.B=w.heap.size) (hX:c.J0.X D) (hXB:∀b,c.J0.X b->w.heap.size<=b) (hJ:∀b o,c.J0.J b o->J b o\/c.J0.X b) (hD:c.w.heap[D]? = some (.deferred (some []))) (hbel:Below w.heap.size w c.w)
  (h:WT P (Fp res rr) (exec m st Tree.done)):Code.wp P y (bodyPostM Fence.wide 0 P fn (SV w J rr)) { a with defers:={ target:=.collected D,args:=#[] }::a.defers } c.w:=by
 have hex:=jv (tailW P [{ target:=.collected D,args:=#[] }]) y m hc (.inl rfl) Tree.done c st a r h;have e' : Code.wp P y (Eh [{ target:=.collected D,args:=#[] }] (Came P (Fp res rr) Tree.done c c.w n gs)) (j0 [{ target:=.collected D,args:=#[] }] a) c.w:=hex;have ea:j0 [{ target:=.collected D,args:=#[] }] a={ a with defers:={ target:=.collected D,args:=#[] }::a.defers }:=by unfold j0;rw [hd];rfl
 rw [ea] at e';refine Go.wp_mono e' ?_;clear hex e';rintro ex a2 w2 ⟨a0,rfl,c',me,st',e1,e2,rfl,e4,e5,e6⟩;simp only [WT] at e6;obtain ⟨g1,g2,vs',ds,g3,g4,g5,rfl⟩:=e6;have hXD:c'.J0.X D:=by rw [e2];exact hX
 have hD2:c'.w.heap[D]? = some (.deferred (some [])):=(e5.hrel.other D hXD).2.trans hD;have hBD:c'.B<=D:=by rw [e1,hB];exact hXB D hX
 have e7:=e5.SU (o':=.deferred none) hXD hBD hD2 rfl rfl;have hsz:(c'.w.putObj D (.deferred none)).heap.size=c'.w.heap.size:=by simp [World.putObj]
 obtain ⟨v,hv1,hv2⟩:=MU (P:=P) (w:=w) (J:=J) e7 hres (e1.trans hB) (by
  intro b o h1 h2
  rcases hJ b o (by rw [<- e2];exact h2) with h3|h3
  ·exact .inl h3
  ·refine .inr ⟨hXB b h3,?_⟩
   show b<(c'.w.putObj D (.deferred none)).heap.size;rw [hsz];have:=(e5.hrel.other b (by rw [e2];exact h3)).1;exact abl this e5.hrel.below.size) g3 g4 g5
 have Yp:Below w.heap.size w (c'.w.putObj D (.deferred none)):=by
  have:=e5.hrel.below;rw [e1,hB] at this;exact (hbel.trans this).trans (mQ (by rw [<- hB,<- e1];exact hBD))
 have hdf:a0.defers=[]:=by have:=e5.defers;rw [g2] at this;exact this
 have key:LeavesInM Fence.wide 0 P fn (j0 [{ target:=.collected D,args:=#[] }] a0).tmps (SV w J (kB ds)) (j0 [{ target:=.collected D,args:=#[] }] a0).defers .returning c'.w:=by
  unfold j0;rw [hdf];exact ⟨by simp,.inl ⟨D,_,rfl,run_takeDeferred hD2,v,hv1,v,rfl,hv2,Yp⟩⟩
 cases ex with
 | normal=>exact key
 | ret=>exact key
 | exit id=>cases me<;>simp only [bB] at e4;simp at g1
 | goto l=>cases me<;>simp only [bB] at e4
 | panic ch=>cases me<;>simp only [bB] at e4;simp at g1
 | outgrown=>cases me<;>simp only [bB] at e4
theorem MV {f:FuncId} {res:List gY} {code:Code} {args:List Dat} {rr:Dat} (hf:K1 P f n res code) (hn:args.length<=n)
  (h:∀(fn:Func) (w:World) (J:Nat->Nat->Prop) (c:Cx) (a:Act),iP P fn.results.toList=some res->c.B=w.heap.size->c.J0=⟨J,fun _=>False⟩->c.w=w->a.defers=[]->Rel c w n Fr.none (lX args) a->Code.wp P code (bodyPostM Fence.wide 0 P fn (SV w J rr)) a w):Ret P f args rr:=by
 obtain ⟨fn,h1,h2,h3,h4⟩:=hf;intro w J vs hG hrel;refine (callsIn_wide (n:=0)).1 (callsIn_of_wp_marks h1 h2 trivial ?_ rfl);rw [h3];exact wpIn_wide.2 (h fn w J _ _ h4 rfl rfl rfl rfl (Rel.init hG hrel hn))
end
end Uw
namespace Uw
open Go
variable [Glob]
def MW (ρ:Nat->Nat) (H h0:Heap):Nat->List Blk->Prop
 | _,[]=>True
 | i,b'::r=>((∃b,look H (ρ i)=some b/\oH ρ H h0 b b')\/(look H (ρ i)=none/\jK b'))/\MW ρ H h0 (i+1) r
theorem PG {ρ:Nat->Nat} {H h0:Heap}:∀{bs:List Blk} {i:Nat},MW ρ H h0 i bs->∀j b',look (bz i bs) j=some b'->(∃b,look H (ρ j)=some b/\oH ρ H h0 b b')\/(look H (ρ j)=none/\jK b')
 | [],_,_,j,b',h=>by simp [bz,look] at h
 | b0::r,i,⟨h1,h2⟩,j,b',h=>by
  rw [bz,ai] at h;by_cases e:i=j
  ·subst e
   rw [if_pos rfl] at h;injection h with h;subst h;exact h1
  ·rw [if_neg e] at h
   exact PG h2 j b' h
theorem PH {P:Program} {Q:aG->St->Prop} {f:FuncId} {vs vs0:List V} {H:Heap} {nx:Nat} {k:Res->Heap->Nat->Tree} {bs:List Blk} {R0:Res->Heap->Nat->Prop} (ids:List Nat) (hs:kM P f vs0 (bz 0 bs) bs.length R0)
  (hm:Nat.ble ids.length bs.length=true) (Ds:(ids.all fun a=>Nat.blt a nx)=true) (hnd:vj ids=true) (hfit:MW (nameOf ids nx) H (bz 0 bs) 0 bs) (hvs:VWL (nameOf ids nx) H (bz 0 bs) vs vs0)
  (h2:∀r0 h0 n0,R0 r0 h0 n0->WT P Q (k (r0.ren (nameOf ids nx)) (vi (nameOf ids nx) h0++H) (nx+(n0 - ids.length)))):WT P Q (.sub f vs H nx k):=by
 refine OV (kM.frame hs ids (aaO hm) (fun a ha=>by have:=aaS.1 Ds a ha;simpa using this) (Eg hnd) (PG hfit) hvs) ?_;rintro r h n ⟨r0,h0,n0,h1,rfl,rfl,rfl⟩;exact h2 r0 h0 n0 h1
def aE (P:Program) (f:FuncId) (vs:List V) (bs:List Blk) (r:V) (bs' : List Blk):Prop:=kM P f vs (bz 0 bs) bs.length fun r' h n=>r' = .val r/\h=bz 0 bs'/\n=bs'.length
def lz (P:Program) (f:FuncId) (vs:List V) (bs:List Blk) (d:Dat):Prop:=kM P f vs (bz 0 bs) bs.length fun r' h n=>r' = .pan d
section
variable {P : Program} {Q : aG -> St -> Prop} {f : FuncId} {vs vs0 : List V} {H : Heap} {k : Res -> Heap -> Nat -> Tree} {bs bs' : List Blk} {v : V} {d : Dat}
theorem ad (nx:Nat) (ids:List Nat) (hs:aE P f vs0 bs v bs')
  (h2:WT P Q (k (.val (v.ren (nameOf ids nx))) (vi (nameOf ids nx) (bz 0 bs')++H) (nx+(bs'.length - ids.length))))
  (hm:Nat.ble ids.length bs.length=true:=by rfl) (Ds:(ids.all fun a=>Nat.blt a nx)=true:=by rfl) (hnd:vj ids=true:=by rfl)
  (hfit:MW (nameOf ids nx) H (bz 0 bs) 0 bs:=by
   repeat' first
    | exact trivial
    | refine And.intro (Or.inl ⟨_,rfl,⟨rfl,rfl⟩⟩) ?_
    | refine And.intro (Or.inl ⟨_,rfl,⟨rfl,rfl,rfl⟩⟩) ?_
    | refine And.intro (Or.inl ⟨_,rfl,?_⟩) ?_
    | refine And.intro (Or.inr ⟨rfl,rfl⟩) ?_
    | refine And.intro (Or.inr ⟨rfl,rfl,rfl⟩) ?_
    | exact dc (by first|with_reducible rfl|assumption|omega)
    | exact Aq (by first|with_reducible rfl|assumption|omega|(simp;done)|(simp;omega)) rfl rfl
    | exact Or.inl ⟨rfl,rfl⟩
    | exact Or.inr (Or.inl ⟨rfl,by first|exact ⟨_,_,_,rfl,rfl,Or.inl rfl⟩|exact ⟨_,_,_,rfl,rfl,Or.inr rfl⟩⟩)
    | refine And.intro ?_ ?_)
  (hvs:VWL (nameOf ids nx) H (bz 0 bs) vs vs0:=by
   repeat' first
    | exact trivial
    | refine And.intro (dc (by first|with_reducible rfl|assumption|omega)) ?_
    | refine And.intro (Or.inl ⟨rfl,rfl⟩) ?_
    | refine And.intro (Or.inr (Or.inl ⟨rfl,by first|exact ⟨_,_,_,rfl,rfl,Or.inl rfl⟩|exact ⟨_,_,_,rfl,rfl,Or.inr rfl⟩⟩)) ?_):WT P Q (.sub f vs H nx k):=by
 refine PH ids hs hm Ds hnd hfit hvs ?_;rintro r0 h0 n0 ⟨rfl,rfl,rfl⟩;exact h2
theorem bq (nx:Nat) (ids:List Nat) (hs:lz P f vs0 bs d) (h2:∀h n,WT P Q (k (.pan d) h n))
  (hm:Nat.ble ids.length bs.length=true:=by rfl) (Ds:(ids.all fun a=>Nat.blt a nx)=true:=by rfl) (hnd:vj ids=true:=by rfl)
  (hfit:MW (nameOf ids nx) H (bz 0 bs) 0 bs:=by
   repeat' first
    | exact trivial
    | refine And.intro (Or.inl ⟨_,rfl,⟨rfl,rfl⟩⟩) ?_
    | refine And.intro (Or.inl ⟨_,rfl,⟨rfl,rfl,rfl⟩⟩) ?_
    | refine And.intro (Or.inl ⟨_,rfl,?_⟩) ?_
    | refine And.intro (Or.inr ⟨rfl,rfl⟩) ?_
    | refine And.intro (Or.inr ⟨rfl,rfl,rfl⟩) ?_
    | exact dc (by first|with_reducible rfl|assumption|omega)
    | exact Aq (by first|with_reducible rfl|assumption|omega|(simp;done)|(simp;omega)) rfl rfl
    | exact Or.inl ⟨rfl,rfl⟩
    | exact Or.inr (Or.inl ⟨rfl,by first|exact ⟨_,_,_,rfl,rfl,Or.inl rfl⟩|exact ⟨_,_,_,rfl,rfl,Or.inr rfl⟩⟩)
    | refine And.intro ?_ ?_)
  (hvs:VWL (nameOf ids nx) H (bz 0 bs) vs vs0:=by
   repeat' first
    | exact trivial
    | refine And.intro (dc (by first|with_reducible rfl|assumption|omega)) ?_
    | refine And.intro (Or.inl ⟨rfl,rfl⟩) ?_
    | refine And.intro (Or.inr (Or.inl ⟨rfl,by first|exact ⟨_,_,_,rfl,rfl,Or.inl rfl⟩|exact ⟨_,_,_,rfl,rfl,Or.inr rfl⟩⟩)) ?_):WT P Q (.sub f vs H nx k):=by
 refine PH ids hs hm Ds hnd hfit hvs ?_;rintro r0 h0 n0 rfl;exact h2 _ _
theorem kM.Vt {P:Program} {f:FuncId} {vs:List V} {h:Heap} {nx:Nat} {R0 R:Res->Heap->Nat->Prop} (hs:kM P f vs h nx R0)
  (hq:∀r h0 n0,R0 r h0 n0->∃v v' h1 n1,r = .val v/\Weak ⟨[(0,v)],h0,n0,[],nx⟩ ⟨[(0,v')],h1,n1,[],nx⟩/\R (.val v') h1 n1):kM P f vs h nx R:=by
 refine ⟨hs.1,fun c w0 F gvs h1 h2 h3 h4 h5=>(hs.2 c w0 F gvs h1 h2 h3 h4 h5).mono ?_⟩;rintro e w' ⟨c',r,nx',e1,e2,e3,e4,e5,e6,e7,e8⟩;obtain ⟨v,v',h1',n1,rfl,hw,hr⟩:=hq _ _ _ e8
 cases e with
 | returned gv=>
  have r0:Rel c' w0 1 F ⟨[(0,v)],c'.heap,nx',[],nx⟩ { tmps:=#[gv],defers:=[] }:=by
   refine ⟨rfl,e4,rfl,?_,e6,h3,e5,rfl⟩;intro i u hu;rw [ai] at hu;by_cases hi:0=i
   ·subst hi
    rw [if_pos rfl] at hu;injection hu with hu;subst hu
    exact e7
   ·rw [if_neg hi] at hu;simp [look] at hu
  obtain ⟨c2,k1,k2,k3,k4,k5⟩:=r0.weak hw;refine ⟨c2,.val v',n1,k1.trans e1,k2.trans e2,k3.trans e3,k5.hrel,k5.base,k5.frames,?_,by rw [k5.heap];exact hr⟩;have:=k5.regs 0 v' (by simp [ai]);show aB c2 v' gv;simpa using this
 | panicked ch=>exact e7.elim
 | outgrown=>exact e7.elim
def EQ (b:Nat) (res:List gY) (v:V) (bs' : List Blk) (e:aG) (st:St):Prop:=(e = .normal\/e = .ret)/\st.defers=[]/\∃vs,resV st res=some vs/\Weak ⟨[(0,i7 vs)],st.heap,st.next,[],b⟩ ⟨[(0,v)],bz 0 bs',bs'.length,[],b⟩
def PQ (res:List gY) (d:Dat) (e:aG) (st:St):Prop:=∃st',(st' = st\/Weak st st')/\Dp res (fun r' h n=>r' = .pan d) e st'
theorem ax {m:bE} (hf:aM P f m) (hn:Nat.ble vs.length m.n=true) (hw:WT P (EQ bs.length m.res v bs') (exec m.code ⟨dP 0 vs,bz 0 bs,bs.length,[],bs.length⟩ Tree.done)):aE P f vs bs v bs':=by
 refine kM.Vt (R0:=fun r h n=>∃u,r = .val u/\Weak ⟨[(0,u)],h,n,[],bs.length⟩ ⟨[(0,v)],bz 0 bs',bs'.length,[],bs.length⟩) (qX hf hn (WT.mono ?_ _ hw)) ?_
 ·rintro e st ⟨he,hd,vs,hr,hw⟩
  refine ⟨st,.inl rfl,?_⟩
  rcases he with rfl|rfl<;>exact ⟨hd,vs,hr,_,rfl,hw⟩
 ·rintro r h0 n0 ⟨u,rfl,hw⟩
  exact ⟨u,v,_,_,rfl,hw,rfl,rfl,rfl⟩
theorem aO {m:bE} (hf:aM P f m) (hn:Nat.ble vs.length m.n=true) (hw:WT P (PQ m.res d) (exec m.code ⟨dP 0 vs,bz 0 bs,bs.length,[],bs.length⟩ Tree.done)):lz P f vs bs d:=qX hf hn hw
theorem aF (b:Nat) {res:List gY} {vs' : List V} {st:St} (hd:st.defers=[]) (hr:resV st res=some vs') (hw:Weak ⟨[(0,i7 vs')],st.heap,st.next,[],b⟩ ⟨[(0,v)],bz 0 bs',bs'.length,[],b⟩):WT P (EQ b res v bs') (.done .ret st):=⟨.inr rfl,hd,vs',hr,hw⟩
theorem bG (b:Nat) {res:List gY} {vs' : List V} {st:St} (hd:st.defers=[]) (hr:resV st res=some vs') (hw:Weak ⟨[(0,i7 vs')],st.heap,st.next,[],b⟩ ⟨[(0,v)],bz 0 bs',bs'.length,[],b⟩):WT P (EQ b res v bs') (.done .normal st):=⟨.inl rfl,hd,vs',hr,hw⟩
theorem aP {res:List gY} {st:St} (hd:st.defers=[]):WT P (PQ res d) (.done (.panic d) st):=⟨st,.inl rfl,hd,rfl⟩
end
end Uw
namespace Uw
open Go Go.RowKit
variable [Glob]
def PI (P:Program) (f:FuncId) (vs:List V) (h:Heap) (nx:Nat) (Q:Res->Heap->Nat->Prop):Prop:=
 mN P f/\∀(c:Cx) (w0:World) (F:Fr) (gvs:List Value) (u:FrameMode),c.heap=h->c9 c w0 nx->F.K<=nx->F.p c->ay c vs gvs->
  CallsD P f gvs.toArray u c.w fun e u' w'=>u' = u/\∃c' r nx',c'.B=c.B/\c'.J0=c.J0/\c'.w=w'/\c9 c' w0 nx'/\nx<=nx'/\F.p c'/\xK c' e r/\Q r c'.heap nx'
theorem Du {P:Program} {f:FuncId} {m:bE} (hf:aM P f m) {vs:List V} {h:Heap} {nx:Nat} {Q:Res->Heap->Nat->Prop} (hn:Nat.ble vs.length m.n=true)
  (hw:WT P (fun e st=>∃st',(st' = st\/Weak st st')/\Dp m.res Q e st') (exec m.code ⟨dP 0 vs,h,nx,[],nx⟩ Tree.done)):PI P f vs h nx Q:=by
 refine ⟨hf.body,?_⟩;obtain ⟨fn,code,h1,h2,h0,h3,h4,h5⟩:=hf;rintro c w0 F gvs u rfl hh hF hp hv
 let F' : Fr:=⟨nx,F.p,fun c c' he hc=>F.ok c c' (he.mono hF) hc⟩
 refine callsD_of_wp h1 h2 ?_;rw [h3];refine Code.wp_mono ?_ (jv (plainW P) code m.code h5 (.inl rfl) Tree.done _ _ _ (Rel.enter (F:=F') hh (aax _) hp hv (aaO hn)) hw);intro e a' w' HM;obtain ⟨c',me,st',e1,e2,e3,e4,e5,e6⟩:=HM.weak;subst e3;simp only [WT] at e6;have hnx:nx<=st'.next:=aa7 e5.kx e5.base;have hdef:st'.defers=[]->a'.defers=[]:=fun hd=>by have:=e5.defers;rw [hd] at this;exact this
 have key:(st'.defers=[]/\∃vs,resV st' m.res=some vs/\Q (.val (i7 vs)) st'.heap st'.next)->a'.defers=[]/\∃v,(results fn a'.tmps).run P c'.w = .ok v c'.w/\(∃c'' r nx',c''.B=c.B/\c''.J0=c.J0/\c''.w=c'.w/\c9 c'' w0 nx'/\nx<=nx'/\F.p c''/\xK c'' (.returned v) r/\Q r c''.heap nx'):=by
  rintro ⟨hd,vs',hvs,hq⟩;obtain ⟨us,f1,f2⟩:=jL (P:=P) e5 h4 hvs;refine ⟨hdef hd,_,gB f1,c',.val (i7 vs'),st'.next,e1,e2,rfl,e5.hrel,hnx,e5.frames,tJ f2,?_⟩;rw [e5.heap];exact hq
 cases e with
 | normal=>cases me<;>simp only [bB] at e4;exact key e6
 | ret=>cases me<;>simp only [bB] at e4;exact key e6
 | exit id=>cases me<;>simp only [bB] at e4;exact e6.elim
 | goto l=>cases me<;>simp only [bB] at e4
 | panic ch=>
  cases me<;>simp only [bB] at e4
  rename_i d;obtain ⟨hd,hq⟩:=e6;exact ⟨hdef hd,c',.pan d,st'.next,e1,e2,rfl,e5.hrel,hnx,e5.frames,e4,by rw [e5.heap];exact hq⟩
 | outgrown=>cases me<;>simp only [bB] at e4
def Yq (P:Program) (res:List gY) (Q:Res->Heap->Nat->Prop) (e:aG) (st:St):Prop:=
 Dp res Q e st\/((e = .normal\/e = .ret)/\∃g fs cs,st.defers=[.func g fs cs]/\
  PI P g (fs++cs) st.heap st.next fun r h' nx'=>(∃v,r = .val v)/\∃vs,resV { st with heap:=h',next:=nx',defers:=[] } res=some vs/\Q (.val (i7 vs)) h' nx')
theorem Dv {P:Program} {f:FuncId} {m:bE} (hf:aM P f m) {vs:List V} {h:Heap} {nx:Nat} {Q:Res->Heap->Nat->Prop} (hn:Nat.ble vs.length m.n=true)
  (hw:WT P (fun e st=>∃st',(st' = st\/Weak st st')/\Yq P m.res Q e st') (exec m.code ⟨dP 0 vs,h,nx,[],nx⟩ Tree.done)):kM P f vs h nx Q:=by
 refine ⟨hf.body,?_⟩;obtain ⟨fn,code,h1,h2,h0,h3,h4,h5⟩:=hf;rintro c w0 F gvs rfl hh hF hp hv
 let F' : Fr:=⟨nx,F.p,fun c c' he hc=>F.ok c c' (he.mono hF) hc⟩
 refine calls_of_wp_defers h1 h2 ?_;rw [h3];refine Code.wp_mono ?_ (jv (plainW P) code m.code h5 (.inl rfl) Tree.done _ _ _ (Rel.enter (F:=F') hh (aax _) hp hv (aaO hn)) hw);intro e a' w' HM;obtain ⟨c',me,st',e1,e2,e3,e4,e5,e6⟩:=HM.weak;subst e3;simp only [WT] at e6;have hnx:nx<=st'.next:=aa7 e5.kx e5.base;have hdef:st'.defers=[]->a'.defers=[]:=fun hd=>by have:=e5.defers;rw [hd] at this;exact this
 rcases e6 with e6|⟨hret,g,fs,cs,hdf,O2⟩
 ·have key:(st'.defers=[]/\∃vs,resV st' m.res=some vs/\Q (.val (i7 vs)) st'.heap st'.next)->Leaves P fn a'.tmps (fun e w'=>∃c'' r nx',c''.B=c.B/\c''.J0=c.J0/\c''.w=w'/\c9 c'' w0 nx'/\nx<=nx'/\F.p c''/\xK c'' e r/\Q r c''.heap nx') a'.defers .returning c'.w:=by
   rintro ⟨hd,vs',hvs,hq⟩;obtain ⟨us,f1,f2⟩:=jL (P:=P) e5 h4 hvs;rw [hdef hd];refine ⟨_,gB f1,c',.val (i7 vs'),st'.next,e1,e2,rfl,e5.hrel,hnx,e5.frames,tJ f2,?_⟩;rw [e5.heap];exact hq
  cases e with
  | normal=>cases me<;>simp only [bB] at e4;exact key e6
  | ret=>cases me<;>simp only [bB] at e4;exact key e6
  | exit id=>cases me<;>simp only [bB] at e4;exact e6.elim
  | goto l=>cases me<;>simp only [bB] at e4
  | panic ch=>
   cases me<;>simp only [bB] at e4
   rename_i d;obtain ⟨hd,hq⟩:=e6;show Leaves P fn a'.tmps _ a'.defers (.panicking ch) c'.w;rw [hdef hd];exact ⟨c',.pan d,st'.next,e1,e2,rfl,e5.hrel,hnx,e5.frames,e4,by rw [e5.heap];exact hq⟩
  | outgrown=>cases me<;>simp only [bB] at e4
 ·have hd:=e5.defers
  rw [hdf] at hd;obtain ⟨dd,ds',f',first,cap,us,ws,hd1,hd2,hd3,hd4,hd5,hd6⟩:=hd;simp only [V.func.injEq] at hd2;obtain ⟨rfl,rfl,rfl⟩:=hd2;simp only [cH] at hd6;subst hd6 hd3;have key:Leaves P fn a'.tmps (fun e w'=>∃c'' r nx',c''.B=c.B/\c''.J0=c.J0/\c''.w=w'/\c9 c'' w0 nx'/\nx<=nx'/\F.p c''/\xK c'' e r/\Q r c''.heap nx') a'.defers .returning c'.w:=by
   rw [hd1];refine leaves_cons (by simp) (Ap O2.1) ?_;have hs:=O2.2 c' w0 (xU F' st' a' e5.frK) (us++ws) .returning e5.heap e5.hrel (aax _) e5.RZ (hd4.append hd5);rw [<- acn] at hs;refine hs.mono ?_;rintro e' u' w' ⟨rfl,c'',r,nx',pB,pJ,rfl,pH,pn,pF,pE,⟨v,rfl⟩,vs',q1,q2⟩;have r':=e5.V1 pF pH pn
   cases e' with
   | returned gv=>
    obtain ⟨us2,f1,f2⟩:=jL (P:=P) (st:={ st' with heap:=c''.heap,next:=nx',defers:=[] }) (c:=c'') (w0:=w0) (n:=m.n) (gs:=F') (a:={ a' with defers:=[] }) ⟨r'.heap,r'.hrel,r'.size,r'.regs,r'.frames,r'.kx,r'.base,rfl⟩ h4 q1;exact ⟨_,gB f1,c'',.val (i7 vs'),nx',pB.trans e1,pJ.trans e2,rfl,pH,aa7 hnx pn,r'.frames,tJ f2,q2⟩
   | panicked ch=>exact pE.elim
   | outgrown=>exact pE.elim
  cases e with
  | normal=>exact key
  | ret=>exact key
  | exit id=>rcases hret with rfl|rfl<;>cases e4
  | goto l=>cases me<;>simp only [bB] at e4
  | panic ch=>rcases hret with rfl|rfl<;>cases e4
  | outgrown=>cases me<;>simp only [bB] at e4
theorem JC {ids:List Nat} {nx j:Nat} (hj:j<nx) (hn:ids.contains j=false) (i:Nat):nameOf ids nx i≠j:=by
 intro e
 rcases aa2 i ids.length with h|h
 ·have:=wh (nx:=nx) h
  rw [e] at this;rw [List.contains_eq_mem] at hn;simp at hn;exact hn this
 ·rw [mP h] at e
  omega
theorem Weak.rest {ids:List Nat} {nx:Nat} {h0 H H' : Heap} {n n' : Nat} {regs Vu : gw} {ds:List V} {b:Nat} (hR:∀p∈Vu,look regs p.1=some p.2/\p.2.closed H' = true/\p.2=p.2.ren (dx [])) (hH:∀p∈H',p.1<n'/\p.1<nx/\ids.contains p.1=false/\look H p.1=look H' p.1/\p.2.closed H' = true/\p.2=p.2.ren (dx []))
  (hc:cQ H' ds=true) (hd:ds=gk (dx []) ds) (hb:b=0):Weak ⟨regs,vi (nameOf ids nx) h0++H,n,ds,b⟩ ⟨Vu,H',n',ds,b⟩:=by
 have hl:∀{α:Type} (l:List (Nat×α)) (i:Nat) (x:α),look l i=some x->(i,x)∈l:=by
  intro α l
  induction l with
  | nil=>intro i x h;simp [look] at h
  | cons p l ih=>
   intro i x h;obtain ⟨j,y⟩:=p;rw [ai] at h;by_cases e:j=i
   ·subst e;rw [if_pos rfl] at h;injection h with h;subst h;exact aaV ..
   ·rw [if_neg e] at h;exact aaL _ (ih i x h)
 refine ⟨dx [],?_,?_,?_,rfl,?_,?_,fun _ _ _ _ e=>e,hc,?_⟩
 ·intro i v' h
  obtain ⟨h1,h2,h3⟩:=hR _ (hl _ _ _ h);exact ⟨v',h1,.inl ⟨h3,h2⟩⟩
 ·intro id b' h
  obtain ⟨_,h2,h3,h4,h5,h6⟩:=hH _ (hl _ _ _ h);refine .inl ⟨b',?_,eh h6 h5⟩;show look (vi (nameOf ids nx) h0++H) id=_;rw [ly,jZ (JC h2 h3)];show look H id=_;rw [h4,h]
 ·intro id x h
  exact (hH _ (hl _ _ _ h)).1
 ·subst hb;exact abr _
 ·subst hb;intro id h;exact absurd h (ab9 _)
 ·exact hd
section
variable {P : Program} {Q : aG -> St -> Prop} {f : FuncId} {vs vs0 : List V} {H : Heap} {k : Res -> Heap -> Nat -> Tree} {bs bs' : List Blk} {v : V} {d : Dat}
theorem SX (nx:Nat) (ids:List Nat) (hs:lz P f vs0 bs d) (h2:∀h0 n0,WT P Q (k (.pan d) (vi (nameOf ids nx) h0++H) (nx+(n0 - ids.length))))
  (hm:Nat.ble ids.length bs.length=true:=by rfl) (Ds:(ids.all fun a=>Nat.blt a nx)=true:=by rfl) (hnd:vj ids=true:=by rfl)
  (hfit:MW (nameOf ids nx) H (bz 0 bs) 0 bs:=by
   repeat' first
    | exact trivial
    | refine And.intro (Or.inl ⟨_,rfl,⟨rfl,rfl⟩⟩) ?_
    | refine And.intro (Or.inl ⟨_,rfl,⟨rfl,rfl,rfl⟩⟩) ?_
    | refine And.intro (Or.inl ⟨_,rfl,?_⟩) ?_
    | refine And.intro (Or.inr ⟨rfl,rfl⟩) ?_
    | refine And.intro (Or.inr ⟨rfl,rfl,rfl⟩) ?_
    | exact dc (by first|with_reducible rfl|assumption|omega)
    | exact Aq (by first|with_reducible rfl|assumption|omega|(simp;done)|(simp;omega)) rfl rfl
    | exact Or.inl ⟨rfl,rfl⟩
    | exact Or.inr (Or.inl ⟨rfl,by first|exact ⟨_,_,_,rfl,rfl,Or.inl rfl⟩|exact ⟨_,_,_,rfl,rfl,Or.inr rfl⟩⟩)
    | refine And.intro ?_ ?_)
  (hvs:VWL (nameOf ids nx) H (bz 0 bs) vs vs0:=by
   repeat' first
    | exact trivial
    | refine And.intro (dc (by first|with_reducible rfl|assumption|omega)) ?_
    | refine And.intro (Or.inl ⟨rfl,rfl⟩) ?_
    | refine And.intro (Or.inr (Or.inl ⟨rfl,by first|exact ⟨_,_,_,rfl,rfl,Or.inl rfl⟩|exact ⟨_,_,_,rfl,rfl,Or.inr rfl⟩⟩)) ?_):WT P Q (.sub f vs H nx k):=by
 refine PH ids hs hm Ds hnd hfit hvs ?_;rintro r0 h0 n0 rfl;exact h2 _ _
end
end Uw
namespace Uw
open Go Go.RowKit
variable [Glob]
section
variable {c : Cx} {w0 : World} {nx : Nat} {J : Nat -> Nat -> Prop} (hh : c9 c w0 nx) (hk : Keeps c.w c.w (Imm c) J)
include hh hk
theorem WG {id ver off len k:Nat} {xs:List (List Dat)} {gv:Value} (hl:look c.heap id=some (.mt k ver xs)) (hnew:0<(c.pl id).cap->∀o,J (c.pl id).gb o) (h:aB c (.ref id ver off len) gv):aI c.w J (.slice k ((xs.drop off).take len) false) gv:=by
 simp only [aB,hl] at h;obtain ⟨_,_,h⟩:=h;obtain ⟨h1,h2⟩:=h rfl;have hlen:((xs.drop off).take len).length=len:=by simp;omega
 rcases h2 with ⟨h2,h3,_⟩|⟨b,o,h2,h3⟩
 ·exact .inl ⟨⟨_,h2,by simp⟩,aaM (by omega)⟩
 ·obtain ⟨b3,b4,bb⟩:=hh.blk id _ hl
  refine .inr ⟨b,o,(c.pl id).cap - off,by rw [hlen];exact h2,by rw [hlen];omega,by simp,?_⟩;by_cases hl0:len=0
  ·subst hl0;simp [cS]
  ·obtain ⟨vs,e,g1,g2,g3,g4⟩:=bb (by omega)
   obtain ⟨rfl,rfl⟩:=h3 (by omega);have hfl:=nC b4 off len (by omega);refine cS.of_flat (us:=((vs.toList.take (xs.length * k)).drop (off * k)).take (len * k)) (fun x hx=>b4 x (abP (abD hx))) ?_ ?_
   ·rw [hfl];exact bp.keep hk _ _ ((g3.drop _).take _)
   ·intro j v hv
    refine ⟨?_,hnew (by omega) _,g4 v (abP (abD (aaR hv)))⟩;rw [aaH] at hv
    split at hv
    ·rw [abq,aaH] at hv
     split at hv
     ·rw [ct g1];simpa using hv
     ·simp at hv
    ·simp at hv
def frz (h h' : Heap):List V->Option (List Dat)
 | []=>some []
 | .d x::r=>(frz h h' r).map (x::·)
 | .ref id ver off len::r=>match look h id,look h' id,frz h h' r with
  | some (.arr k xs),_,some l=>some (.slice k ((xs.drop off).take len) false::l)
  | some (.mt k dU xs),none,some l=>match Nat.beq ver dU with
   | true=>some (.slice k ((xs.drop off).take len) false::l)
   | false=>none
  | _,_,_=>none
 | _=>none
theorem zA {h' : Heap} (hnew:∀id k ver xs,look c.heap id=some (.mt k ver xs)->look h' id=none->0<(c.pl id).cap->∀o,J (c.pl id).gb o):∀{vs:List V} {ds:List Dat} {us:List Value},frz c.heap h' vs=some ds->ay c vs us->bp c.w J ds us
 | [],ds,us,h,r=>by simp [frz] at h;subst h;simpa [bp,ay] using r
 | v::vs,ds,us,h,r=>by
  obtain ⟨u,us',rfl,r1,r2⟩:=r;unfold frz at h
  split at h
  ·rename_i heq;simp at heq
  ·rename_i x rr heq
   simp only [abE] at heq;obtain ⟨rfl,rfl⟩:=heq;rw [aaC] at h;obtain ⟨l,hl,rfl⟩:=h;exact ⟨u,us',rfl,aI.keep hk _ _ r1,zA hnew hl r2⟩
  ·rename_i id ver off len rr heq
   simp only [abE] at heq;obtain ⟨rfl,rfl⟩:=heq
   split at h
   ·rename_i k xs _ l hl1 hl2
    simp at h;subst h;exact ⟨u,us',rfl,aI.keep hk _ _ (tG hl1 r1),zA hnew hl2 r2⟩
   ·rename_i k dU xs l hl1 hl2 hl3
    split at h
    ·rename_i hb
     simp at h;subst h;have hb:=aaB hb;subst hb;exact ⟨u,us',rfl,WG hh hk hl1 (hnew _ _ _ _ hl1 hl2) r1,zA hnew hl3 r2⟩
    ·simp at h
   ·simp at h
  ·simp at h
end
mutual
theorem PK:∀v:V,v.ren (dx [])=v
 | .ptr id o=>rfl
 | .nu id v i c=>rfl
 | .ref id v o l=>rfl
 | .agg cs=>by rw [V.ren,ng cs]
 | .func f fs cs=>by rw [V.ren,ng fs,ng cs]
 | .tuple cs=>by rw [V.ren,ng cs]
 | .d x=>rfl
 | .ro cs o=>rfl
 | .hnd id=>rfl
 | .row id len=>rfl
 | .undef=>rfl
theorem ng:∀l:List V,gk (dx []) l=l
 | []=>rfl
 | v::r=>by rw [gk,PK v,ng r]
end
theorem kM.freeze {P:Program} {f:FuncId} {vs:List V} {h:Heap} {nx:Nat} {R0 R:Res->Heap->Nat->Prop} (hs:kM P f vs h nx R0)
  (hq:∀r h0 n0,R0 r h0 n0->∃cs ds h1 n1,r = .val (.agg cs)/\frz h0 h1 cs=some ds/\(∀id x,look h1 id=some x->look h0 id=some x/\x.closed h1=true/\id<n1)/\nx<=n1/\(∀id,id<nx->(look h0 id).isSome=true->(look h1 id).isSome=true)/\R (.val (.agg (ds.map V.d))) h1 n1):kM P f vs h nx R:=by
 refine ⟨hs.1,fun c w0 F gvs h1 h2 h3 h4 h5=>(hs.2 c w0 F gvs h1 h2 h3 h4 h5).mono ?_⟩;rintro e w' ⟨c',r,nx',e1,e2,e3,e4,e5,e6,e7,e8⟩;obtain ⟨cs,ds,h1',n1,rfl,hd,hw,hn1,hkp,hr⟩:=hq _ _ _ e8
 cases e with
 | returned gv=>
  obtain ⟨us,rfl,e7⟩:=e7;have r0:Rel c' w0 0 F ⟨[],c'.heap,nx',[],nx⟩ { tmps:=#[],defers:=[] }:=
   ⟨rfl,e4,rfl,fun i v hv=>by simp [look] at hv,e6,h3,e5,rfl⟩
  have hwr:yJ (dx []) ⟨[],c'.heap,nx',[],nx⟩ ⟨[],h1',n1,[],nx⟩:=by
   refine ⟨fun i v hv=>by simp [look] at hv,fun i x hx=>.inl ⟨x,(hw i x hx).1,eh ?_ (hw i x hx).2.1⟩,fun i x hx=>(hw i x hx).2.2,rfl,hn1,fun id hid=>⟨rfl,hkp id hid⟩,fun id id' _ _ he=>he,rfl,rfl⟩
   cases x with
   | var cs=>show Blk.var cs=Blk.var (gk (dx []) cs);rw [ng]
   | _=>rfl
  have r1:=r0.OO hwr;have hs' : ∀id b',look h1' id=some b'->(∃b,look c'.heap (dx [] id)=some b/\oH (dx []) c'.heap h1' b b')\/(look c'.heap (dx [] id)=none/\jK b'):=hwr.heap;refine ⟨c'.weak (dx []) h1',.val (.agg (ds.map V.d)),n1,e1,e2,e3,r1.hrel,hn1,r1.frames,?_,hr⟩;refine ⟨us,rfl,ay.ofL ?_⟩;refine zA (c:=c') e4 (jB hs') ?_ hd e7;intro id k ver xs hl hl1 hcap o;refine .inr ⟨e4.ge id _ hl hcap,e4.jX hl hcap,fun id2 WH g1 g2 g3=>?_⟩;exfalso;obtain ⟨k1,_,_⟩:=hw id2 WH g1;have hp:(c'.weak (dx []) h1').pl id2=c'.pl id2:=gA hs' k1;rw [hp] at g2 g3;have:=e4.inj id2 id WH _ k1 hl g2 hcap g3;subst this;have g1:look h1' id2=some WH:=g1;rw [hl1] at g1;cases g1
 | panicked ch=>exact e7.elim
 | outgrown=>exact e7.elim
end Uw
namespace Uw
open Go
noncomputable def runT (res:List gY) (t:Tree):List Dat->Option (List (FuncId×List Dat)×Dat):=
 Tree.rec (motive:=fun _=>List Dat->Option (List (FuncId×List Dat)×Dat))
  (fun e st _=>match e with
   | .ret=>match st.defers,resV st res with
    | [],some vs=>match dY st.heap vs,xZ st.heap vs with
     | some ds,true=>some ([],kB ds)
     | _,_=>none
    | _,_=>none
   | _=>none)
  (fun _=>none)
  (fun b _ _ y n as=>match b with|true=>y as|false=>n as)
  (fun _ _ _ _ _=>none)
  (fun _ _ _ _ _=>none)
  (fun xs i _ k as=>match xs[i]? with|some x=>k x as|none=>none)
  (fun s i _ k as=>match s[i]? with|some x=>k x as|none=>none)
  (fun o _ k as=>match o with|some x=>k x as|none=>none)
  (fun o _ k as=>match o with|some x=>k x as|none=>none)
  (fun o _ k as=>match o with|some x=>k x as|none=>none)
  (fun h _ k as=>k h as)
  (fun f ds _ k as=>match as with|r::rs=>(match k r rs with|some (cs,d)=>some ((f,ds)::cs,d)|none=>none)|[]=>none)
  (fun _ _ _ _ _ _ _=>none)
  (fun _ _ _ _ _=>none)
  t
variable [Glob]
def JD (P:Program):List (FuncId×List Dat)->List Dat->Prop
 | [],_=>True
 | (f,ds)::cs,r::rs=>Ret P f ds r/\JD P cs rs
 | _::_,[]=>False
theorem SY {P:Program} {res:List gY} {r:Dat}:∀(t:Tree) (as:List Dat) (cs:List (FuncId×List Dat)),runT res t as=some (cs,r)->JD P cs as->WT P (Fp res r) t:=by
 intro t
 induction t with
 | done e st=>
  intro as cs h _
  cases e with
  | ret=>
   simp only [runT] at h
   split at h
   ·rename_i hd hv
    split at h
    ·rename_i h1 h2
     injection h with h
     injection h with h0 h
     exact aC hd hv h1 h2 h
    ·cases h
   ·cases h
  | normal=>cases h
  | exit _=>cases h
  | panic _=>cases h
 | fail=>intro as cs h _;cases h
 | test b y n hy hn=>
  intro as cs h ha
  cases b with
  | true=>exact SD rfl (hy as cs h ha)
  | false=>exact MN rfl (hn as cs h ha)
 | both=>intro as cs h _;cases h
 | same=>intro as cs h _;cases h
 | elem xs i k ih=>
  intro as cs h ha
  cases hx:xs[i]? with
  | none=>simp only [runT,hx] at h;cases h
  | some x=>simp only [runT,hx] at h;exact jx x hx (ih x as cs h ha)
 | byte xs i k ih=>
  intro as cs h ha
  cases hx:xs[i]? with
  | none=>simp only [runT,hx] at h;cases h
  | some x=>simp only [runT,hx] at h;exact zx x hx (ih x as cs h ha)
 | val o k ih=>
  intro as cs h ha
  cases o with
  | none=>cases h
  | some x=>exact OU x rfl (ih x as cs h ha)
 | blk o k ih=>
  intro as cs h ha
  cases o with
  | none=>cases h
  | some x=>exact lY x rfl (ih x as cs h ha)
 | Dm o k ih=>
  intro as cs h ha
  cases o with
  | none=>cases h
  | some x=>exact zy x rfl (ih x as cs h ha)
 | heq hh k ih=>intro as cs h ha;exact KT (ih hh as cs h ha)
 | call f ds k ih=>
  intro as cs h ha
  cases as with
  | nil=>cases h
  | cons a as=>
   cases hk:runT res (k a) as with
   | none=>
    have h:(match runT res (k a) as with|some (cs,d)=>some ((f,ds)::cs,d)|none=>none)=some (cs,r):=h;rw [hk] at h;cases h
   | some y=>
    have h:(match runT res (k a) as with|some (cs,d)=>some ((f,ds)::cs,d)|none=>none)=some (cs,r):=h;rw [hk] at h;obtain ⟨cs2,d⟩:=y;injection h with h
    injection h with h1 h2
    subst h1 h2;exact Ft a ha.1 (ih a as cs2 hk ha.2)
 | sub=>intro as cs h _;cases h
 | code=>intro as cs h _;cases h
theorem PL {P:Program} {f:FuncId} {m:bE} (hf:aM P f m) {args:List Dat} {r:Dat} (cs:List (FuncId×List Dat)) (as:List Dat) (hn:Nat.ble args.length m.n=true) (h:runT m.res (exec m.code (lX args) Tree.done) as=some (cs,r)) (ha:JD P cs as):Ret P f args r:=aU hf hn (SY _ _ _ h ha)
end Uw
namespace Uw
open Go
structure Ev where
 F:FuncId->List Dat->Option Dat
 L:ck->St->Option (aG×St)
 S:FuncId->List V->Heap->Nat->Option (V×Heap×Nat)
noncomputable def evT (E:Ev) (t:Tree):Option (aG×St):=
 Tree.rec (motive:=fun _=>Option (aG×St))
  (fun e st=>some (e,st))
  none
  (fun b _ _ y n=>match b with|true=>y|false=>n)
  (fun _ _ _ _=>none)
  (fun _ _ _ _=>none)
  (fun xs i _ k=>match xs[i]? with|some x=>k x|none=>none)
  (fun s i _ k=>match s[i]? with|some x=>k x|none=>none)
  (fun o _ k=>match o with|some x=>k x|none=>none)
  (fun o _ k=>match o with|some x=>k x|none=>none)
  (fun o _ k=>match o with|some x=>k x|none=>none)
  (fun h _ k=>k h)
  (fun f ds _ k=>match E.F f ds with|some r=>k r|none=>none)
  (fun f vs h nx _ k=>match E.S f vs h nx with|some x=>k (.val x.1) x.2.1 x.2.2|none=>none)
  (fun c st _ k=>match c with
   | .loop m=>match E.L m st with|some x=>k x.1 x.2|none=>none
   | _=>none)
  t
noncomputable def K2 (res:List gY) (x:aG×St):Option Dat:=
 match x.1,x.2.defers,resV x.2 res with
 | .ret,[],some vs=>match dY x.2.heap vs,xZ x.2.heap vs with
  | some ds,true=>some (kB ds)
  | _,_=>none
 | .normal,[],some vs=>match dY x.2.heap vs,xZ x.2.heap vs with
  | some ds,true=>some (kB ds)
  | _,_=>none
 | _,_,_=>none
noncomputable def K3 (res:List gY) (x:aG×St):Option (V×Heap×Nat):=
 match x.1,x.2.defers,resV x.2 res with
 | .ret,[],some vs=>some (i7 vs,x.2.heap,x.2.next)
 | .normal,[],some vs=>some (i7 vs,x.2.heap,x.2.next)
 | _,_,_=>none
noncomputable def WI (tab:List (Nat×bE)) (E:Ev):Ev where
 F:=fun f ds=>match look tab f with
  | some m=>match Nat.ble ds.length m.n with
   | true=>match evT E (exec m.code (lX ds) Tree.done) with
    | some x=>K2 m.res x
    | none=>none
   | false=>none
  | none=>none
 L:=fun m st=>match evT E (exec m st Tree.done) with
  | some (.normal,st')=>E.L m st'
  | r=>r
 S:=fun f vs h nx=>match look tab f with
  | some m=>match Nat.ble vs.length m.n with
   | true=>match evT E (exec m.code ⟨dP 0 vs,h,nx,[],nx⟩ Tree.done) with
    | some x=>K3 m.res x
    | none=>none
   | false=>none
  | none=>none
noncomputable def evN (tab:List (Nat×bE)) (n:Nat):Ev:=Nat.rec (motive:=fun _=>Ev) ⟨fun _ _=>none,fun _ _=>none,fun _ _ _ _=>none⟩ (fun _ E=>WI tab E) n
variable [Glob]
structure Yr (P:Program) (E:Ev):Prop where
 F:∀f ds r,E.F f ds=some r->Ret P f ds r
 L:∀m st e st',E.L m st=some (e,st')->e≠.normal/\∃N,∀Q:aG->St->Prop,Q e st'->Rounds P m Q N st
 S:∀f vs h nx v h' n',E.S f vs h nx=some (v,h',n')->kM P f vs h nx fun r h2 n2=>r = .val v/\h2=h'/\n2=n'
theorem FD {P:Program} {E:Ev} (hE:Yr P E) {Q:aG->St->Prop}:∀(t:Tree) (e:aG) (st:St),evT E t=some (e,st)->Q e st->WT P Q t:=by
 intro t
 induction t with
 | done e0 st0=>
  intro e st h hq;injection h with h
  injection h with h1 h2
  subst h1 h2;exact hq
 | fail=>intro e st h _;cases h
 | test b y n hy hn=>
  intro e st h hq
  cases b with
  | true=>exact SD rfl (hy e st h hq)
  | false=>exact MN rfl (hn e st h hq)
 | both=>intro e st h _;cases h
 | same=>intro e st h _;cases h
 | elem xs i k ih=>
  intro e st h hq
  cases hx:xs[i]? with
  | none=>simp only [evT,hx] at h;cases h
  | some x=>simp only [evT,hx] at h;exact jx x hx (ih x e st h hq)
 | byte xs i k ih=>
  intro e st h hq
  cases hx:xs[i]? with
  | none=>simp only [evT,hx] at h;cases h
  | some x=>simp only [evT,hx] at h;exact zx x hx (ih x e st h hq)
 | val o k ih=>
  intro e st h hq
  cases o with
  | none=>cases h
  | some x=>exact OU x rfl (ih x e st h hq)
 | blk o k ih=>
  intro e st h hq
  cases o with
  | none=>cases h
  | some x=>exact lY x rfl (ih x e st h hq)
 | Dm o k ih=>
  intro e st h hq
  cases o with
  | none=>cases h
  | some x=>exact zy x rfl (ih x e st h hq)
 | heq hh k ih=>intro e st h hq;exact KT (ih hh e st h hq)
 | call f ds k ih=>
  intro e st h hq
  cases hx:E.F f ds with
  | none=>simp only [evT,hx] at h;cases h
  | some x=>simp only [evT,hx] at h;exact Ft x (hE.F f ds x hx) (ih x e st h hq)
 | sub f vs hh nx k ih=>
  intro e st h hq
  cases hx:E.S f vs hh nx with
  | none=>simp only [evT,hx] at h;cases h
  | some x=>
   obtain ⟨v,h',n'⟩:=x;simp only [evT,hx] at h;refine OV (hE.S f vs hh nx v h' n' hx) ?_;rintro r h2 n2 ⟨rfl,rfl,rfl⟩;exact ih (.val v) h2 n2 e st h hq
 | code c st0 k ih=>
  intro e st h hq
  cases c with
  | loop m=>
   cases hx:E.L m st0 with
   | none=>simp only [evT,hx] at h;cases h
   | some x=>
    obtain ⟨e1,st1⟩:=x;simp only [evT,hx] at h;obtain ⟨_,N,hN⟩:=hE.L m st0 e1 st1 hx;exact fV N (hN _ (ih e1 st1 e st h hq))
  | skip=>cases h
  | ops=>cases h
  | seq=>cases h
  | cond=>cases h
  | block=>cases h
  | exit=>cases h
  | ret=>cases h
  | draw=>cases h
theorem PN {res:List gY} {x:aG×St} {r:Dat} (h:K2 res x=some r):Fp res r x.1 x.2:=by
 unfold K2 at h
 split at h
 ·rename_i h1 h2 h3
  split at h
  ·rename_i h4 h5
   injection h with h
   exact ⟨.inr h1,h2,_,_,h3,h4,h5,h⟩
  ·cases h
 ·rename_i h1 h2 h3
  split at h
  ·rename_i h4 h5
   injection h with h
   exact ⟨.inl h1,h2,_,_,h3,h4,h5,h⟩
  ·cases h
 ·cases h
theorem PO {res:List gY} {x:aG×St} {v:V} {h' : Heap} {n' : Nat} (h:K3 res x=some (v,h',n')):Dp res (fun r h2 n2=>r = .val v/\h2=h'/\n2=n') x.1 x.2:=by
 unfold K3 at h;obtain ⟨e,st⟩:=x
 split at h
 ·rename_i h1 h2 h3
  injection h with h
  injection h with g1 g2
  injection g2 with g2 g3
  simp only at h1 h2 h3 g2 g3;subst h1;exact ⟨h2,_,h3,by rw [g1],g2,g3⟩
 ·rename_i h1 h2 h3
  injection h with h
  injection h with g1 g2
  injection g2 with g2 g3
  simp only at h1 h2 h3 g2 g3;subst h1;exact ⟨h2,_,h3,by rw [g1],g2,g3⟩
 ·cases h
theorem PP {P:Program} {tab:List (Nat×bE)} (ht:∀f m,look tab f=some m->aM P f m):∀n,Yr P (evN tab n)
 | 0=>⟨fun _ _ _ h=>(by cases h),fun _ _ _ _ h=>(by cases h),fun _ _ _ _ _ _ _ h=>(by cases h)⟩
 | n+1=>by
  have ih:=PP ht n;refine ⟨fun f ds r h=>?_,fun m st e st' h=>?_,fun f vs hh nx v h' n' h=>?_⟩
  ·have h:(match look tab f with
    | some m=>match Nat.ble ds.length m.n with
     | true=>match evT (evN tab n) (exec m.code (lX ds) Tree.done) with
      | some x=>K2 m.res x
      | none=>none
     | false=>none
    | none=>none)=some r:=h
   split at h
   ·rename_i m hm
    split at h
    ·rename_i hn
     split at h
     ·rename_i x hx
      exact aU (ht f m hm) hn (FD ih _ x.1 x.2 hx (PN h))
     ·cases h
    ·cases h
   ·cases h
  ·have h:(match evT (evN tab n) (exec m st Tree.done) with
    | some (.normal,st')=>(evN tab n).L m st'
    | r=>r)=some (e,st'):=h
   split at h
   ·rename_i st2 hx
    obtain ⟨h1,N,hN⟩:=ih.L m st2 e st' h;exact ⟨h1,N+1,fun Q hq=>FD ih _ _ _ hx (hN Q hq)⟩
   ·rename_i r hne
    have hx:=h;have hen:e≠.normal:=fun e1=>hne st' (by rw [hx,e1]);refine ⟨hen,1,fun Q hq=>FD ih _ _ _ hx ?_⟩
    cases e with
    | normal=>exact absurd rfl hen
    | exit j=>exact hq
    | ret=>exact hq
    | panic d=>exact hq
  ·have h:(match look tab f with
    | some m=>match Nat.ble vs.length m.n with
     | true=>match evT (evN tab n) (exec m.code ⟨dP 0 vs,hh,nx,[],nx⟩ Tree.done) with
      | some x=>K3 m.res x
      | none=>none
     | false=>none
    | none=>none)=some (v,h',n'):=h
   split at h
   ·rename_i m hm
    split at h
    ·rename_i hn
     split at h
     ·rename_i x hx
      exact KU (ht f m hm) hn (FD ih _ x.1 x.2 hx (PO h))
     ·cases h
    ·cases h
   ·cases h
def PR (P:Program):List (Nat×bE)->Prop
 | []=>True
 | (f,m)::r=>aM P f m/\PR P r
theorem K4 {P:Program}:∀{tab:List (Nat×bE)},PR P tab->∀f m,look tab f=some m->aM P f m
 | [],_,_,_,h=>by cases h
 | (g,a)::r,⟨h1,h2⟩,f,m,h=>by
  rw [ai] at h
  split at h
  ·rename_i e
   injection h with h
   rw [<- e,<- h];exact h1
  ·exact K4 h2 f m h
theorem FG {P:Program} {tab:List (Nat×bE)} (n:Nat) (ht:∀f m,look tab f=some m->aM P f m) {f:FuncId} {ds:List Dat} {r:Dat} (h:(evN tab n).F f ds=some r):Ret P f ds r:=(PP ht n).F f ds r h
end Uw
namespace Uw
open Go Go.RowKit
section
variable {P : Program} [Glob] {Q : aG -> St -> Prop} {t t' : Tree}
end
end Uw
