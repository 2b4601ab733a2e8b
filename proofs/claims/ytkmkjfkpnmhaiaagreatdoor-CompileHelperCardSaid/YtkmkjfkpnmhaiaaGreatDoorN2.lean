/- N2: Uy Uy2 Uy3 Uy4 Uy5 Ul Um Uo Up Uq Uq2 Uq3 Uq4 Un Uz Uz2 Uz3 (merged by merge2.py from the working texts). -/
import Derived.Test.YtkmkjfkpnmhaiaaGreatDoorN1
import Derived.Laws.StructEq
import Derived.Laws.BytesString
import Derived.StillTail
import Derived.LoopN
import Derived.Recover
set_option linter.unusedSimpArgs false
set_option linter.unnecessarySimpa false
set_option linter.unusedVariables false
set_option linter.unusedSectionVars false
namespace Uw
open Go Go.RowKit
variable [Glob]
def yA (P:Program) (Q:aH->St->Prop) (xx:aH->St->Tree) (c:Cx) (w0:World) (n:Nat) (gs:Fr) (st:St) (a:Act) (Qx:Exit->Act->World->Prop):Prop:=
 ∀c' st' d ch,c'.B=c.B->c'.J0=c.J0->Rel c' w0 n gs st' a->st'.regs=st.regs->bG c' (.panic ch) (.panic d)->WT P Q (xx (.panic d) st')->Qx (.panic ch) a c'.w
theorem pK.mono {K K' : Nat} {c c' : Cx} (h:pK K c c') (hk:K'<=K):pK K' c c':=⟨h.keeps,fun id b hid hb=>h.blks id b (by omega) hb⟩
theorem cw.lt {c:Cx} {K:Nat} (h:∀id b,look c.heap id=some b->id<K):∀{vs:List V} {ds:List Deferred},cw c vs ds->ltL K vs
 | [],_,_=>trivial
 | v::vs,ds,⟨d,ds',f,first,cap,fs,cs,h1,h2,h3,h4,h6,h5⟩=>⟨by subst h2;exact ⟨ax.lt h _ _ h4,ax.lt h _ _ h6⟩,cw.lt h h5⟩
theorem cw.tw {K:Nat} {c c' : Cx} (h:pK K c c'):∀{vs:List V} {ds:List Deferred},ltL K vs->cw c vs ds->cw c' vs ds
 | [],_,_,r=>r
 | v::vs,ds,hl,⟨d,ds',f,first,cap,fs,cs,h1,h2,h3,h4,h6,h5⟩=>by
  subst h2;exact ⟨d,ds',f,first,cap,fs,cs,h1,rfl,h3,ax.tw h _ _ hl.1.1 h4,ax.tw h _ _ hl.1.2 h6,cw.tw h hl.2 h5⟩
def yB (gs:Fr) (st:St) (a:Act) (hK:gs.K<=st.next):Fr where
 K:=st.next
 p:=fun c=>(∀i v,look st.regs i=some v->v.lt st.next/\aA c v (a.tmps.getD i undef))/\(ltL st.next st.defers/\cw c st.defers a.defers)/\gs.p c
 ok:=by
  rintro c c' he ⟨h1,⟨h2,h3⟩,h4⟩;exact ⟨fun i v hv=>⟨(h1 i v hv).1,aA.tw he v _ (h1 i v hv).1 (h1 i v hv).2⟩,⟨h2,h3.tw he h2⟩,gs.ok c c' (he.mono hK) h4⟩
theorem Rel.frK {c:Cx} {w0:World} {n:Nat} {gs:Fr} {st:St} {a:Act} (r:Rel c w0 n gs st a):gs.K<=st.next:=Nat.le_trans r.mK r.base
theorem Rel.Rx {c:Cx} {w0:World} {n:Nat} {gs:Fr} {st:St} {a:Act} (r:Rel c w0 n gs st a):(yB gs st a r.frK).p c:=
 ⟨fun i v hv=>⟨aA.lt r.hrel.lt v _ (r.regs i v hv),r.regs i v hv⟩,⟨cw.lt r.hrel.lt r.defers,r.defers⟩,r.frames⟩
theorem Rel.TW {c c' : Cx} {w0:World} {n:Nat} {gs:Fr} {st:St} {a:Act} (r:Rel c w0 n gs st a) {nx:Nat} (hp:(yB gs st a r.frK).p c') (hh:cZ c' w0 nx) (hn:st.next<=nx):Rel c' w0 n gs { st with heap:=c'.heap,next:=nx } a:=
 ⟨rfl,hh,r.size,fun i v hv=>(hp.1 i v hv).2,hp.2.2,r.mK,Nat.le_trans r.base hn,hp.2.1.2⟩
theorem mapA (f:Operand->Value) (xs:Array Operand):(xs.toList.map f).toArray=xs.map f:=by rw [<- Array.toList_map]
section
variable {P : Program} {Q : aH -> St -> Prop} {q : V -> St -> Tree} {c : Cx} {w0 : World} {n : Nat} {gs : Fr} {st : St} {a : Act} {K : Act -> World -> Prop} {Qx : Exit -> Act -> World -> Prop} {o : Oper} {xx : aH -> St -> Tree}
theorem kL (r:Rel c w0 n gs st a):∀{xs:List Operand} {ys:List Opd} {vs:List V},dQ xs=some ys->d6 st ys=some vs->ax c vs (xs.map a.eval):=by
 intro xs
 induction xs with
 | nil=>intro ys vs h1 h2;simp [dQ] at h1;subst h1;simp [d6] at h2;subst h2;simp [ax]
 | cons x xs ih=>
  intro ys vs h1 h2;unfold dQ at h1
  split at h1
  ·rename_i y l g1 g2
   simp at h1;subst h1;unfold d6 at h2
   split at h2
   ·rename_i v l' f1 f2
    simp at h2;subst h2;exact ⟨_,_,rfl,aD r g1 f1,ih g2 f2⟩
   ·simp at h2
  ·simp at h1
theorem ax.append {c:Cx}:∀{xs ys:List V} {vs us:List Value},ax c xs vs->ax c ys us->ax c (xs++ys) (vs++us)
 | [],ys,vs,us,h1,h2=>by simp [ax] at h1;subst h1;simpa using h2
 | x::xs,ys,vs,us,h1,h2=>by
  obtain ⟨v,vs',rfl,g1,g2⟩:=h1;exact ⟨v,vs'++us,rfl,g1,ax.append g2 h2⟩
theorem yC (r:Rel c w0 n gs st a) (hK:bn P Q q c w0 n gs st a o.dst K) (hX:yA P Q xx c w0 n gs st a Qx) {f:FuncId} {vs:List V} {gvs:List Value} (hrun:(execOp a.eval o).run P c.w = .ok (.enter f gvs.toArray) c.w) (hvs:ax c vs gvs)
  (h:l5 P f vs st.heap st.next fun rr h' nx'=>WT P Q (match rr with | .val v=>q v { st with heap:=h',next:=nx' } | .pan d=>xx (.panic d) { st with heap:=h',next:=nx' })):o.wp P a c.w K Qx:=by
 unfold Oper.wp;rw [hrun];have h2:=h.2 c w0 (yB gs st a r.frK) gvs r.heap r.hrel (Nat.le_refl _) r.Rx hvs;refine h2.mono ?_;rintro e w' ⟨c',rr,nx',pB,pJ,rfl,pH,pn,pF,pE,pQ⟩;have r':=r.TW pF pH pn
 cases e with
 | returned gv=>
  cases rr with
  | val v=>exact hK c' _ v gv pB pJ r' rfl pE pQ
  | pan d=>exact pE.elim
 | panicked ch=>
  cases rr with
  | val v=>exact pE.elim
  | pan d=>exact hX c' _ d ch pB pJ r' rfl pE pQ
 | outgrown=>cases rr<;>exact pE.elim
theorem Ba {cl:Call} {f:FuncId} {fn:Func} {w:World} (ho:o.op = .call cl) (fB:cl.callee = .value (.func f)) (hf:P.funcs[f]? = some fn) (hb:fn.body.isSome=true) (hn:(fn.name == "runtime.NumGoroutine")=false) :
  (execOp a.eval o).run P w = .ok (.enter f (cl.args.map a.eval)) w:=by
 obtain ⟨cal,args,ats⟩:=cl;simp only at fB;subst fB;have hb' : fn.body.isNone=false:=by cases h:fn.body<;>simp [h] at hb ⊢
 have:(callFunc f (args.map a.eval)).run P w = .ok (.enter f (args.map a.eval)) w:=by
  unfold callFunc;rw [run_bind_ok (s:=program) (x:=P) (w':=w) rfl];simp only [hf,hn,hb',Bool.false_eq_true,if_false];rfl
 simp [execOp,ho,resolve,Act.eval,Deferred.ofValue,invoke];exact this
theorem yD {cl:Call} {f:FuncId} {t:Nat} {fs cs:Array Value} {w:World} (ho:o.op = .call cl) (fB:cl.callee = .value (.tmp t)) (hv:a.eval (.tmp t) = .func (.func f) fs cs) (hb:nJ P f) :
  (execOp a.eval o).run P w = .ok (.enter f (fs++cl.args.map a.eval++cs)) w:=by
 obtain ⟨cal,args,ats⟩:=cl;obtain ⟨fn,hf,hb,hn⟩:=hb;simp only at fB;subst fB;have hb' : fn.body.isNone=false:=by cases h:fn.body<;>simp [h] at hb ⊢
 have:(callFunc f (fs++args.map a.eval++cs)).run P w = .ok (.enter f (fs++args.map a.eval++cs)) w:=by
  unfold callFunc;rw [run_bind_ok (s:=program) (x:=P) (w':=w) rfl];simp only [hf,hn,hb',Bool.false_eq_true,if_false];rfl
 simp only [execOp,ho,resolve,hv,Deferred.ofValue,invoke];exact this
theorem Ry (r:Rel c w0 n gs st a) (hK:bn P Q q c w0 n gs st a o.dst K) (hX:yA P Q xx c w0 n gs st a Qx) {cl:Call} {f:FuncId} {fn:Func} {ys:List Opd} (ho:o.op = .call cl) (fB:cl.callee = .value (.func f)) (hf:P.funcs[f]? = some fn)
  (hb:fn.body.isSome=true) (hn:(fn.name == "runtime.NumGoroutine")=false) (hc:dQ cl.args.toList=some ys) (h:WT P Q (step (.sub f ys) st q xx)):o.wp P a c.w K Qx:=by
 simp only [step] at h
 split at h
 ·rename_i vs hvs
  simp only [WT] at h;have e:(cl.args.toList.map a.eval).toArray=cl.args.map a.eval:=by rw [<- Array.toList_map]
  exact yC r hK hX (gvs:=cl.args.toList.map a.eval) (by rw [e];exact Ba ho fB hf hb hn) (kL r hc hvs) h
 ·exact h.elim
theorem NV (r:Rel c w0 n gs st a) (hK:bn P Q q c w0 n gs st a o.dst K) (hX:yA P Q xx c w0 n gs st a Qx) {cl:Call} {t:Nat} {ys:List Opd} (ho:o.op = .call cl) (fB:cl.callee = .value (.tmp t)) (hc:dQ cl.args.toList=some ys)
  (h:WT P Q (step (.kG (.t t) ys) st q xx)):o.wp P a c.w K Qx:=by
 simp only [step] at h
 split at h
 ·rename_i f vs hg hvs
  simp only [WT] at h;have e1:=aD r (x:=.tmp t) rfl hg;simp only [aA,aE] at e1;have hrun:=yD (w:=c.w) ho fB e1 h.1;have e:(cl.args.toList.map a.eval).toArray = #[]++cl.args.map a.eval++#[]:=by rw [mapA];simp
  exact yC r hK hX (gvs:=cl.args.toList.map a.eval) (by rw [e];exact hrun) (kL r hc hvs) h
 ·rename_i f fs cs vs hg hvs
  simp only [WT] at h;obtain ⟨us,ws,e1,e2,e3⟩:=aD r (x:=.tmp t) rfl hg;have hrun:=yD (w:=c.w) ho fB e1 h.1;have e:(us++(cl.args.toList.map a.eval++ws)).toArray=us.toArray++cl.args.map a.eval++ws.toArray:=by
   rw [<- List.append_assoc,<- List.append_toArray,<- List.append_toArray,<- Array.toList_map]
  exact yC r hK hX (gvs:=us++(cl.args.toList.map a.eval++ws)) (by rw [e];exact hrun) (e2.append ((kL r hc hvs).append e3)) h
 ·exact h.elim
theorem NW (r:Rel c w0 n gs st a) (hK:bn P Q q c w0 n gs st a o.dst K) {f:FuncId} {fs cs:Array Operand} {ys zs:List Opd} (ho:o.op = .makeFunc (.func f) fs cs) (hc1:dQ fs.toList=some ys) (hc2:dQ cs.toList=some zs)
  (h:WT P Q (step (.mH f ys zs) st q xx)):o.wp P a c.w K Qx:=by
 simp only [step] at h
 split at h
 ·rename_i us vs hu hv
  refine aK r hK (v:=.func f us vs) (gv:=.func (.func f) (fs.map a.eval) (cs.map a.eval)) ⟨fs.toList.map a.eval,cs.toList.map a.eval,?_,kL r hc1 hu,kL r hc2 hv⟩ h ?_
  ·rw [mapA,mapA]
  ·simp [execOp,ho,Instr.makeFunc,pure,Bind.bind,Sem.bind,Sem.run]
 ·exact h.elim
theorem Bc {cl:Call} {f:FuncId} {t:Operand} {fs cs:Array Value} {w:World} (ho:o.op = .defer cl) (fB:cl.callee = .value t) (hv:a.eval t = .func (.func f) fs cs) :
  (execOp a.eval o).run P w = .ok (.defer { target:=.fn (.func f) cs,args:=fs++cl.args.map a.eval }) w:=by
 obtain ⟨cal,args,ats⟩:=cl;simp only at fB;subst fB;simp only [execOp,ho,resolve,hv,Deferred.ofValue];rfl
theorem Rel.defer {c:Cx} {w0:World} {n:Nat} {gs:Fr} {st:St} {a:Act} (r:Rel c w0 n gs st a) {f:FuncId} {fs cs:List V} {us ws:List Value} (h1:ax c fs us) (h2:ax c cs ws) :
  Rel c w0 n gs { st with defers:=.func f fs cs::st.defers } { a with defers:={ target:=.fn (.func f) ws.toArray,args:=us.toArray }::a.defers }:=
 ⟨r.heap,r.hrel,r.size,r.regs,r.frames,r.mK,r.base,⟨_,_,f,fs,cs,us,ws,rfl,rfl,rfl,h1,h2,r.defers⟩⟩
def Io (P:Program) (Q:aH->St->Prop) (q:V->St->Tree) (c:Cx) (w0:World) (n:Nat) (gs:Fr) (st:St) (a:Act) (dst:Option Tmp) (K:Act->World->Prop):Prop:=
 ∀c' st' a' v gv,c'.B=c.B->c'.J0=c.J0->a'.tmps=a.tmps->Rel c' w0 n gs st' a'->st'.regs=st.regs->aA c' v gv->WT P Q (q v st')->K (a'.put dst gv) c'.w
theorem Io.ok (h:Io P Q q c w0 n gs st a o.dst K):bn P Q q c w0 n gs st a o.dst K:=fun c' st' v gv h1 h2 h3 h4 h5 h6=>h c' st' a v gv h1 h2 rfl h3 h4 h5 h6
theorem EJ (r:Rel c w0 n gs st a) (hK:Io P Q q c w0 n gs st a o.dst K) {cl:Call} {t:Operand} {t' : Opd} {ys:List Opd} (ho:o.op = .defer cl) (fB:cl.callee = .value t) (ht:al t=some t') (hc:dQ cl.args.toList=some ys)
  (h:WT P Q (step (.defer t' ys) st q xx)):o.wp P a c.w K Qx:=by
 simp only [step] at h
 split at h
 ·rename_i f vs hg hvs
  have e1:=aD r ht hg;simp only [aA,aE] at e1;have hrun:=Bc (P:=P) (w:=c.w) ho fB e1;unfold Oper.wp;rw [hrun];have e : #[]++cl.args.map a.eval=(cl.args.toList.map a.eval).toArray:=by rw [mapA];simp
  rw [e];exact hK c _ _ .undef undef rfl rfl rfl (r.defer (kL r hc hvs) (cs:=[]) (ws:=[]) rfl) rfl trivial h
 ·rename_i f fs cs vs hg hvs
  obtain ⟨us,ws,e1,e2,e3⟩:=aD r ht hg;have hrun:=Bc (P:=P) (w:=c.w) ho fB e1;unfold Oper.wp;rw [hrun];have e:us.toArray++cl.args.map a.eval=(us++cl.args.toList.map a.eval).toArray:=by rw [<- List.append_toArray,<- Array.toList_map]
  rw [e];exact hK c _ _ .undef undef rfl rfl rfl (r.defer (e2.append (kL r hc hvs)) e3) rfl trivial h
 ·exact h.elim
theorem K4 (r:Rel c w0 n gs st a) (hX:yA P Q xx c w0 n gs st a Qx) {x:Operand} {y:Opd} (ho:o.op = .panic x) (hc:al x=some y) (h:WT P Q (step (.panic y) st q xx)):o.wp P a c.w K Qx:=by
 simp only [step] at h
 split at h
 ·rename_i t d hv
  obtain ⟨u,e1,e2⟩:=aD r hc hv;have hrun:(execOp a.eval o).run P c.w = .halt (.panic (.iface t u)) c.w:=by
   simp [execOp,ho,e1,Instr.panic,goPanic,pure,Bind.bind,Sem.bind,Sem.run]
  unfold Oper.wp;rw [hrun];exact hX c st (.iface t d) _ rfl rfl r rfl ⟨.iface t u,rfl,u,rfl,e2⟩ h
 ·exact h.elim
theorem Be {P:Program} {t:TypeId} (h:A5 P t=true):∃d,P.underlying t=some d/\∀m,d≠.interface m:=by
 unfold A5 at h
 split at h
 ·simp at h
 ·rename_i d hd hne
  exact ⟨d,hne,fun m hm=>hd m hm⟩
 ·simp at h
theorem NY (r:Rel c w0 n gs st a) (hK:bn P Q q c w0 n gs st a o.dst K) {t:TypeId} {x:Operand} {y:Opd} (ho:o.op = .makeInterface t x) (ht:A5 P t=true) (hc:al x=some y) (h:WT P Q (step (.Av t y) st q xx)):o.wp P a c.w K Qx:=by
 simp only [step] at h
 split at h
 ·rename_i v hv
  split at h
  ·rename_i d hd
   have e1:=aD r hc hv;rw [<- r.heap] at hd;have e2:=x6 hd e1;refine aK r hK (v:=.d (.iface t d)) (gv:=.iface t (a.eval x)) ⟨_,rfl,e2⟩ h ?_;obtain ⟨dd,h1,h2⟩:=Be ht;simp only [execOp,ho];have:(Instr.makeInterface t (a.eval x)).run P c.w = .ok (.iface t (a.eval x)) c.w:=by
    unfold Instr.makeInterface;rw [run_bind_ok (bC h1)]
    cases dd<;>first|rfl|exact (h2 _ rfl).elim
   rw [run_bind_ok this];rfl
  ·exact h.elim
 ·exact h.elim
theorem EK {P:Program} {t:TypeId} {z:Dat} (h:zeroV P t=some z) (w:World):∃v,(zeroValue t).run P w = .ok v w/\∀J,aE w J z v:=by
 unfold zeroV at h
 split at h
 ·rename_i i hi
  split at h
  ·rename_i vs hz
   simp only [Option.map_eq_some_iff] at h;obtain ⟨ds,h1,rfl⟩:=h;refine ⟨.agg vs,?_,fun J=>⟨vs.toList,by simp,fH h1 w J⟩⟩;unfold zeroValue;rw [run_bind_ok (uA hi),hz];rfl
  ·rename_i v hne hz
   refine ⟨v,?_,fun J=>vL h w J⟩;unfold zeroValue;rw [run_bind_ok (uA hi),hz];rfl
  ·simp at h
 ·simp at h
theorem Rz (r:Rel c w0 n gs st a) (hK:bn P Q q c w0 n gs st a o.dst K) {t xt:TypeId} {z:Dat} {x:Operand} {y:Opd} (ho:o.op = .typeAssert x xt t true) (ht:A5 P t=true) (hz:zeroV P t=some z) (hc:al x=some y)
  (h:WT P Q (step (.tas t z y) st q xx)):o.wp P a c.w K Qx:=by
 obtain ⟨dd,h1,h2⟩:=Be ht;obtain ⟨zv,z1,z2⟩:=EK hz c.w;have fails:aA c (.tuple [V.fD z,.d (.bool false)]) (.tuple #[zv,.bool false]):=
  ⟨[zv,.bool false],rfl,zv,[.bool false],rfl,aA.fD (z2 _),.bool false,[],rfl,by simp [aA,aE],rfl⟩
 simp only [step] at h
 split at h
 ·rename_i t' d hv
  obtain ⟨u,e1,e2⟩:=aD r hc hv
  split at h
  ·rename_i hb
   have hb:=Nat.eq_of_beq_eq_true hb;subst hb;refine aK r hK (v:=.tuple [V.fD d,.d (.bool true)]) (gv:=.tuple #[u,.bool true]) ⟨[u,.bool true],rfl,u,[.bool true],rfl,aA.fD e2,.bool true,[],rfl,by simp [aA,aE],rfl⟩ h ?_;simp only [execOp,ho];have:(Instr.typeAssert (a.eval x) xt t true).run P c.w = .ok (.tuple #[u,.bool true]) c.w:=by
    unfold Instr.typeAssert;rw [run_bind_ok (bC h1),e1]
    cases dd<;>first|(exact (h2 _ rfl).elim)|simp
   rw [run_bind_ok this];rfl
  ·rename_i hb
   have hne:t'≠t:=by rintro rfl;simp at hb
   refine aK r hK fails h ?_;simp only [execOp,ho];have:(Instr.typeAssert (a.eval x) xt t true).run P c.w = .ok (.tuple #[zv,.bool false]) c.w:=by
    unfold Instr.typeAssert;rw [run_bind_ok (bC h1),e1]
    cases dd<;>first|(exact (h2 _ rfl).elim)|simp [hne,z1]
   rw [run_bind_ok this];rfl
 ·rename_i hv
  have e1:=aD r hc hv;simp only [aA,aE] at e1;refine aK r hK fails h ?_;simp only [execOp,ho];have:(Instr.typeAssert (a.eval x) xt t true).run P c.w = .ok (.tuple #[zv,.bool false]) c.w:=by
   unfold Instr.typeAssert;rw [run_bind_ok (bC h1),e1]
   cases dd<;>first|(exact (h2 _ rfl).elim)|simp [z1]
  rw [run_bind_ok this];rfl
 ·exact h.elim
end
end Uw
namespace Uw
open Go Go.RowKit
variable [Glob]
theorem uG {α:Type}:∀(ys zs xs:List α) (i:Nat),setAt xs i (ys++zs)=setAt (setAt xs i ys) (i+ys.length) zs
 | [],zs,xs,i=>by simp [setAt]
 | y::ys,zs,xs,i=>by
  rw [List.cons_append,setAt,uG ys zs,setAt,List.length_cons]
  congr 1;omega
theorem sU {α:Type} {k:Nat}:∀(ys xs:List (List α)) (i:Nat),(∀x∈xs,x.length=k)->(∀y∈ys,y.length=k)->i+ys.length<=xs.length->(setAt xs i ys).flatten=setAt xs.flatten (i * k) ys.flatten
 | [],xs,i,_,_,_=>by simp [setAt]
 | y::ys,xs,i,h1,h2,h3=>by
  rw [List.length_cons] at h3;have hy:=h2 y (by simp);have hi:xs[i]? = some xs[i]:=List.getElem?_eq_getElem (by omega);have hl:=h1 xs[i] (List.getElem_mem _);have hs:=qW h1 (cc:=0) (ds:=y) hi (by omega);rw [yz _ _ (by omega),Nat.add_zero] at hs;rw [setAt,sU ys (xs.set i y) (i+1) (fun x hx=>by rcases List.mem_or_eq_of_mem_set hx with hx|hx;exact h1 x hx;rw [hx];exact hy) (fun z hz=>h2 z (by simp [hz])) (by simp;omega),hs,List.flatten_cons,uG]
  congr 1
  rw [Nat.add_mul,hy];omega
section
variable {P : Program} {Q : aH -> St -> Prop} {q : V -> St -> Tree} {c : Cx} {w0 : World} {n : Nat} {gs : Fr} {st : St} {a : Act} {K : Act -> World -> Prop} {Qx : Exit -> Act -> World -> Prop} {o : Oper} {xx : aH -> St -> Tree}
theorem sV {cl:Call} {x y:Operand} {t t' : TypeId} {w w' : World} {v:Value} (ho:o.op = .call cl) (hb:cl.callee = .builtin .copy) (hx:cl.args.toList=[x,y]) (ht:cl.argTypes.toList=[t,t'])
  (h:(Builtin.copy_ #[t,t'] o.type #[a.eval x,a.eval y]).run P w = .ok v w'):(execOp a.eval o).run P w = .ok (.value v) w':=by
 obtain ⟨cal,args,ats⟩:=cl;simp only at hb hx ht;subst hb;have hx' : args = #[x,y]:=by rw [<- hx]
 have ht' : ats = #[t,t']:=by rw [<- ht]
 subst hx' ht';simp only [execOp,ho,resolve,invoke,builtin];simp [h]
theorem NZ (r:Rel c w0 n gs st a) (hK:bn P Q q c w0 n gs st a o.dst K) {cl:Call} {x1 x2:Operand} {y1 y2:Opd} {t t' e:TypeId} {k bytes:Nat} (ho:o.op = .call cl) (hb:cl.callee = .builtin .copy) (hx:cl.args.toList=[x1,x2]) (ht:cl.argTypes.toList=[t,t'])
  (he:qt P t e k bytes) (hc1:al x1=some y1) (hc2:al x2=some y2) (h:WT P Q (step (.copy k y1 y2) st q xx)):o.wp P a c.w K Qx:=by
 obtain ⟨i,z,zs,hi,hsz,hby,hzero,hzs,hzk⟩:=he.info;have mN:=he.und;simp only [step] at h
 split at h
 ·rename_i id ver off len yv hv1 hv2
  split at h
  ·rename_i k' dE xs vb ys hl hys
   split at h
   ·rename_i hkk
    have hkk:=Nat.eq_of_beq_eq_true hkk;subst hkk
    replace h:=EI h
    obtain ⟨hvb,h⟩:=h
    replace h:=gK h
    obtain ⟨hv,h⟩:=h;have hv:=Nat.eq_of_beq_eq_true hv;subst hv;have e2:=src_ok r (aD r hc2 hv2) hys hvb;have e1:=aD r hc1 hv1;have hl' : look c.heap id=some (.mt k ver xs):=by rw [r.heap];exact hl
    simp only [aA,hl'] at e1;obtain ⟨_,_,e1⟩:=e1;obtain ⟨f1,f2⟩:=e1 rfl;obtain ⟨b3,b4,bb⟩:=r.hrel.blk id _ hl'
    -- nothing is copied
    have none0:min len ys.length=0->(∃x cp,a.eval x1 = .slice x len cp/\(x=none\/∃b o,x=some ⟨b,o,none⟩))->(∃x cp,a.eval x2 = .slice x ys.length cp/\(x=none->ys.length=0))->o.wp P a c.w K Qx:=by
     rintro h0 ⟨xa,cp,hxa,Az⟩ ⟨xb,cp',hxb,WH⟩;rw [h0] at h;simp only [List.take_zero,setAt] at h;have hev:Evo c (c.aI id (.mt k ver xs) (c.pl id) c.w):=by
      refine Evo.aI r.hrel hl' (fun _ _ _=>rfl) (Nat.le_refl _) (.inl ⟨rfl,fun hp=>hp⟩) ?_ ⟨rfl,Nat.le_refl _,fun _=>⟨rfl,rfl⟩⟩;intro hp o' hi;exfalso
      rcases hi with hi|⟨_,_,g3⟩
      ·exact r.hrel.ge id _ hl' hp hi.1
      ·obtain ⟨_,_,hh,_⟩:=g3 id _ hl' hp rfl;cases hh
     have hH:cZ (c.aI id (.mt k ver xs) (c.pl id) c.w) w0 st.next:=by
      refine r.hrel.aI hl' hev (fun _ _ _=>rfl) (Below.refl _ _) (.inl ⟨rfl,fun hp=>hp⟩) ?_;refine ⟨by rw [ah.2];exact b3,b4,fun hcap=>?_⟩;rw [ah.2] at hcap ⊢;obtain ⟨vs,e',g1,g2,g3,g4⟩:=bb hcap;exact ⟨vs,e',g1,g2,aX.keep hev.keeps _ _ g3,g4⟩
     have hst:(c.aI id (.mt k ver xs) (c.pl id) c.w).heap=(id,.mt k ver xs)::st.heap:=by simp [Cx.aI,r.heap]
     refine ca (w':=c.w) (sV (v:=.int .i64 0) ho hb hx ht ?_) (hK (c.aI id (.mt k ver xs) (c.pl id) c.w) { st with heap:=(id,.mt k ver xs)::st.heap } (.d (.int .i64 ((0:Nat):Int))) _ rfl rfl (r.evo hev hst hH rfl rfl rfl (Nat.le_refl _)) rfl (by simp [aA,aE]) h);have hm:ys.length.min len=0:=by rw [Nat.min_comm] at h0;exact h0
     rw [hxa,hxb]
     rcases Az with rfl|⟨b,o',rfl⟩
     ·simp [Builtin.copy_,bC mN,Go.sizeOf,typeInfo,hi,Builtin.lenOf,hm,goInt]
      cases xb<;>simp [Builtin.firstCells,loadCells,loadCellsFrom]
     ·simp [Builtin.copy_,bC mN,Go.sizeOf,typeInfo,hi,Builtin.lenOf,hm,goInt]
      cases xb<;>simp [Builtin.firstCells,loadCells,loadCellsFrom,storeCells]
    have hdst:∃x cp,a.eval x1 = .slice x len cp/\(x=none\/∃b o,x=some ⟨b,o,none⟩):=by
     rcases f2 with ⟨f2,f3,_⟩|⟨b,o',f2,f3⟩
     ·exact ⟨none,0,by rw [f2,f3],.inl rfl⟩
     ·exact ⟨_,_,f2,.inr ⟨b,o',rfl⟩⟩
    rcases e2 with ⟨⟨x9,e2⟩,rfl⟩|⟨bb2,o2,cp,us,e2,e3,e4,e5,e6,e7,e8⟩
    ·exact none0 (by simp) hdst ⟨x9,0,e2,fun _=>rfl⟩
    ·by_cases h0:min len ys.length=0
     ·exact none0 h0 hdst ⟨_,cp,e2,fun hh=>by cases hh⟩
     ·have hlen:0<len:=by omega
      have hcap:0<(c.pl id).cap:=by omega
      rcases f2 with ⟨_,f3,_⟩|⟨b,o',f2,f3⟩
      ·omega
      obtain ⟨rfl,rfl⟩:=f3 (by omega);obtain ⟨vs,e',g1,g2,g3,g4⟩:=bb hcap;have hge:=r.hrel.ge id _ hl' hcap;have hgb:=r.hrel.geB hl' hcap;have hmk:min len ys.length * k<=ys.length * k:=Nat.mul_le_mul_right _ (by omega);have hul:(us.take (min len ys.length * k)).length=min len ys.length * k:=by simp;omega
      have hxk:(off+len) * k<=xs.length * k:=Nat.mul_le_mul_right _ f1;have hvk:xs.length * k<=vs.size:=by rw [g2];exact Nat.mul_le_mul_right _ b3
      have hml:min len ys.length * k<=len * k:=Nat.mul_le_mul_right _ (by omega);rw [Nat.add_mul] at hxk;have hone:∀u∈us.take (min len ys.length * k),one u=true:=fun u hu=>e8 u (List.mem_of_mem_take hu);obtain ⟨w',hw',L⟩:=jJ (P:=P) (c.pl id).gb (off * k) (us.take (min len ys.length * k)) 0 vs c.w g1 (by omega) hone;have htk:aX c.w (Imm c) (ys.take (min len ys.length)).flatten (us.take (min len ys.length * k)):=by
       rw [jK e4 _ (by omega)];exact e5.take _
      have hk2:∀x∈setAt xs off (ys.take (min len ys.length)),x.length=k:=fun x hx=>by
       rcases oZ hx with hx|hx
       ·exact b4 x hx
       ·exact e4 x (List.mem_of_mem_take hx)
      have hev:Evo c (c.aI id (.mt k ver (setAt xs off (ys.take (min len ys.length)))) (c.pl id) w'):=by
       refine Evo.aI r.hrel hl' (fun k' _ hk'=>L.other k' (hk' hcap)) (by rw [L.size];exact Nat.le_refl _) (.inl ⟨rfl,fun _=>hcap⟩) ?_ ⟨rfl,Nat.le_refl _,fun _=>⟨rfl,fJ _ _ _⟩⟩;intro _ o' hi;exfalso
       rcases hi with hi|⟨_,_,g3⟩
       ·exact hge hi.1
       ·obtain ⟨_,_,hh,_⟩:=g3 id _ hl' hcap rfl;cases hh
      have hH:cZ (c.aI id (.mt k ver (setAt xs off (ys.take (min len ys.length)))) (c.pl id) w') w0 st.next:=by
       refine r.hrel.aI hl' hev (fun k' _ hk'=>L.other k' (hk' hcap)) (L.below hgb) (.inl ⟨rfl,fun _=>hcap⟩) ?_;refine ⟨by rw [ah.2,fJ];exact b3,hk2,fun _=>⟨gJ vs (off * k+0) (us.take (min len ys.length * k)),e',?_,?_,?_,?_⟩⟩
       ·rw [ah.2];exact L.here
       ·rw [ah.2,mL];exact g2
       ·refine aX.keep hev.keeps _ _ ?_
        rw [fJ,fK,Nat.add_zero,pL _ _ _ _ (by rw [hul];omega),sU _ _ _ b4 (fun y hy=>e4 y (List.mem_of_mem_take hy)) (by simp;omega)];exact aX.setAt g3 htk _
       ·intro u hu
        rw [fJ,fK,Nat.add_zero,pL _ _ _ _ (by rw [hul];omega)] at hu
        rcases oZ hu with hu|hu
        ·exact g4 u hu
        ·exact hone u hu
      have hst:(c.aI id (.mt k ver (setAt xs off (ys.take (min len ys.length)))) (c.pl id) w').heap=(id,.mt k ver (setAt xs off (ys.take (min len ys.length))))::st.heap:=by simp [Cx.aI,r.heap]
      refine ca (w':=w') (sV (v:=.int .i64 ((min len ys.length:Nat):Int)) ho hb hx ht ?_) (hK (c.aI id (.mt k ver (setAt xs off (ys.take (min len ys.length)))) (c.pl id) w') { st with heap:=(id,.mt k ver (setAt xs off (ys.take (min len ys.length))))::st.heap } (.d (.int .i64 ((min len ys.length:Nat):Int))) _ rfl rfl (r.evo hev hst hH rfl rfl rfl (Nat.le_refl _)) rfl (by simp [aA,aE]) ?_)
      ·have hm:ys.length.min len=min len ys.length:=Nat.min_comm _ _
       rw [f2,e2];have hf:(Builtin.firstCells k (min len ys.length) (.slice (some ⟨bb2,o2,none⟩) ys.length cp)).run P c.w = .ok (us.take (min len ys.length * k)).toArray c.w:=by
        simp only [Builtin.firstCells];refine run_loadCells hul ?_;intro j v hv;rw [List.getElem?_take] at hv
        split at hv
        ·exact e7 j v hv
        ·simp at hv
       simp only [Builtin.copy_];simp [bC mN,Go.sizeOf,typeInfo,hi,Builtin.lenOf,hm,hsz,hf,hw',goInt]
      ·exact h
   ·exact h.elim
  ·exact h.elim
 ·exact h.elim
theorem EL {op:BinOp} {t:TypeId} {x y:Operand} {p p' : Option Addr} {l c' l' c'' : Nat} {w:World}:(eqGuard op t x y (.slice p l c') (.slice p' l' c'')).run P w = .ok () w:=by
 unfold eqGuard
 cases op<;>simp
theorem qu {t e:TypeId} {p:Option Addr} {l c' l' c'' : Nat} {w:World} (hu:P.underlying t=some (.slice e)):(Op.equal t (.slice p l c') (.slice none l' c'')).run P w = .ok p.isNone w:=by
 have key:∀d,(Op.equalIn (d+1) t (.slice p l c') (.slice none l' c'')).run P w = .ok p.isNone w:=by
  intro d
  cases p<;>simp [Op.equalIn,bC hu]
 exact key 9999
theorem K5 (r:Rel c w0 n gs st a) (hK:bn P Q q c w0 n gs st a o.dst K) {op:BinOp} {t t' e:TypeId} {x y0:Operand} {y:Opd} {neg:Bool} (ho:o.op = .binOp op t x y0 t') (hop:op=if neg then .neq else .eql) (hu:P.underlying t=some (.slice e)) (hy:G2 y0=true)
  (hc:al x=some y) (h:WT P Q (step (.eqn neg y) st q xx)):o.wp P a c.w K Qx:=by
 have hy' : ∃l' c'',a.eval y0 = .slice none l' c'':=by
  unfold G2 at hy
  split at hy
  ·exact ⟨_,_,rfl⟩
  ·simp at hy
 obtain ⟨l',c'',hy'⟩:=hy';have run:∀(p:Option Addr) (l cp:Nat),a.eval x = .slice p l cp->(execOp a.eval o).run P c.w = .ok (.value (.bool (if p.isNone then !neg else neg))) c.w:=by
  intro p l cp hx;refine pM (v:=.bool true) ho (by rw [hx,hy'];exact EL) ?_;rw [hx,hy']
  cases neg with
  | true=>
   simp only [if_true] at hop;subst hop;simp only [binOp];rw [run_bind_ok (qu hu)]
   cases p<;>rfl
  | false=>
   simp only [Bool.false_eq_true,if_false] at hop;subst hop;simp only [binOp];rw [run_bind_ok (qu hu)]
   cases p<;>rfl
 simp only [step] at h
 split at h
 ·rename_i hv
  have e1:=aD r hc hv;simp only [aA,aE] at e1;exact aK r hK (gv:=.bool (!neg)) (by simp [aA,aE]) h (run none 0 0 e1)
 ·rename_i k xs z hv
  have e1:=aD r hc hv;simp only [aA,aE] at e1;simp only [WT] at h
  rcases e1 with ⟨⟨x9,e1,_⟩,rfl⟩|⟨b,o',cap,e1,_⟩
  ·cases x9 with
   | none=>exact aK r hK (gv:=.bool (!neg)) (by simp [aA,aE]) (h.1 rfl).1 (run none 0 0 e1)
   | some x9=>exact aK r hK (gv:=.bool neg) (by simp [aA,aE]) (h.1 rfl).2 (run (some x9) 0 0 e1)
  ·have hq:WT P Q (q (.d (.bool neg)) st):=by
    cases hxe:xs.isEmpty with
    | true=>exact (h.1 hxe).2
    | false=>exact h.2 hxe
   exact aK r hK (gv:=.bool neg) (by simp [aA,aE]) hq (run (some ⟨b,o',none⟩) _ _ e1)
 ·exact h.elim
theorem K6 (r:Rel c w0 n gs st a) (hK:bn P Q q c w0 n gs st a o.dst K) {op:BinOp} {t t' : TypeId} {ms:Array (String×TypeId)} {x y0:Operand} {y:Opd} {neg:Bool} (ho:o.op = .binOp op t x y0 t') (hop:op=if neg then .neq else .eql) (hu:P.underlying t=some (.interface ms)) (hy:G3 y0=true)
  (hc:al x=some y) (h:WT P Q (step (.eqi neg y) st q xx)):o.wp P a c.w K Qx:=by
 have hy' : y0 = .const .nilIface:=by
  unfold G3 at hy
  split at hy
  ·rfl
  ·simp at hy
 subst hy';have key:∀(v:Value) (b:Bool),a.eval x=v->(v = .nilIface/\b=true\/(∃t u,v = .iface t u)/\b=false)->(execOp a.eval o).run P c.w = .ok (.value (.bool (if b then !neg else neg))) c.w:=by
  intro v b hx hv;have he:∀d,(Op.equalIn (d+1) t v .nilIface).run P c.w = .ok b c.w:=by
   intro d
   rcases hv with ⟨rfl,rfl⟩|⟨⟨t1,u,rfl⟩,rfl⟩<;>simp [Op.equalIn,bC hu]
  have he:(Op.equal t v .nilIface).run P c.w = .ok b c.w:=he 9999;have hg:(eqGuard op t x (.const .nilIface) v .nilIface).run P c.w = .ok () c.w:=by
   unfold eqGuard
   rcases hv with ⟨rfl,rfl⟩|⟨⟨t1,u,rfl⟩,rfl⟩<;>cases op<;>simp
  refine pM (v:=.bool true) ho (by rw [hx];exact hg) ?_;rw [hx];show (binOp op t v .nilIface).run P c.w=_
  cases neg with
  | true=>
   simp only [if_true] at hop;subst hop
   rcases hv with ⟨rfl,rfl⟩|⟨⟨t1,u,rfl⟩,rfl⟩<;>simp only [binOp]<;>rw [run_bind_ok he]<;>rfl
  | false=>
   simp only [Bool.false_eq_true,if_false] at hop;subst hop
   rcases hv with ⟨rfl,rfl⟩|⟨⟨t1,u,rfl⟩,rfl⟩<;>simp only [binOp]<;>rw [run_bind_ok he]<;>rfl
 simp only [step] at h
 split at h
 ·rename_i hv
  have e1:=aD r hc hv;simp only [aA,aE] at e1;exact aK r hK (gv:=.bool (!neg)) (by simp [aA,aE]) h (key _ true e1 (.inl ⟨rfl,rfl⟩))
 ·rename_i t1 d hv
  obtain ⟨u,e1,e2⟩:=aD r hc hv;exact aK r hK (gv:=.bool neg) (by simp [aA,aE]) h (key _ false e1 (.inr ⟨⟨t1,u,rfl⟩,rfl⟩))
 ·exact h.elim
end
end Uw
namespace Uw
open Go Go.RowKit
variable [Glob]
theorem RA {P:Program} {w:World} {J:Nat->Nat->Prop} {k:Nat} {x y:Dat} {v u:Value} {b:Bool} (h:eqD k x y=some b) (hx:aE w J x v) (hy:aE w J y u) {t:TypeId} (ht:ym P t=some k) (d:Nat):(Op.equalIn (d+1) t v u).run P w = .ok b w:=by
 unfold eqD at h
 split at h
 ·rename_i k1 a k' b'
  split at h
  ·rename_i hk
   have hk:k1=k':=of_decide_eq_true hk;subst hk;simp at h;subst h;simp only [aE] at hx hy;subst hx hy;unfold ym at ht
   split at ht<;>simp at ht
   rename_i k2 hu;rw [run_equalIn_int w d t k1 k2 a b' hu]
   congr 1
  ·simp at h
 ·rename_i a b'
  simp at h;subst h;simp only [aE] at hx hy;subst hx hy;unfold ym at ht
  split at ht<;>simp at ht
  rename_i hu;exact run_equalIn_bool' w d t a b' hu
 ·rename_i a b'
  simp at h;subst h;simp only [aE] at hx hy;subst hx hy;unfold ym at ht
  split at ht<;>simp at ht
  rename_i hu;rw [run_equalIn_string w d t _ _ hu,bytes_eq]
 ·simp at h
theorem Bf {P:Program} {t:TypeId} {k:Nat} (h:ym P t=some k):jF P t=some false:=by
 unfold ym at h;unfold jF
 split at h<;>simp_all
theorem EM {P:Program} {t:TypeId} {w:World} {cs:Array Value} {off:Nat} {v:Value} (ht:jF P t=some false) (hv:cs[off]? = some v):(part t cs off).run P w = .ok v w:=by
 unfold part;rw [run_bind_ok (rW ht)];simp [hv]
theorem EN {P:Program} {c:Cx} {xs ys:Array Value} (d:Nat):∀(fs:List Field) (i:Nat) (ks:List Nat) (cs ds:List V) (b:Bool),EA P i fs=some ks->ax c cs (xs.toList.drop i)->ax c ds (ys.toList.drop i)->eqL ks cs ds=some b->
  (Op.eqFields (d+1) xs ys fs).run P c.w = .ok b c.w:=by
 intro fs
 induction fs with
 | nil=>
  intro i ks cs ds b hf h1 h2 h;simp [EA] at hf;subst hf
  cases cs with
  | cons a r=>simp [eqL] at h
  | nil=>
   cases ds with
   | cons a r=>simp [eqL] at h
   | nil=>simp [eqL] at h;subst h;rfl
 | cons f fs ih=>
  intro i ks cs ds b hf h1 h2 h;simp only [EA] at hf
  split at hf
  ·rename_i k l hk hb hl
   simp at hf;subst hf;rw [Bool.and_eq_true] at hb;have hoff:=Nat.eq_of_beq_eq_true hb.1;have hname:f.name≠ "_":=by simpa using hb.2
   unfold eqL at h
   split at h
   ·simp at *
   ·rename_i k0 ks0 x r y r' e1
    simp only [List.cons.injEq] at e1;obtain ⟨rfl,rfl⟩:=e1
    split at h
    ·rename_i b1 b2 hd hr
     simp at h;subst h;obtain ⟨v,vs',e1,g1,g2⟩:=h1;obtain ⟨u,us',e2,g3,g4⟩:=h2;have hv:xs[i]? = some v:=by
      have:(xs.toList.drop i)[0]? = some v:=by rw [e1];rfl
      rw [List.getElem?_drop] at this;simpa using this
     have hu:ys[i]? = some u:=by
      have:(ys.toList.drop i)[0]? = some u:=by rw [e2];rfl
      rw [List.getElem?_drop] at this;simpa using this
     have e1' : xs.toList.drop (i+1)=vs':=by
      rw [<- List.tail_drop,e1];rfl
     have e2' : ys.toList.drop (i+1)=us':=by
      rw [<- List.tail_drop,e2];rfl
     simp only [Op.eqFields,hname,ne_eq,not_false_eq_true,if_true];rw [run_bind_ok (EM (Bf hk) (by rw [hoff];exact hv)),run_bind_ok (EM (Bf hk) (by rw [hoff];exact hu)),run_bind_ok (RA hd g1 g3 hk d)]
     cases b1 with
     | false=>simp
     | true=>
      simp only [Bool.not_true,Bool.false_eq_true,if_false,Bool.true_and];exact ih (i+1) _ _ _ b2 hl (by rw [e1'];exact g2) (by rw [e2'];exact g4) hr
    ·simp at h
   ·simp at h
  ·simp at hf
theorem rY {c:Cx} {v:V} {gv:Value} (h:v.isAgg=true) (r:aA c v gv):∃vs:List Value,gv = .agg vs.toArray/\ax c v.cells vs:=by
 cases v with
 | agg cs=>exact r
 | d x=>
  cases x with
  | agg ds=>obtain ⟨vs,h1,h2⟩:=r;exact ⟨vs,h1,ax.ofL h2⟩
  | _=>simp [V.isAgg] at h
 | _=>simp [V.isAgg] at h
section
variable {P : Program} {Q : aH -> St -> Prop} {q : V -> St -> Tree} {c : Cx} {w0 : World} {n : Nat} {gs : Fr} {st : St} {a : Act} {K : Act -> World -> Prop} {Qx : Exit -> Act -> World -> Prop} {o : Oper} {xx : aH -> St -> Tree}
theorem K7 (r:Rel c w0 n gs st a) (hK:bn P Q q c w0 n gs st a o.dst K) {op:BinOp} {t t' : TypeId} {x1 x2:Operand} {y1 y2:Opd} {neg:Bool} {ks:List Nat} (ho:o.op = .binOp op t x1 x2 t') (hop:op=if neg then .neq else .eql) (ht:KF P t=some ks)
  (hc1:al x1=some y1) (hc2:al x2=some y2) (h:WT P Q (step (.eqs neg ks y1 y2) st q xx)):o.wp P a c.w K Qx:=by
 simp only [step] at h
 split at h
 ·rename_i v u hv hu
  split at h
  ·rename_i b hag hb
   rw [Bool.and_eq_true] at hag;obtain ⟨vs,e1,e2⟩:=rY hag.1 (aD r hc1 hv);obtain ⟨us,e3,e4⟩:=rY hag.2 (aD r hc2 hu);unfold KF at ht
   split at ht
   ·rename_i fs mN
    split at ht
    ·rename_i hg
     rw [Bool.and_eq_true] at hg;have hg1:P.stoodInHeld t=false:=by simpa using hg.1
     have hg2:P.eqGuardType P.depth t=false:=by simpa using hg.2
     have hfo:P.fieldsOf t=fs:=by simp [Program.fieldsOf,mN]
     have heq:(Op.equalIn 10000 t (.agg vs.toArray) (.agg us.toArray)).run P c.w = .ok b c.w:=by
      rw [run_equalIn_struct c.w 9999 t _ _ (by rw [hfo];exact mN) hg1,hfo];exact EN 9998 fs.toList 0 ks _ _ b ht (by simpa using e2) (by simpa using e4) hb
     refine aK r hK (v:=.d (.bool (Q5 neg b))) (gv:=.bool (Q5 neg b)) (by simp [aA,aE]) h (pM (v:=.bool true) ho ?_ ?_)
     ·rw [e1,e3];exact run_eqGuard_agg c.w op t x1 x2 _ _ hg2
     ·rw [e1,e3]
      cases neg with
      | true=>
       simp only [if_true] at hop;subst hop;rw [run_neq_struct,heq];rfl
      | false=>
       simp only [Bool.false_eq_true,if_false] at hop;subst hop;rw [run_eql_struct,heq];rfl
    ·simp at ht
   ·simp at ht
  ·exact h.elim
 ·exact h.elim
end
end Uw
namespace Uw
open Go Go.RowKit
variable [Glob]
def mQ (w:World) (r:Nat) (o:Obj):World:={ w with heap:=w.heap.setIfInBounds r o }
section
variable {P : Program} {w : World}
theorem tC {r:Nat} {ms:Array MapEntry} {k:Nat} (h:w.heap[r]? = some (.map ms k)):(getObj r).run P w = .ok (.map ms k) w:=by
 simp [getObj,Sem.run,h]
theorem wN {r:Nat} {s:ByteArray} {k:Nat} (h:w.heap[r]? = some (.stringIter s k)):(getObj r).run P w = .ok (.stringIter s k) w:=by
 simp [getObj,Sem.run,h]
theorem yE {r:Nat} {ms:Array MapEntry} {k:Nat} {o:Obj} (h:w.heap[r]? = some (.map ms k)):(setObj r o).run P w = .ok () (mQ w r o):=by
 simp [setObj,Sem.run,h,mQ]
theorem EO {r:Nat} {s:ByteArray} {k:Nat} {o:Obj} (h:w.heap[r]? = some (.stringIter s k)):(setObj r o).run P w = .ok () (mQ w r o):=by
 simp [setObj,Sem.run,h,mQ]
theorem yF {r:Nat} {o:Obj} {k:Nat} (h:k≠r):(mQ w r o).heap[k]? = w.heap[k]?:=by
 simp [mQ,Array.getElem?_setIfInBounds,Ne.symm h]
theorem Bg {r:Nat} {o o' : Obj} (h:w.heap[r]? = some o'):(mQ w r o).heap[r]? = some o:=by
 have hlt:r<w.heap.size:=by
  by_cases hlt:r<w.heap.size
  ·exact hlt
  ·rw [Array.getElem?_eq_none (by omega)] at h;cases h
 simp [mQ,Array.getElem?_setIfInBounds,hlt]
theorem Bh {r:Nat} {o:Obj}:(mQ w r o).heap.size=w.heap.size:=by simp [mQ]
def Ip:Option IntKind->TypeDesc->Prop
 | some _,d=>∃k,d = .int k
 | none,d=>d = .string
theorem Iq {t k e:TypeId} {kk:Option IntKind} {z:Dat} (h:Ax P t=some (k,e,kk,z)):P.underlying t=some (.map k e)/\zeroV P e=some z/\∃d,P.underlying k=some d/\Ip kk d:=by
 unfold Ax at h
 split at h
 ·rename_i k' e' hu
  split at h
  ·rename_i ik z' hk hz
   simp at h;obtain ⟨rfl,rfl,rfl,rfl⟩:=h;exact ⟨hu,hz,_,hk,_,rfl⟩
  ·rename_i z' hk hz
   simp at h;obtain ⟨rfl,rfl,rfl,rfl⟩:=h;exact ⟨hu,hz,_,hk,rfl⟩
  ·simp at h
 ·simp at h
theorem EP {w:World} {J:Nat->Nat->Prop} {kk:Option IntKind} {x:Dat} {key:nB} {v:Value} (h:keyOf kk x=some key) (r:aE w J x v):jH kk key v:=by
 unfold keyOf at h
 split at h
 ·split at h
  ·rename_i hk
   have hk:=of_decide_eq_true hk;subst hk;simp at h;subst h;exact r
  ·simp at h
 ·simp at h;subst h;exact r
 ·simp at h
theorem run_checkKey {b:Bool} {t:TypeId} {d:TypeDesc} {kk:Option IntKind} {key:nB} {v:Value} (hu:P.underlying t=some d) (hk:Ip kk d) (hv:jH kk key v):(Instr.checkKey b 10000 t v).run P w = .ok () w:=by
 rw [show (10000:Nat)=9999+1 from rfl,Instr.checkKey,run_bind_ok (bC hu)]
 cases kk with
 | some k=>obtain ⟨k',rfl⟩:=hk;rfl
 | none=>cases hk;rfl
theorem G7 {kk:Option IntKind} {key:nB} {v u:Value} (h1:jH kk key v) (h2:jH kk key u):u=v:=by
 cases kk<;>cases key<;>simp only [jH] at h1 h2<;>first|(rw [h1,h2])|exact h1.elim
theorem Bi (s t:List UInt8):((⟨s.toArray⟩:ByteArray) == (⟨t.toArray⟩:ByteArray))=decide (s=t):=by
 have h:((⟨s.toArray⟩:ByteArray) == (⟨t.toArray⟩:ByteArray))=(s.toArray == t.toArray):=rfl;rw [h];apply Bool.eq_iff_iff.mpr;simp
theorem Oa {kk:Option IntKind} {d:TypeDesc} (hk:Ip kk d) {k1 k2:nB} {v u:Value} (h1:jH kk k1 v) (h2:jH kk k2 u):Instr.sameNow d v u=some (decide (k1=k2)):=by
 cases kk with
 | some k=>
  obtain ⟨k',rfl⟩:=hk
  cases k1 with
  | s b=>exact h1.elim
  | i n1=>
   cases k2 with
   | s b=>exact h2.elim
   | i n2=>
    simp only [jH] at h1 h2;subst h1 h2;simp [Instr.sameNow];apply Bool.eq_iff_iff.mpr;simp
 | none=>
  cases hk
  cases k1 with
  | i n1=>exact h1.elim
  | s b1=>
   cases k2 with
   | i n2=>exact h2.elim
   | s b2=>
    simp only [jH] at h1 h2;subst h1 h2;simp only [Instr.sameNow,nB.s.injEq]
    congr 1
    exact Bi b1 b2
theorem Ob {kk:Option IntKind} {key:nB} {v:Value} (h1:jH kk key v):Instr.sameBits 10000 v v=true:=by
 cases kk<;>cases key<;>simp only [jH] at h1<;>first|(subst h1;simp [Instr.sameBits,Bi];done)|exact h1.elim
theorem find_ok {J:Nat->Nat->Prop} {kk:Option IntKind} {d:TypeDesc} (hk:Ip kk d) {key:nB} {x:Value} (hx:jH kk key x):∀(es:List (nB×Dat)) (ms:List MapEntry) (i:Nat),oV w J kk es ms->
  (aW es key=none/\Instr.findNow d x ms i=some none/\∀(v:Value) (b:Nat) (dd:Dat),aE w J dd v->oV w J kk (dJ es key dd) (ms++[{ key:=x,val:=v,born:=b }]))\/
  (∃dv j v m,aW es key=some dv/\Instr.findNow d x ms i=some (some (i+j,v))/\ms[j]? = some m/\jH kk key m.key/\aE w J dv v/\∀(u:Value) (dd:Dat),aE w J dd u->oV w J kk (dJ es key dd) (ms.modify j fun e=>{ e with key:=x,val:=u }))
 | [],ms,i,r=>by
  simp only [oV] at r;subst r;refine .inl ⟨rfl,rfl,fun v b dd hv=>⟨_,[],rfl,hx,hv,rfl⟩⟩
 | (k,dd)::es,ms,i,⟨m,ms',e1,h2,h3,h4⟩=>by
  subst e1;have hs:=Oa hk hx h2;by_cases hkk:key=k
  ·subst hkk
   refine .inr ⟨dd,0,m.val,m,by simp [aW],by simp [Instr.findNow,hs],rfl,h2,h3,fun u dd' hu=>?_⟩;simp only [dJ,decide_true,List.modify_zero_cons];exact ⟨_,ms',rfl,hx,hu,h4⟩
  ·have hd:decide (key=k)=false:=by simpa using hkk
   rcases find_ok hk hx es ms' (i+1) h4 with ⟨g1,g2,g3⟩|⟨dv,j,v,m',g1,g2,g3,g4,g5,g6⟩
   ·refine .inl ⟨by simp [aW,hd,g1],by simp [Instr.findNow,hs,hd,g2],fun v b dd' hv=>?_⟩
    simp only [dJ,hd];exact ⟨m,_,rfl,h2,h3,g3 v b dd' hv⟩
   ·refine .inr ⟨dv,j+1,v,m',by simp [aW,hd,g1],by simp [Instr.findNow,hs,hd,g2];omega,by simpa using g3,g4,g5,fun u dd' hu=>?_⟩
    simp only [dJ,hd,List.modify_succ_cons];exact ⟨m,_,rfl,h2,h3,g6 u dd' hu⟩
theorem run_findKey {t:TypeId} {d:TypeDesc} {v:Value} {ms:List MapEntry} {res:Option (Nat×Value)} (hu:P.underlying t=some d) (h:Instr.findNow d v ms 0=some res):(Instr.findKey t v ms).run P w = .ok res w:=by
 unfold Instr.findKey;rw [run_bind_ok (bC hu),h];rfl
theorem oV.length {J:Nat->Nat->Prop} {kk:Option IntKind}:∀(es:List (nB×Dat)) (ms:List MapEntry),oV w J kk es ms->ms.length=es.length
 | [],ms,r=>by simp only [oV] at r;subst r;rfl
 | (k,dd)::es,ms,⟨m,ms',e1,h2,h3,h4⟩=>by subst e1;simp [oV.length es ms' h4]
end
section
variable {P : Program} {Q : aH -> St -> Prop} {q : V -> St -> Tree} {c : Cx} {w0 : World} {n : Nat} {gs : Fr} {st : St} {a : Act} {K : Act -> World -> Prop} {Qx : Exit -> Act -> World -> Prop} {o : Oper} {xx : aH -> St -> Tree}
theorem Rel.setObj (r:Rel c w0 n gs st a) {id:Nat} {b b' : Blk} (hl:look c.heap id=some b) (hna:∀k xs,b≠.arr k xs) (hph:Ph (c.pl id) b) (hbe:c6 (c.pl id) (c.pl id) b b') {ob:Obj}
  (hb:Evo c (c.aI id b' (c.pl id) (mQ c.w (c.pl id).gb ob))->cJ (c.aI id b' (c.pl id) (mQ c.w (c.pl id).gb ob)) id b') :
  Rel (c.aI id b' (c.pl id) (mQ c.w (c.pl id).gb ob)) w0 n gs { st with heap:=(id,b')::st.heap } a:=by
 have hge:=r.hrel.ge id b hl hph;have hgB:=r.hrel.geB hl hph;refine r.aI hl (fun k _ hk=>yF (hk hph)) (by rw [Bh];exact Nat.le_refl _) ⟨rfl,rfl,rfl,by rw [Bh];exact Nat.le_refl _,fun k hk=>yF (by omega)⟩ (.inl ⟨rfl,fun _=>hph⟩) ?_ hbe hb;intro _ oo hi;exfalso
 rcases hi with ⟨h1,_⟩|⟨h1,h2,h3⟩
 ·exact hge h1
 ·obtain ⟨k,xs,h,_⟩:=h3 id b hl hph rfl
  exact hna k xs h
theorem K8 (r:Rel c w0 n gs st a) (hK:bn P Q q c w0 n gs st a o.dst K) {t:TypeId} {kk:Option IntKind} (ho:o.op = .makeMap t none) (h:WT P Q (step (.kH kk) st q xx)):o.wp P a c.w K Qx:=by
 simp only [step] at h;refine ca (w':=c.w.alloc (.map #[] 0)) (gv:=.map (some c.w.heap.size)) ?_ (hK (c.push st.next 0 (.map kk []) (.map #[] 0)) _ _ _ rfl rfl (r.push ?_) rfl ?_ h)
 ·simp [execOp,ho,Instr.makeMap,newObj,pure,Bind.bind,Sem.bind,Sem.run]
 ·refine ⟨#[],0,?_,rfl⟩
  show (c.w.heap.push (.map #[] 0))[((c.push st.next 0 (.map kk []) (.map #[] 0)).pl st.next).gb]? = _;simp [Cx.push]
 ·simp [aA,Cx.push,ai,fq]
theorem RB (r:Rel c w0 n gs st a) (hK:bn P Q q c w0 n gs st a o.dst K) {t:TypeId} {x:Operand} {y:Opd} (ho:o.op = .range t x) (hu:P.underlying t=some .string) (hc:al x=some y) (h:WT P Q (step (.rng y) st q xx)):o.wp P a c.w K Qx:=by
 simp only [step] at h
 split at h
 ·rename_i s hv
  have e1:=aD r hc hv;simp only [aA,aE] at e1;refine ca (w':=c.w.alloc (.stringIter ⟨s.toArray⟩ 0)) (gv:=.pointer (some ⟨c.w.heap.size,0,none⟩)) ?_ (hK (c.push st.next 0 (.iter s 0) (.stringIter ⟨s.toArray⟩ 0)) _ _ _ rfl rfl (r.push ?_) rfl ?_ h)
  ·simp only [execOp,ho,e1]
   have:(Instr.range t (.string ⟨s.toArray⟩)).run P c.w = .ok (.pointer (some ⟨c.w.heap.size,0,none⟩)) (c.w.alloc (.stringIter ⟨s.toArray⟩ 0)):=by
    unfold Instr.range;simp [bC hu,newObj,Sem.run]
   rw [run_bind_ok this];rfl
  ·show (c.w.heap.push (.stringIter ⟨s.toArray⟩ 0))[((c.push st.next 0 (.iter s 0) (.stringIter ⟨s.toArray⟩ 0)).pl st.next).gb]? = _
   simp [Cx.push]
  ·simp [aA,Cx.push,ai,fq]
 ·exact h.elim
theorem RD (r:Rel c w0 n gs st a) (hK:bn P Q q c w0 n gs st a o.dst K) {x:Operand} {y:Opd} (ho:o.op = .next x true) (hc:al x=some y) (h:WT P Q (step (.nxt y) st q xx)):o.wp P a c.w K Qx:=by
 simp only [step] at h
 split at h
 ·rename_i id hv
  have e1:=aD r hc hv;simp only [aA] at e1;rw [r.heap] at e1
  split at h
  ·rename_i s pos hl
   rw [hl] at e1;simp only [fq] at e1;have hl' : look c.heap id=some (.iter s pos):=by rw [r.heap];exact hl
   have hb:c.w.heap[(c.pl id).gb]? = some (.stringIter ⟨s.toArray⟩ pos):=r.hrel.blk id _ hl';simp only [WT] at h
   cases hp:decide (pos<s.length) with
   | false=>
    have hq:=h.2 hp;have hp:=of_decide_eq_false hp;refine aK r hK (v:=.tuple [.d (.bool false)]) (gv:=.tuple #[.bool false]) ⟨[.bool false],rfl,.bool false,[],rfl,by simp [aA,aE],rfl⟩ hq ?_;simp only [execOp,ho,e1];have:(Instr.next (.pointer (some ⟨(c.pl id).gb,0,none⟩)) true o.type).run P c.w = .ok (.tuple #[.bool false]) c.w:=by
     unfold Instr.next;simp only;rw [run_bind_ok (wN hb)];simp [ByteArray.size,hp]
    rw [run_bind_ok this];rfl
   | true=>
    have hq:=h.1 hp;have hp:=of_decide_eq_true hp;have hr:Rel (c.aI id (.iter s (pos+(bP s pos).2)) (c.pl id) (mQ c.w (c.pl id).gb (.stringIter ⟨s.toArray⟩ (pos+(bP s pos).2)))) w0 n gs _ a:=
     r.setObj (b':=.iter s (pos+(bP s pos).2)) hl' (by simp) trivial rfl (fun _=>by
      show (mQ c.w (c.pl id).gb _).heap[((c.aI id _ (c.pl id) _).pl id).gb]? = _;rw [ah.2,Bg hb])
    refine ca (w':=mQ c.w (c.pl id).gb (.stringIter ⟨s.toArray⟩ (pos+(bP s pos).2))) (gv:=.tuple #[.bool true,.int .i64 pos,.int .i32 (bP s pos).1]) ?_ (hK (c.aI id (.iter s (pos+(bP s pos).2)) (c.pl id) (mQ c.w (c.pl id).gb (.stringIter ⟨s.toArray⟩ (pos+(bP s pos).2)))) _ (.tuple [.d (.bool true),.d (.int .i64 pos),.d (.int .i32 (bP s pos).1)]) _ rfl rfl hr rfl ⟨[.bool true,.int .i64 pos,.int .i32 (bP s pos).1],rfl,_,_,rfl,by simp [aA,aE],_,_,rfl,by simp [aA,aE],_,_,rfl,by simp [aA,aE],rfl⟩ hq);simp only [execOp,ho,e1];have:(Instr.next (.pointer (some ⟨(c.pl id).gb,0,none⟩)) true o.type).run P c.w = .ok (.tuple #[.bool true,.int .i64 pos,.int .i32 (bP s pos).1]) (mQ c.w (c.pl id).gb (.stringIter ⟨s.toArray⟩ (pos+(bP s pos).2))):=by
     unfold Instr.next;simp only;rw [run_bind_ok (wN hb)];have hp' : pos<(⟨s.toArray⟩:ByteArray).size:=by simpa [ByteArray.size] using hp
     simp only [hp',if_true];rw [run_bind_ok (EO hb)];simp [goInt,A3]
    rw [run_bind_ok this];rfl
  ·exact h.elim
 ·exact h.elim
theorem K9 (r:Rel c w0 n gs st a) (hK:bn P Q q c w0 n gs st a o.dst K) {t k e:TypeId} {kk:Option IntKind} {z:Dat} {x i:Operand} {y j:Opd} {ok:Bool} (ho:o.op = .lookup t x i ok) (ht:Ax P t=some (k,e,kk,z))
  (hc1:al x=some y) (hc2:al i=some j) (h:WT P Q (step (.lkp ok kk z y j) st q xx)):o.wp P a c.w K Qx:=by
 obtain ⟨hu,hz,dk,hk,hkk⟩:=Iq ht;simp only [step] at h
 split at h
 ·rename_i id xd hv1 hv2
  have e1:=aD r hc1 hv1;have e2:=aD r hc2 hv2;simp only [aA] at e1;rw [r.heap] at e1
  split at h
  ·rename_i kk' es hl
   rw [hl] at e1;simp only [fq] at e1;have hl' : look c.heap id=some (.map kk' es):=by rw [r.heap];exact hl
   split at h
   ·rename_i key hd hkey
    have hd:=of_decide_eq_true hd;subst hd;obtain ⟨ms,clock,hb,hm⟩:=r.hrel.blk id _ hl';have hkr:=EP hkey e2;simp only [WT] at h;have run:∀(fd:Option (Nat×Value)) (v:Value) (b:Bool),Instr.findNow dk (a.eval i) ms.toList 0=some fd->((fd=none/\(zeroValue e).run P c.w = .ok v c.w/\b=false)\/(∃jj,fd=some (jj,v)/\b=true))->
      (execOp a.eval o).run P c.w = .ok (.value (if ok then .tuple #[v,.bool b] else v)) c.w:=by
     intro fd v b hf hcase;simp only [execOp,ho,e1];have:(Instr.lookup t (.map (some (c.pl id).gb)) (a.eval i) ok).run P c.w = .ok (if ok then .tuple #[v,.bool b] else v) c.w:=by
      unfold Instr.lookup;rw [run_bind_ok (bC hu)];simp only;rw [run_bind_ok (tC hb)];simp only;rw [run_bind_ok (s:=pure ms) (x:=ms) (w':=c.w) rfl];rw [run_bind_ok (run_checkKey hk hkk hkr),run_bind_ok (run_findKey hk hf)]
      rcases hcase with ⟨rfl,hz,rfl⟩|⟨jj,rfl,rfl⟩
      ·simp only
       rw [run_bind_ok hz];rfl
      ·simp only
       rfl
     rw [run_bind_ok this];rfl
    have res:∀(u:V) (v:Value) (b:Bool),aA c u v->aA c (Ez ok u b) (if ok then .tuple #[v,.bool b] else v):=by
     intro u v b hu
     cases ok with
     | true=>exact ⟨[v,.bool b],rfl,_,_,rfl,hu,_,_,rfl,by simp [aA,aE],rfl⟩
     | false=>exact hu
    rcases find_ok hkk hkr es ms.toList 0 hm with ⟨g1,g2,_⟩|⟨dv,jj,v,m,g1,g2,_,_,g5,_⟩
    ·obtain ⟨zv,z1,z2⟩:=EK hz c.w
     exact aK r hK (res _ _ _ (aA.fD (z2 _))) (h.2 (by rw [g1];rfl)) (run _ zv false g2 (.inl ⟨rfl,z1,rfl⟩))
    ·obtain ⟨dv',h1,h2⟩:=h.1 (by rw [g1];rfl)
     rw [g1] at h1;injection h1 with h1;subst h1
     exact aK r hK (res _ _ _ (aA.fD g5)) h2 (run _ v true g2 (.inr ⟨_,rfl,rfl⟩))
   ·exact h.elim
  ·exact h.elim
 ·exact h.elim
theorem CH (r:Rel c w0 n gs st a) (hK:bn P Q q c w0 n gs st a o.dst K) {t k e:TypeId} {kk:Option IntKind} {z:Dat} {x i u:Operand} {y j l:Opd} (ho:o.op = .mapUpdate t x i u\/o.op = .insert t x i u) (ht:Ax P t=some (k,e,kk,z))
  (hc1:al x=some y) (hc2:al i=some j) (hc3:al u=some l) (h:WT P Q (step (.nC kk y j l) st q xx)):o.wp P a c.w K Qx:=by
 obtain ⟨hu,hz,dk,hk,hkk⟩:=Iq ht;simp only [step] at h
 split at h
 ·rename_i id xd uv hv1 hv2 hv3
  have e1:=aD r hc1 hv1;have e2:=aD r hc2 hv2;have e3:=aD r hc3 hv3;simp only [aA] at e1;rw [r.heap] at e1
  split at h
  ·rename_i kk' es dd hl hdd
   rw [hl] at e1;simp only [fq] at e1;have hl' : look c.heap id=some (.map kk' es):=by rw [r.heap];exact hl
   rw [<- r.heap] at hdd;have e3:=x6 hdd e3
   split at h
   ·rename_i key hd hkey
    have hd:=of_decide_eq_true hd;subst hd;obtain ⟨ms,clock,hb,hm⟩:=r.hrel.blk id _ hl';have hkr:=EP hkey e2;have fin:∀(ms' : Array MapEntry) (k' : Nat),oV c.w (Imm c) kk (dJ es key dd) ms'.toList->(Instr.mapUpdate t (.map (some (c.pl id).gb)) (a.eval i) (a.eval u)).run P c.w = .ok () (mQ c.w (c.pl id).gb (.map ms' k'))->o.wp P a c.w K Qx:=by
     intro ms' k' hm' hrun;have hr:Rel (c.aI id (.map kk (dJ es key dd)) (c.pl id) (mQ c.w (c.pl id).gb (.map ms' k'))) w0 n gs _ a:=
      r.setObj (b':=.map kk (dJ es key dd)) hl' (by simp) trivial ⟨rfl,rfl⟩ (fun he=>by
       refine ⟨ms',k',?_,oV.keep he.keeps _ _ hm'⟩;show (mQ c.w (c.pl id).gb _).heap[((c.aI id _ (c.pl id) _).pl id).gb]? = _;rw [ah.2,Bg hb])
     refine yq (w':=mQ c.w (c.pl id).gb (.map ms' k')) ?_ (hK (c.aI id (.map kk (dJ es key dd)) (c.pl id) (mQ c.w (c.pl id).gb (.map ms' k'))) _ .undef undef rfl rfl hr rfl trivial h)
     rcases ho with ho|ho
     ·simp only [execOp,ho,e1]
      rw [run_bind_ok hrun];rfl
     ·simp only [execOp,ho,e1]
      rw [run_bind_ok hrun];rfl
    have pre:∀(fd:Option (Nat×Value)),Instr.findNow dk (a.eval i) ms.toList 0=some fd->(Instr.mapUpdate t (.map (some (c.pl id).gb)) (a.eval i) (a.eval u)).run P c.w =
      (match fd with
       | some (i1,_)=>do
        let key <- Instr.keyThatStays (((ms[i1]?).map (·.key)).getD (a.eval i)) (a.eval i)
        setObj (c.pl id).gb (.map (ms.modify i1 fun e=>{ e with key,val:=a.eval u }) clock)
       | none=>setObj (c.pl id).gb (.map (ms.push { key:=a.eval i,val:=a.eval u,born:=clock }) (clock+1)):Sem Unit).run P c.w:=by
     intro fd hf;unfold Instr.mapUpdate;rw [run_bind_ok (bC hu)];simp only;rw [run_bind_ok (tC hb)];simp only;rw [run_bind_ok (run_checkKey hk hkk hkr),run_bind_ok (run_findKey hk hf)];rfl
    rcases find_ok hkk hkr es ms.toList 0 hm with ⟨g1,g2,g3⟩|⟨dv,jj,v,m,g1,g2,g3,g4,g5,g6⟩
    ·refine fin (ms.push { key:=a.eval i,val:=a.eval u,born:=clock }) (clock+1) ?_ ?_
     ·rw [Array.toList_push];exact g3 _ _ _ e3
     ·rw [pre _ g2];exact yE hb
    ·refine fin (ms.modify jj fun e=>{ e with key:=a.eval i,val:=a.eval u }) clock ?_ ?_
     ·rw [Array.toList_modify];exact g6 _ _ e3
     ·rw [pre _ g2]
      simp only [Nat.zero_add];have hm0:ms[jj]? = some m:=by simpa using g3
      have hst:(Instr.keyThatStays (((ms[jj]?).map (·.key)).getD (a.eval i)) (a.eval i)).run P c.w = .ok (a.eval i) c.w:=by
       rw [hm0];simp only [Option.map_some,Option.getD_some];rw [G7 hkr g4];unfold Instr.keyThatStays;rw [if_pos (Ob hkr)];rfl
      rw [run_bind_ok hst];exact yE hb
   ·exact h.elim
  ·exact h.elim
 ·exact h.elim
theorem Oc (r:Rel c w0 n gs st a) (hK:bn P Q q c w0 n gs st a o.dst K) {cl:Call} {x:Operand} {t k e:TypeId} {y:Opd} (ho:o.op = .call cl) (hb:cl.callee = .builtin .len) (hx:cl.args.toList=[x]) (ht:cl.argTypes.toList=[t])
  (hu:P.underlying t=some (.map k e)) (hc:al x=some y) (h:WT P Q (step (.Aw y) st q xx)):o.wp P a c.w K Qx:=by
 simp only [step] at h
 split at h
 ·rename_i id hv
  have e1:=aD r hc hv;simp only [aA] at e1;rw [r.heap] at e1
  split at h
  ·rename_i kk es hl
   rw [hl] at e1;simp only [fq] at e1;have hl' : look c.heap id=some (.map kk es):=by rw [r.heap];exact hl
   obtain ⟨ms,clock,hbk,hm⟩:=r.hrel.blk id _ hl';have hlen:=oV.length _ _ hm;simp only [Array.length_toList] at hlen;refine aK r hK (v:=.d (.int .i64 es.length)) (gv:=.int .i64 es.length) (by simp [aA,aE]) h ?_;obtain ⟨cal,args,ats⟩:=cl;simp only at hb hx ht;subst hb;have hx' : args = #[x]:=by rw [<- hx]
   have ht' : ats = #[t]:=by rw [<- ht]
   subst hx' ht';simp only [execOp,ho,resolve,invoke,builtin];have:(Builtin.len_ #[t] o.type #[a.eval x]).run P c.w = .ok (.int .i64 es.length) c.w:=by
    rw [e1];unfold Builtin.len_;simp [bC hu,tC hbk,goInt,hlen]
   simp [this]
  ·exact h.elim
 ·exact h.elim
theorem QJ (r:Rel c w0 n gs st a) (hK:bn P Q q c w0 n gs st a o.dst K) {cl:Call} {x1 x2:Operand} {y1 y2:Opd} {mx:Bool} (ho:o.op = .call cl) (hb:cl.callee = .builtin (if mx then .max else .min)) (hx:cl.args.toList=[x1,x2])
  (hc1:al x1=some y1) (hc2:al x2=some y2) (h:WT P Q (step (.mm mx y1 y2) st q xx)):o.wp P a c.w K Qx:=by
 simp only [step] at h
 split at h
 ·rename_i k i k' j hv1 hv2
  have e1:=aD r hc1 hv1;have e2:=aD r hc2 hv2;simp only [aA,aE] at e1 e2
  split at h
  ·rename_i hd
   have hd:=of_decide_eq_true hd;subst hd;refine aK r hK (v:=.d (.int k (mmI mx i j))) (gv:=.int k (mmI mx i j)) (by simp [aA,aE]) h ?_;obtain ⟨cal,args,ats⟩:=cl;simp only at hb hx;subst hb;have hx' : args = #[x1,x2]:=by rw [<- hx]
   subst hx';simp only [execOp,ho,resolve,invoke]
   cases mx with
   | true=>
    have:(Builtin.max_ ats o.type #[a.eval x1,a.eval x2]).run P c.w = .ok (.int k (mmI true i j)) c.w:=by
     rw [e1,e2];unfold Builtin.max_;simp only [List.foldlM_cons,List.foldlM_nil,Builtin.max2,mmI];have:(if j>i then j else i)=max i j:=by split<;>omega
     rw [this];rfl
    simp [this,builtin]
   | false=>
    have:(Builtin.min_ ats o.type #[a.eval x1,a.eval x2]).run P c.w = .ok (.int k (mmI false i j)) c.w:=by
     rw [e1,e2];unfold Builtin.min_;simp only [List.foldlM_cons,List.foldlM_nil,Builtin.min2,mmI];have:(if j<i then j else i)=min i j:=by split<;>omega
     rw [this];rfl
    simp [this,builtin]
  ·exact h.elim
 ·exact h.elim
theorem uH {w:World} {J:Nat->Nat->Prop}:∀{ys:List (List Dat)} {bs:List UInt8} {us:List Value},bytesOf ys=some bs->aX w J ys.flatten us->∃ns:List Int,us=ns.map (Value.int .u8)/\bs=ns.map (fun m=>UInt8.ofNat m.toNat)
 | [],bs,us,h,r=>by
  simp [bytesOf] at h;subst h;simp [aX] at r;subst r;exact ⟨[],rfl,rfl⟩
 | y::ys,bs,us,h,r=>by
  unfold bytesOf at h
  split at h
  ·simp at *
  ·rename_i m rr e1
   simp only [List.cons.injEq] at e1;obtain ⟨rfl,rfl⟩:=e1
   split at h
   ·rename_i l hl
    simp at h;subst h;simp only [List.flatten_cons,List.cons_append,List.nil_append] at r;obtain ⟨v,us',rfl,r1,r2⟩:=r;simp only [aE] at r1;subst r1;obtain ⟨ns,rfl,rfl⟩:=uH hl r2;exact ⟨m::ns,rfl,rfl⟩
   ·simp at h
  ·simp at h
theorem Bj:∀(ns:List Int) (s:ByteArray),ns.foldl (fun r m=>r.push (UInt8.ofNat m.toNat)) s=⟨s.data++(ns.map fun m=>UInt8.ofNat m.toNat).toArray⟩
 | [],s=>by simp
 | m::ns,s=>by
  rw [List.foldl_cons,Bj ns];simp [ByteArray.push]
theorem RE (r:Rel c w0 n gs st a) (hK:bn P Q q c w0 n gs st a o.dst K) {s d e:TypeId} {x:Operand} {y:Opd} (ho:o.op = .convert s d x) (hs:P.underlying s=some (.slice e)) (hd:P.underlying d=some .string) (he:P.underlying e=some (.int .u8)) (hc:al x=some y)
  (h:WT P Q (step (.b2s y) st q xx)):o.wp P a c.w K Qx:=by
 simp only [step] at h
 split at h
 ·rename_i k ys z hv
  have e1:=aD r hc hv
  split at h
  ·rename_i bs hk hbs
   have hk:=Nat.eq_of_beq_eq_true hk;subst hk;refine aK r hK (v:=.d (.str bs)) (gv:=.string ⟨bs.toArray⟩) (by simp [aA,aE]) h ?_;simp only [execOp,ho];have key:(convert s d (a.eval x)).run P c.w = .ok (.string ⟨bs.toArray⟩) c.w:=by
    rcases e1 with ⟨⟨xa,e2,_⟩,rfl⟩|⟨b,o',cap,e2,h1,h2,h3⟩
    ·simp [bytesOf] at hbs;subst hbs
     rw [e2,run_convert_bytes_string c.w s d e _ _ _ hs he hd]
     cases xa with
     | none=>rfl
     | some aa=>
      rw [run_bytesToString c.w aa 0 0 [] (by rfl)];rfl
    ·obtain ⟨g1,us,g2,g3⟩:=cB.flat h3
     obtain ⟨ns,rfl,rfl⟩:=uH hbs g2;have hl:(ns.map (Value.int .u8)).length=ys.length:=by
      have h1:=aX.length g2;have h2:=fE g1;simp at h1 h2 ⊢;omega
     rw [e2,run_convert_bytes_string c.w s d e _ _ _ hs he hd,run_bytesToString c.w _ _ _ ns (run_loadCells hl g3.2.1),Bj];simp
   rw [run_bind_ok key];rfl
  ·exact h.elim
 ·exact h.elim
theorem Oe (r:Rel c w0 n gs st a) (hK:bn P Q q c w0 n gs st a o.dst K) {s:TypeId} {fs:Array Field} {f:Nat} {fd:Field} {k:Nat} {g:Bool} {x:Operand} {y:Opd} (ho:o.op = .field s x f) (hu:P.underlying s=some (.struct fs)) (hf:fs[f]? = some fd) (hg:jF P fd.type=some g) (hk:sizeT P fd.type=some k)
  (hc1:al x=some y) (h:WT P Q (step (.xy g k fd.offset y) st q xx)):o.wp P a c.w K Qx:=by
 simp only [step,aj] at h
 split at h
 ·rename_i v hv1
  split at h
  ·rename_i hag
   rw [Bool.and_eq_true] at hag;obtain ⟨vs,e1,e2⟩:=rY hag.1 (aD r hc1 hv1);have hle:=Nat.le_of_ble_eq_true hag.2
   split at h
   ·rename_i u hmk
    obtain ⟨gu,p1,p2⟩:=oY ((e2.drop fd.offset).take k) hmk;refine aK r hK p2 h ?_;simp only [execOp,ho];have:(Instr.field s (a.eval x) f).run P c.w = .ok gu c.w:=by
     unfold Instr.field;rw [e1,run_bind_ok (bC hu)];simp only [hf];rw [run_bind_ok (s:=asAgg _) (x:=vs.toArray) (w':=c.w) rfl];unfold part;rw [run_bind_ok (rW hg)]
     cases g with
     | true=>
      simp only [pack,Option.some.injEq] at p1;subst p1;simp only [if_true];rw [run_bind_ok (eH hk)];simp [List.extract_toArray,List.extract_eq_take_drop]
     | false=>
      simp only [Bool.false_eq_true,if_false];have hlen:=A8 (g:=false) hmk
      match hl:(vs.drop fd.offset).take k,p1 with
      | [v0],p1=>
       simp only [pack,Option.some.injEq] at p1;subst p1;have hv0:vs[fd.offset]? = some v0:=by
        have h0:((vs.drop fd.offset).take k)[0]? = some v0:=by rw [hl];rfl
        rw [List.getElem?_take] at h0
        split at h0
        ·simpa using h0
        ·simp at h0
       simp [hv0]
    rw [run_bind_ok this];rfl
   ·exact h.elim
  ·exact h.elim
 ·exact h.elim
theorem Og (r:Rel c w0 n gs st a) (hK:bn P Q q c w0 n gs st a o.dst K) {t e:TypeId} {m k:Nat} {g:Bool} {x i:Operand} {y j:Opd} (ho:o.op = .index t x i) (hu:P.underlying t=some (.array m e)) (hg:jF P e=some g) (hk:sizeT P e=some k)
  (hc1:al x=some y) (hc2:al i=some j) (h:WT P Q (step (.Eu g m k y j) st q xx)):o.wp P a c.w K Qx:=by
 simp only [step,aj] at h
 split at h
 ·rename_i v ik jj hv1 hv2
  have e5:=aD r hc2 hv2;simp only [aA,aE] at e5
  split at h
  ·rename_i hag
   obtain ⟨vs,e1,e2⟩:=rY hag (aD r hc1 hv1);obtain ⟨hb,h⟩:=gK h;simp only [Bool.and_eq_true,decide_eq_true_eq] at hb
   split at h
   ·rename_i hle
    have hle:=Nat.le_of_ble_eq_true hle
    split at h
    ·rename_i u hmk
     obtain ⟨gu,p1,p2⟩:=oY ((e2.drop (jj.toNat * k)).take k) hmk;refine aK r hK p2 h ?_;simp only [execOp,ho];have:(Instr.index t (a.eval x) (a.eval i)).run P c.w = .ok gu c.w:=by
      unfold Instr.index;rw [e1,e5,run_bind_ok (s:=asIntOf _) (x:=(ik,jj)) (w':=c.w) rfl];simp only [];rw [run_bind_ok (bC hu)];simp only [hb,and_self,if_true];rw [run_bind_ok (eH hk)];unfold part;rw [run_bind_ok (rW hg)]
      cases g with
      | true=>
       simp only [pack,Option.some.injEq] at p1;subst p1;simp only [if_true];rw [run_bind_ok (eH hk)];simp [List.extract_toArray,List.extract_eq_take_drop]
      | false=>
       simp only [Bool.false_eq_true,if_false];have hlen:=A8 (g:=false) hmk
       match hl:(vs.drop (jj.toNat * k)).take k,p1 with
       | [v0],p1=>
        simp only [pack,Option.some.injEq] at p1;subst p1;have hv0:vs[jj.toNat * k]? = some v0:=by
         have h0:((vs.drop (jj.toNat * k)).take k)[0]? = some v0:=by rw [hl];rfl
         rw [List.getElem?_take] at h0
         split at h0
         ·simpa using h0
         ·simp at h0
        simp [hv0]
     rw [run_bind_ok this];rfl
    ·exact h.elim
   ·exact h.elim
  ·exact h.elim
 ·exact h.elim
end
end Uw
namespace Uw
open Go Go.RowKit
variable [Glob]
section
variable {P : Program} {Q : aH -> St -> Prop} {q : V -> St -> Tree} {c : Cx} {w0 : World} {n : Nat} {gs : Fr} {st : St} {a : Act} {K : Act -> World -> Prop} {Qx : Exit -> Act -> World -> Prop} {o : Oper} {xx : aH -> St -> Tree}
theorem Evo.heq {c:Cx} {h:Heap} (hh:∀i,look h i=look c.heap i):Evo c { c with heap:=h }:=by
 refine ⟨fun b o hi=>⟨?_,rfl⟩,fun id b hb=>⟨b,(hh id).trans hb,by cases b<;>simp [c6]⟩⟩
 rcases hi with hi|⟨h1,h2,h3⟩
 ·exact .inl hi
 ·exact .inr ⟨h1,h2,fun id blk hl hp hg=>h3 id blk ((hh id).symm.trans hl) hp hg⟩
theorem cZ.heq {next:Nat} (r:cZ c w0 next) {h:Heap} (hh:∀i,look h i=look c.heap i):cZ { c with heap:=h } w0 next:=by
 have e:∀{id b},look h id=some b->look c.heap id=some b:=fun hl=>(hh _).symm.trans hl;exact ⟨r.below,r.other,r.kJ,fun id b hl=>cJ.evo (Evo.heq hh) rfl (fun _=>rfl) (r.blk id b (e hl)),fun id b hl=>r.lt id b (e hl),fun id b hl hp=>r.ge id b (e hl) hp,
  fun id id' b b' h1 h2 p1 p2 hg=>r.inj id id' b b' (e h1) (e h2) p1 p2 hg⟩
theorem Rel.heq (r:Rel c w0 n gs st a) {h:Heap} (hh:∀i,look h i=look st.heap i):Rel { c with heap:=h } w0 n gs { st with heap:=h } a:=
 r.evo (Evo.heq (by rw [r.heap];exact hh)) rfl (r.hrel.heq (by rw [r.heap];exact hh)) rfl rfl rfl (Nat.le_refl _)
def TX (q:V->St->Tree):V->St->Tree:=fun v st'=>.heq st'.heap fun h=>q v { st' with heap:=h }
theorem bn.heq {dst:Option Tmp} (hK:bn P Q q c w0 n gs st a dst K):bn P Q (TX q) c w0 n gs st a dst K:=by
 intro c' st' v gv h1 h2 h3 h4 h5 h6;obtain ⟨h',hh,hw⟩:=h6;have hh' : ∀i,look h' i=look c'.heap i:=by rw [h3.heap];exact hh
 exact hK { c' with heap:=h' } { st' with heap:=h' } v gv h1 h2 (h3.heq hh) h4 (aA.evo (Evo.heq hh') v gv h5) hw
theorem vQ {v:V} (h:WT P Q (q v st)):WT P Q (TX q v st):=⟨st.heap,fun _=>rfl,h⟩
theorem La (r:Rel c w0 n gs st a) (hK:bn P Q q c w0 n gs st a o.dst K) {t:TypeId} {x:Operand} {y:Opd} (ho:o.op = .load t x) (hg:jF P t=some false) (hm:sizeT P t=some 1) (hc:al x=some y)
  (h:WT P Q (step (.eR y) st q xx)):o.wp P a c.w K Qx:=by
 refine Ij (xx:=xx) r hK ho hg hm hc ?_;simp only [step,aj] at h ⊢
 split at h
 ·rename_i id off hv
  split at h
  ·rename_i cs hl
   obtain ⟨v,hv',h⟩:=h;have hlt:off<cs.length:=by
    rcases Nat.lt_or_ge off cs.length with h|h
    ·exact h
    ·rw [List.getElem?_eq_none h] at hv';cases hv'
   have e:(cs.drop off).take 1=[v]:=by
    rw [List.drop_eq_getElem_cons hlt];rw [List.getElem?_eq_getElem hlt] at hv';injection hv' with hv'
    rw [hv'];rfl
   have e2:Nat.ble (off+1) cs.length=true:=Nat.ble_eq_true_of_le (by omega);simp only [hv,hl,e2,e,qq];exact h
  ·exact h.elim
 ·rename_i cs off hv
  simp only [hv];exact h
 ·exact h.elim
theorem Jo {α:Type} (l:List α) (i:Nat) (x:α):setAt l i [x]=l.set i x:=rfl
theorem cells_one {v:V} (h:uy v=true):v.cells=[v]:=by
 cases v with
 | d x=>cases x<;>first|rfl|simp [uy] at h
 | agg cs=>simp [uy] at h
 | _=>rfl
theorem Jp (r:Rel c w0 n gs st a) (hK:bn P Q q c w0 n gs st a o.dst K) {t:TypeId} {x1 x2:Operand} {y1 y2:Opd} (ho:o.op = .store t x1 x2) (hm:sizeT P t=some 1) (hc1:al x1=some y1) (hc2:al x2=some y2)
  (h:WT P Q (step (.pD y1 y2) st q xx)):o.wp P a c.w K Qx:=by
 refine EF (xx:=xx) r hK ho hm hc1 hc2 ?_;simp only [step,aj,au] at h ⊢
 split at h
 ·rename_i id off v hv1 hv2
  split at h
  ·rename_i cs hl h1
   simp only [WT] at h
   cases hd:decide (off<cs.length) with
   | false=>exact (h.2 hd).elim
   | true=>
    have h:=h.1 hd;have hd:=of_decide_eq_true hd;have e2:Nat.ble (off+1) cs.length=true:=Nat.ble_eq_true_of_le (by omega);simp only [hv1,hv2,hl,cells_one h1,Jo,e2];simp only [List.length_cons,List.length_nil,List.all_cons,List.all_nil,h1,Nat.zero_add,Nat.beq_refl,Bool.and_true];exact h
  ·exact h.elim
 ·exact h.elim
theorem Oh (r:Rel c w0 n gs st a) (hK:bn P Q q c w0 n gs st a o.dst K) {t k e:TypeId} {kk:Option IntKind} {z:Dat} {x i:Operand} {y j:Opd} {ok:Bool} (ho:o.op = .lookup t x i ok) (ht:Ax P t=some (k,e,kk,z))
  (hc1:al x=some y) (hc2:al i=some j) (h:WT P Q (step (.ux ok kk z y j) st q xx)):o.wp P a c.w K Qx:=by
 refine K9 (xx:=xx) r hK ho ht hc1 hc2 ?_;simp only [step] at h ⊢
 split at h
 ·rename_i id xd hv1 hv2
  obtain ⟨b,hl,h⟩:=h;simp only [hv1,hv2,hl]
  cases b with
  | map kk' es=>exact h
  | _=>exact h.elim
 ·exact h.elim
theorem Lc (r:Rel c w0 n gs st a) (hK:bn P Q q c w0 n gs st a o.dst K) {t k e:TypeId} {kk:Option IntKind} {z:Dat} {x i u:Operand} {y j l:Opd} (ho:o.op = .mapUpdate t x i u\/o.op = .insert t x i u) (ht:Ax P t=some (k,e,kk,z))
  (hc1:al x=some y) (hc2:al i=some j) (hc3:al u=some l) (h:WT P Q (step (.wI kk y j l) st q xx)):o.wp P a c.w K Qx:=by
 refine CH (xx:=xx) r hK.heq ho ht hc1 hc2 hc3 ?_;simp only [step] at h ⊢
 split at h
 ·rename_i id xd v hv1 hv2 hv3
  split at h
  ·rename_i d hd
   obtain ⟨b,hl,h⟩:=h;simp only [hv1,hv2,hv3,hl,hd]
   cases b with
   | map kk' es=>exact h
   | _=>exact h.elim
  ·exact h.elim
 ·exact h.elim
theorem Oi (r:Rel c w0 n gs st a) (hK:bn P Q q c w0 n gs st a o.dst K) {cl:Call} {x1 x2:Operand} {y1 y2:Opd} {t e:TypeId} {k bytes:Nat} (ho:o.op = .call cl) (hb:cl.callee = .builtin .append) (hx:cl.args.toList=[x1,x2]) (ht:cl.argTypes.toList=[t,t])
  (he:qt P t e k bytes) (hc1:al x1=some y1) (hc2:al x2=some y2) (h:WT P Q (step (.Jg k bytes y1 y2) st q xx)):o.wp P a c.w K Qx:=by
 refine K1 (m:=false) (xx:=xx) r hK.heq ho hb hx ht he hc1 hc2 ?_;simp only [step] at h ⊢
 split at h
 ·rename_i b y hv1 hv2
  split at h
  ·rename_i ys hs
   simp only [hv1,hv2,hs,Ew]
   split at h
   ·refine ⟨fun hd=>vQ (h.1 hd),fun hd=>h.2 hd⟩
   ·rename_i k' xs
    split at h
    ·rename_i hk
     refine ⟨fun hx=>?_,fun hx=>(h.2 hx).elim⟩;obtain ⟨h1,h2⟩:=h.1 hx;refine ⟨fun hd=>?_,fun hd=>h2 hd⟩;obtain ⟨h3,h4⟩:=h1 hd;exact ⟨fun hy=>vQ (h3 hy),fun hy=>vQ (h4 hy)⟩
    ·exact h.elim
   ·rename_i id ver len
    obtain ⟨b,hl,h⟩:=h;simp only [hl]
    cases b with
    | arr k' xs=>exact h
    | _=>exact h.elim
   ·exact h.elim
  ·exact h.elim
 ·exact h.elim
theorem Ld (r:Rel c w0 n gs st a) (hK:bn P Q q c w0 n gs st a o.dst K) {t e:TypeId} {bytes:Nat} {z:Dat} {x1 x2:Operand} {y1 y2:Opd} (ho:o.op = .makeSlice t x1 x2) (he:qt P t e 1 bytes) (hz:lH P e=some [z])
  (hc1:al x1=some y1) (hc2:al x2=some y2) (h:WT P Q (step (.wH bytes z y1 y2) st q xx)):o.wp P a c.w K Qx:=by
 simp only [step] at h
 split at h
 ·rename_i l cp hv1 hv2
  have e1:=aD r hc1 hv1;have e2:=aD r hc2 hv2;simp only [aA,aE] at e1 e2;simp only [WT] at h
  cases hd:(decide (l=cp)&&decide (0<=l)&&decide (cp * (bytes:Int)<=70368744177664)) with
  | false=>exact (h.2 hd).elim
  | true=>
   obtain ⟨g1,g2⟩:=h.1 hd;simp only [Bool.and_eq_true,decide_eq_true_eq] at hd;obtain ⟨⟨rfl,d1⟩,d3⟩:=hd;obtain ⟨i,zv,zs',hi,hsz,hby,hzero,hzs,hzk⟩:=he.info;have hzs' : zs' = [z]:=by
    simp only [lH,hi,hzero] at hz;rw [hzs] at hz;injection hz
   subst hzs';have hpos:=he.pos;have hcb:l<=70368744177664:=by
    have:l * 1<=l * (bytes:Int):=Int.mul_le_mul_of_nonneg_left (by omega) (by omega);omega
   have j6:=mP zv.cells (by omega) l.toNat;rw [hzk] at j6;have hzr:=fH hzs c.w (Imm c);have hmc:(madeCells zv.cells (l.toNat * 1)).toList=(List.replicate l.toNat zv.cells.toList).flatten:=by
    rw [<- j6];simp [madeCells,hzk]
   have hrun:=run_make c.w t e i zv he.und hi hzero .i64 .i64 l l d1 (Int.le_refl _) (by rw [hby,Int.mul_comm];omega) (by omega);rw [hsz] at hrun;have hex:(execOp a.eval o).run P c.w = .ok (.value (.slice (some ⟨c.w.heap.size,0,none⟩) l.toNat l.toNat)) (c.w.alloc (.cells (madeCells zv.cells (l.toNat * 1)) e)):=by
    simp only [execOp,ho,e1,e2];rw [run_bind_ok hrun];rfl
   by_cases h0:0<l
   ·have hV:ax c (List.replicate l.toNat (V.d z)) (madeCells zv.cells (l.toNat * 1)).toList:=by
     rw [hmc];have:=ax.ofL (aX.replicate hzr l.toNat);simpa using this
    refine ca hex (hK (c.push st.next 0 (.var (List.replicate l.toNat (.d z))) (.cells (madeCells zv.cells (l.toNat * 1)) e)) _ (.row st.next l.toNat) _ rfl rfl (uD r hV) rfl ?_ (g1 (by simpa using h0)));refine ⟨⟨_,by simp [Cx.push,ai];rfl⟩,?_,by omega⟩;simp [Cx.push]
   ·have hl0:l.toNat=0:=by omega
    have hvs:(madeCells zv.cells (l.toNat * 1)).toList=[]:=by rw [hmc,hl0];rfl
    obtain ⟨p1,p2⟩:=Il r (k:=1) (xs:=[]) (vs:=madeCells zv.cells (l.toNat * 1)) (e:=e) (by simp) (by rw [hvs];simp [aX]) (by rw [hvs];simp);refine ca hex (hK { c with w:=c.w.alloc (.cells (madeCells zv.cells (l.toNat * 1)) e) } st _ _ rfl rfl p1 rfl ?_ (g2 (by simpa using h0)));rw [hl0];exact p2
 ·exact h.elim
theorem uI {k:Nat}:∀{ps:List (Nat×Operand)} {qs:List (Nat×Opd)},mJ ps=some qs->jr (fun i=>some (i * k,k)) ps=some (qs.map fun y=>(y.1 * k,k,y.2))
 | [],qs,h=>by simp [mJ] at h;subst h;rfl
 | (i,x)::ps,qs,h=>by
  unfold mJ at h
  split at h
  ·rename_i y l hy hl
   simp at h;subst h;simp only [jr,hy,uI hl,List.map_cons]
  ·simp at h
theorem Jq (r:Rel c w0 n gs st a) (hK:bn P Q q c w0 n gs st a o.dst K) {t e:TypeId} {k len:Nat} {zs:List Dat} {ps:Array (Nat×Operand)} {qs:List (Nat×Opd)} (ho:o.op = .buildSlice t len ps) (hu:P.underlying t=some (.slice e)) (hk:sizeT P e=some k) (hkp:0<k) (hlp:0<len)
  (hz:lH P e=some zs) (hzl:zs.length=k) (hle:len * k<=16777216) (hq:mJ ps.toList=some qs) (h:WT P Q (step (.vI len ((List.replicate len zs).flatten) (qs.map fun y=>(y.1 * k,k,y.2))) st q xx)):o.wp P a c.w K Qx:=by
 simp only [step,aj,av] at h
 split at h
 ·rename_i cs hcs
  obtain ⟨z,hzv,hzd⟩:=uB (w:=c.w) hz;have hzk:z.cells.size=k:=by have:=pO hzd;simp at this;omega
  have hzr:=fH hzd c.w (Imm c);have j6:=mP z.cells (by omega) len;rw [hzk] at j6;obtain ⟨vs',g1,g2⟩:=EE r ps.toList _ _ cs ((Array.range (len * k)).map (fun i=>z.cells[i % k]!)) (uI hq) (by rw [j6];exact ax.ofL (aX.replicate hzr len)) hcs;refine ca (w':=c.w.alloc (.cells vs' e)) (gv:=.slice (some ⟨c.w.heap.size,0,none⟩) len len) ?_ (hK (c.push st.next 0 (.var cs) (.cells vs' e)) _ (.row st.next len) _ rfl rfl (uD r g2) rfl ?_ h)
  ·simp only [execOp,ho]
   have:(Instr.buildSlice t len (ps.map fun (i,x)=>(i,a.eval x))).run P c.w = .ok (.slice (some ⟨c.w.heap.size,0,none⟩) len len) (c.w.alloc (.cells vs' e)):=by
    unfold Instr.buildSlice;rw [run_bind_ok (bC hu)];simp only [];rw [run_bind_ok (eH hk)];have hgt:¬len * k>2 ^ 24:=by omega
    simp only [hgt,if_false];have hps:(ps.map fun (i,x)=>(i,a.eval x)).toList=ps.toList.map fun (i,x)=>(i,a.eval x):=by simp
    have h0:¬len * k=0:=by
     have:=Nat.mul_pos hlp hkp;omega
    rw [if_neg h0];rw [run_bind_ok hzv];rw [run_bind_ok (s:=pure _) (x:=z.cells) (w':=c.w) rfl];simp only [hzk,hps,g1];rfl
   rw [run_bind_ok this];rfl
  ·refine ⟨⟨_,by simp [Cx.push,ai];rfl⟩,?_,hlp⟩
   simp [Cx.push]
 ·exact h.elim
end
end Uw
namespace Uw
open Go Go.RowKit
variable [Glob]
section
variable {P : Program} {Q : aH -> St -> Prop} {q : V -> St -> Tree} {c : Cx} {w0 : World} {n : Nat} {gs : Fr} {st : St} {a : Act} {K : Act -> World -> Prop} {Qx : Exit -> Act -> World -> Prop} {o : Oper} {xx : aH -> St -> Tree}
theorem Oj (r:Rel c w0 n gs st a) (hK:bn P Q q c w0 n gs st a o.dst K) {cl:Call} {f:FuncId} {fn:Func} {ys:List Opd} (ho:o.op = .call cl) (fB:cl.callee = .value (.func f)) (hf:P.funcs[f]? = some fn)
  (hb:fn.body.isSome=true) (hn:(fn.name == "runtime.NumGoroutine")=false) (hc:dQ cl.args.toList=some ys) (h:WT P Q (step (.call f ys) st q xx)):o.wp P a c.w K Qx:=by
 simp only [step] at h
 split at h
 ·rename_i vs hvs
  split at h
  ·rename_i ds hds
   simp only [WT] at h;obtain ⟨res,hret,hq⟩:=h;rw [<- r.heap] at hds;have h1:=nM hds (kL r hc hvs);unfold Oper.wp;rw [Ba ho fB hf hb hn];have h2:=hret c.w (Imm c) _ r.hrel.glob h1;have e:(cl.args.toList.map a.eval).toArray=cl.args.map a.eval:=by
    rw [<- Array.toList_map]
   rw [e] at h2;refine h2.mono ?_;rintro e w' ⟨v,rfl,hv,hbel⟩;have hgrow:=r.grow hbel;refine hK { c with w:=w' } st (V.fD res) v rfl rfl hgrow rfl (aA.fD ?_) hq;refine aE.keep ?_ _ _ hv;intro b o' hj;refine ⟨?_,rfl⟩
   rcases hj with hj|⟨hj1,hj2⟩
   ·exact ((Evo.grow r.hrel hbel).keeps b o' hj).1
   ·refine .inr ⟨r.hrel.qV hj1,hj2,?_⟩
    intro id blk hl hph hg;have:=r.hrel.jI hl hph;have hg' : (c.pl id).gb=b:=hg;omega
  ·exact h.elim
 ·exact h.elim
theorem qY {P:Program} {t e:TypeId} {k bytes:Nat} {zs:List Dat} (h:A4 P t=some (e,k,bytes,zs)):qt P t e k bytes/\0<k/\sizeT P e=some k/\lH P e=some zs/\zs.length=k:=by
 unfold A4 at h
 split at h
 ·rename_i e' hu
  split at h
  ·rename_i i hi
   split at h
   ·rename_i z hz
    split at h
    ·rename_i zs' hzs
     split at h
     ·rename_i hb
      simp only [Bool.and_eq_true] at hb;simp at h;obtain ⟨rfl,rfl,rfl,rfl⟩:=h;have h1:=Nat.eq_of_beq_eq_true hb.1.1.1;have h2:=Nat.eq_of_beq_eq_true hb.1.1.2;refine ⟨⟨hu,⟨i,z,zs',hi,rfl,rfl,hz,hzs,h1⟩,by simpa using hb.2⟩,by simpa using hb.1.2,by simp [sizeT,hi],by simp [lH,hi,hz,hzs],h2⟩
     ·simp at h
    ·simp at h
   ·simp at h
  ·simp at h
 ·simp at h
theorem step_ok (r:Rel c w0 n gs st a) {mo:MOp} {pol:Pol} (hc:B7 P pol o=some mo) (hD:Io P Q q c w0 n gs st a o.dst K) (hX:yA P Q xx c w0 n gs st a Qx) (h:WT P Q (step mo st q xx)):o.wp P a c.w K Qx:=by
 have hK:=hD.ok;unfold B7 at hc
 split at hc
 ·rename_i x ho
  simp only [Option.map_eq_some_iff] at hc;obtain ⟨y,hy,rfl⟩:=hc;exact KN r hK (.inl ho) hy h
 ·rename_i x ho
  simp only [Option.map_eq_some_iff] at hc;obtain ⟨y,hy,rfl⟩:=hc;exact KN r hK (.inr ho) hy h
 ·rename_i x1 x2 x3 ho
  split at hc
  ·rename_i y1 y2 y3 h1 h2 h3
   simp at hc;subst hc;exact NJ r hK ho h1 h2 h3 h
  ·simp at hc
 ·rename_i t x ho
  simp only [Option.map_eq_some_iff] at hc;obtain ⟨y,hy,rfl⟩:=hc;exact Rk r hK ho hy h
 ·rename_i t ho
  simp only [Option.map_eq_some_iff] at hc;obtain ⟨zs,hz,rfl⟩:=hc;exact KO r hK ho hz h
 ·rename_i t ps ho
  split at hc
  ·rename_i place zs hp hz
   simp only [Option.map_eq_some_iff] at hc;obtain ⟨qs,hq,rfl⟩:=hc;exact KP r hK ho hp hz hq h
  ·simp at hc
 ·rename_i t x ho
  split at hc
  ·rename_i g m y h1 h2 h3
   split at hc
   ·rename_i hf
    simp only [Bool.and_eq_true,Bool.not_eq_true'] at hf;have hm1:=Nat.eq_of_beq_eq_true hf.2;have hg1:=hf.1.2;subst hm1 hg1;simp at hc;subst hc;exact La r hK ho h1 h2 h3 h
   ·simp at hc;subst hc
    exact Ij r hK ho h1 h2 h3 h
  ·simp at hc
 ·rename_i t x1 x2 ho
  split at hc
  ·rename_i m y1 y2 h1 h2 h3
   split at hc
   ·rename_i hf
    simp only [Bool.and_eq_true] at hf;have hm1:=Nat.eq_of_beq_eq_true hf.2;subst hm1;simp at hc;subst hc;exact Jp r hK ho h1 h2 h3 h
   ·simp at hc;subst hc
    exact EF r hK ho h1 h2 h3 h
  ·simp at hc
 ·rename_i x ho
  simp only [Option.map_eq_some_iff] at hc;obtain ⟨y,hy,rfl⟩:=hc;exact KR r hK ho hy h
 ·rename_i s x f ho
  split at hc
  ·rename_i fs hu
   split at hc
   ·rename_i fd hf
    split at hc
    ·rename_i m y h1 h2
     simp at hc;subst hc;exact Rm r hK ho hu hf h1 h2 h
    ·simp at hc
   ·simp at hc
  ·simp at hc
 ·rename_i t x i ho
  split at hc
  ·rename_i e hu
   split at hc
   ·rename_i k y j h1 h2 h3
    simp at hc;subst hc;exact Rn r hK ho hu h1 h2 h3 h
   ·simp at hc
  ·rename_i m e hu
   split at hc
   ·rename_i k y j h1 h2 h3
    simp at hc;subst hc;exact NT r hK ho hu h1 h2 h3 h
   ·simp at hc
  ·simp at hc
 ·rename_i t x i ho
  split at hc
  ·rename_i hu
   split at hc
   ·rename_i y j h2 h3
    simp at hc;subst hc;exact NK r hK ho hu h2 h3 h
   ·simp at hc
  ·rename_i m e hu
   split at hc
   ·rename_i g k y j h0 h1 h2 h3
    simp at hc;subst hc;exact Og r hK ho hu h0 h1 h2 h3 h
   ·simp at hc
  ·simp at hc
 ·rename_i t ho
  split at hc
  ·rename_i k e kk z ht
   simp at hc;subst hc;exact K8 r hK ho h
  ·simp at hc
 ·rename_i t x i ok ho
  split at hc
  ·rename_i k e kk z y j ht h1 h2
   split at hc
   ·simp at hc;subst hc
    exact Oh r hK ho ht h1 h2 h
   ·simp at hc;subst hc
    exact K9 r hK ho ht h1 h2 h
  ·simp at hc
 ·rename_i t x i u ho
  split at hc
  ·rename_i k e kk z y j l ht h1 h2 h3
   split at hc
   ·simp at hc;subst hc
    exact Lc r hK (.inl ho) ht h1 h2 h3 h
   ·simp at hc;subst hc
    exact CH r hK (.inl ho) ht h1 h2 h3 h
  ·simp at hc
 ·rename_i t x i u ho
  split at hc
  ·rename_i k e kk z y j l ht h1 h2 h3
   simp at hc;subst hc;exact CH r hK (.inr ho) ht h1 h2 h3 h
  ·simp at hc
 ·rename_i t x ho
  split at hc
  ·rename_i hu
   simp only [Option.map_eq_some_iff] at hc;obtain ⟨y,hy,rfl⟩:=hc;exact RB r hK ho hu hy h
  ·simp at hc
 ·rename_i x ho
  simp only [Option.map_eq_some_iff] at hc;obtain ⟨y,hy,rfl⟩:=hc;exact RD r hK ho hy h
 ·rename_i op t x1 x2 t' ho
  split at hc
  ·rename_i y1 y2 hu h1 h2
   split at hc
   ·simp at hc;subst hc
    exact KW r hK ho (by simp) hu h1 h2 h
   ·simp at hc;subst hc
    exact KW r hK ho (by simp) hu h1 h2 h
   ·simp at hc
  ·rename_i k y1 y2 hu h1 h2
   simp at hc;subst hc;exact KU r hK ho h1 h2 h
  ·rename_i y1 y2 hu h1 h2
   simp at hc;subst hc;exact KU r hK ho h1 h2 h
  ·rename_i e y1 y2 hu h1 h2
   split at hc
   ·rename_i hn
    simp at hc;subst hc;exact K5 r hK ho (by simp) hu hn h1 h
   ·rename_i hn
    simp at hc;subst hc;exact K5 r hK ho (by simp) hu hn h1 h
   ·simp at hc
  ·rename_i ms y1 y2 hu h1 h2
   split at hc
   ·rename_i hn
    simp at hc;subst hc;exact K6 r hK ho (by simp) hu hn h1 h
   ·rename_i hn
    simp at hc;subst hc;exact K6 r hK ho (by simp) hu hn h1 h
   ·simp at hc
  ·rename_i fs y1 y2 hu h1 h2
   split at hc
   ·rename_i ks hn
    simp at hc;subst hc;exact K7 r hK ho (by simp) hn h1 h2 h
   ·rename_i ks hn
    simp at hc;subst hc;exact K7 r hK ho (by simp) hn h1 h2 h
   ·simp at hc
  ·simp at hc
 ·rename_i t x ho
  simp only [Option.map_eq_some_iff] at hc;obtain ⟨y,hy,rfl⟩:=hc;exact Ro r hK ho hy h
 ·rename_i s d x ho
  split at hc
  ·rename_i k' k hs hd
   simp only [Option.map_eq_some_iff] at hc;obtain ⟨y,hy,rfl⟩:=hc;exact NP r hK ho hs hd hy h
  ·rename_i e hs hd
   split at hc
   ·rename_i he
    simp only [Option.map_eq_some_iff] at hc;obtain ⟨y,hy,rfl⟩:=hc;exact RE r hK ho hs hd he hy h
   ·simp at hc
  ·simp at hc
 ·rename_i cl ho
  split at hc
  ·rename_i fB
   split at hc
   ·rename_i x t hx ht
    split at hc
    ·rename_i e hu
     simp only [Option.map_eq_some_iff] at hc;obtain ⟨y,hy,rfl⟩:=hc;exact KT r hK ho fB hx ht (by simpa using ⟨e,hu⟩) hy h
    ·rename_i hu
     simp only [Option.map_eq_some_iff] at hc;obtain ⟨y,hy,rfl⟩:=hc;exact KT r hK ho fB hx ht (by simpa using hu) hy h
    ·rename_i k e hu
     simp only [Option.map_eq_some_iff] at hc;obtain ⟨y,hy,rfl⟩:=hc;exact Oc r hK ho fB hx ht hu hy h
    ·simp at hc
   ·simp at hc
  ·rename_i fB
   split at hc
   ·rename_i x y hx
    split at hc
    ·rename_i x' y' h1 h2
     simp at hc;subst hc;exact QJ (mx:=false) r hK ho (by simpa using fB) hx h1 h2 h
    ·simp at hc
   ·simp at hc
  ·rename_i fB
   split at hc
   ·rename_i x y hx
    split at hc
    ·rename_i x' y' h1 h2
     simp at hc;subst hc;exact QJ (mx:=true) r hK ho (by simpa using fB) hx h1 h2 h
    ·simp at hc
   ·simp at hc
  ·rename_i fB
   split at hc
   ·rename_i x y t t' hx ht
    split at hc
    ·rename_i e k bytes zs x' y' hbt hel h1 h2
     have hbt:=Nat.eq_of_beq_eq_true hbt;subst hbt
     split at hc
     ·simp at hc;subst hc
      exact Oi r hK ho fB hx ht (qY hel).1 h1 h2 h
     ·simp at hc;subst hc
      exact K1 r hK ho fB hx ht (qY hel).1 h1 h2 h
    ·simp at hc
   ·simp at hc
  ·rename_i f fB
   split at hc
   ·rename_i fn hf
    split at hc
    ·rename_i hb
     simp only [Bool.and_eq_true,Bool.not_eq_true'] at hb
     split at hc
     ·simp only [Option.map_eq_some_iff] at hc
      obtain ⟨ys,hy,rfl⟩:=hc;exact Ry r hK hX ho fB hf hb.1 hb.2 hy h
     ·simp only [Option.map_eq_some_iff] at hc
      obtain ⟨ys,hy,rfl⟩:=hc;exact Oj r hK ho fB hf hb.1 hb.2 hy h
    ·simp at hc
   ·simp at hc
  ·rename_i t fB
   simp only [Option.map_eq_some_iff] at hc;obtain ⟨ys,hy,rfl⟩:=hc;exact NV r hK hX ho fB hy h
  ·rename_i fB
   split at hc
   ·rename_i x y t t' hx ht
    split at hc
    ·rename_i e k bytes zs e' x' y' hel hu h1 h2
     simp at hc;subst hc;exact NZ r hK ho fB hx ht (qY hel).1 h1 h2 h
    ·simp at hc
   ·simp at hc
  ·simp at hc
 ·rename_i f fs cs ho
  split at hc
  ·rename_i fs' cs' h1 h2
   simp at hc;subst hc;exact NW r hK ho h1 h2 h
  ·simp at hc
 ·rename_i cl ho
  split at hc
  ·rename_i t fB
   simp only [Option.map_eq_some_iff] at hc;obtain ⟨ys,hy,rfl⟩:=hc;exact EJ r hD ho fB rfl hy h
  ·rename_i f fB
   simp only [Option.map_eq_some_iff] at hc;obtain ⟨ys,hy,rfl⟩:=hc;exact EJ r hD ho fB rfl hy h
  ·simp at hc
 ·rename_i x ho
  simp only [Option.map_eq_some_iff] at hc;obtain ⟨y,hy,rfl⟩:=hc;exact K4 r hX ho hy h
 ·rename_i t x ho
  split at hc
  ·rename_i y ht h1
   simp at hc;subst hc;exact NY r hK ho ht h1 h
  ·simp at hc
 ·rename_i x xt t ho
  split at hc
  ·rename_i z y ht hz h1
   simp at hc;subst hc;exact Rz r hK ho ht hz h1 h
  ·simp at hc
 ·rename_i x i ho
  simp only [Option.map_eq_some_iff] at hc;obtain ⟨y,hy,rfl⟩:=hc;exact Rq r hK ho hy h
 ·rename_i s x f ho
  split at hc
  ·rename_i fs hu
   split at hc
   ·rename_i fd hf
    split at hc
    ·rename_i g k y h0 h1 h2
     simp at hc;subst hc;exact Oe r hK ho hu hf h0 h1 h2 h
    ·simp at hc
   ·simp at hc
  ·simp at hc
 ·rename_i t len ps ho
  split at hc
  ·rename_i e k bytes zs qs hel hq
   split at hc
   ·rename_i hle
    obtain ⟨g1,g2,g3,g4,g5⟩:=qY hel
    split at hc
    ·rename_i hf
     rw [Bool.and_eq_true] at hf;have hlp:0<len:=by
      have:=hf.2;simpa using this
     simp only [Option.some.injEq] at hc;subst hc;exact Jq r hK ho g1.und g3 g2 hlp g4 g5 (Nat.le_of_ble_eq_true hle) hq h
    ·split at hc
     ·simp at hc;subst hc
      exact K3 r hK ho g1.und g3 g2 g4 g5 (Nat.le_of_ble_eq_true hle) hq h
     ·simp at hc;subst hc
      exact Jn r hK ho g1.und g3 g2 g4 g5 (Nat.le_of_ble_eq_true hle) hq h
   ·simp at hc
  ·simp at hc
 ·rename_i t l cp ho
  split at hc
  ·rename_i e k bytes zs l' cp' hel h1 h2
   obtain ⟨g1,g2,g3,g4,g5⟩:=qY hel
   split at hc
   ·rename_i z hf
    simp only [Bool.and_eq_true] at hf;have hk1:=Nat.eq_of_beq_eq_true hf.2;subst hk1;simp at hc;subst hc;exact Ld r hK ho g1 g4 h1 h2 h
   ·simp at hc;subst hc
    exact NU r hK ho g1 g2 g4 g5 h1 h2 h
  ·simp at hc
 ·rename_i t x lo hi ho
  split at hc
  ·rename_i hu
   split at hc
   ·rename_i x' lo' hi' h1 h2 h3
    simp at hc;subst hc;exact K2 r hK ho hu h1 h2 h3 h
   ·simp at hc
  ·rename_i e hu
   split at hc
   ·rename_i k x' lo' hi' h0 h1 h2 h3
    simp at hc;subst hc;exact TV r hK ho hu h0 h1 h2 h3 h
   ·simp at hc
  ·simp at hc
 ·rename_i t x lo hi mx ho
  split at hc
  ·rename_i e hu
   split at hc
   ·rename_i k x' lo' hi' mx' h0 h1 h2 h3 h4
    simp at hc;subst hc;exact Ru r hK ho hu h0 h1 h2 h3 h4 h
   ·simp at hc
  ·simp at hc
 ·simp at hc
end
end Uw
namespace Uw
open Go Go.RowKit
variable [Glob]
theorem Le {t:Array Value} {d i:Nat} {v:Value} (hd:d<t.size):(t.setIfInBounds d v).getD i undef=if d=i then v else t.getD i undef:=by
 simp only [Array.getD_eq_getD_getElem?,Array.getElem?_setIfInBounds];by_cases h:d=i
 ·subst h;simp [hd]
 ·simp [h]
theorem Rel.put {c:Cx} {w0:World} {n:Nat} {gs:Fr} {st:St} {a:Act} (r:Rel c w0 n gs st a) {dst:Option Nat} (hd:(match dst with|some d=>Nat.blt d n|none=>true)=true) {v:V} {gv:Value} (hv:aA c v gv) :
  Rel c w0 n gs (put dst v st) (a.put dst gv):=by
 cases dst with
 | none=>exact r
 | some d=>
  have hd:d<n:=by simpa using hd
  refine ⟨r.heap,r.hrel,by simp [Act.put,r.size],?_,r.frames,r.mK,r.base,r.defers⟩;intro i x hx;simp only [Uw.put,ai] at hx;simp only [Act.put];rw [Le (by rw [r.size];exact hd)];by_cases h:d=i
  ·rw [if_pos h] at hx ⊢;injection hx with hx;subst hx;exact hv
  ·rw [if_neg h] at hx ⊢;exact r.regs i x hx
theorem Rel.known {c:Cx} {w0:World} {n:Nat} {gs:Fr} {st:St} {a:Act} (r:Rel c w0 n gs st a) {t:Nat} {v:V} (hv:aA c v (a.tmps.getD t undef)):Rel c w0 n gs (Uw.put (some t) v st) a:=by
 refine ⟨r.heap,r.hrel,r.size,?_,r.frames,r.mK,r.base,r.defers⟩;intro i x hx;simp only [Uw.put,ai] at hx;by_cases h:t=i
 ·rw [if_pos h] at hx;injection hx with hx;subst hx;subst h;exact hv
 ·rw [if_neg h] at hx;exact r.regs i x hx
def iJ (mode:Option (Nat×Bool×Bool)) (st:St):Prop:=∀t want hold,mode=some (t,want,hold)->∃b,look st.regs t=some (.d (.bool b))/\(b == want)=hold
theorem iJ.put {mode:Option (Nat×Bool×Bool)} {st st' : St} (h:iJ mode st) (hr:st'.regs=st.regs) (dst:Option Nat) (v:V):iJ (fV dst mode) (Uw.put dst v st'):=by
 intro t want hold hm;unfold fV at hm
 split at hm
 ·rename_i d t' want' hold'
  split at hm
  ·simp at hm
  ·rename_i hb
   simp at hm;obtain ⟨rfl,rfl,rfl⟩:=hm;obtain ⟨b,hb1,hb2⟩:=h _ _ _ rfl;refine ⟨b,?_,hb2⟩;simp only [Uw.put,ai,hr];rw [if_neg]
   ·exact hb1
   ·intro e;subst e;simp at hb
 ·rename_i m hne
  obtain ⟨b,hb1,hb2⟩:=h _ _ _ hm;refine ⟨b,?_,hb2⟩
  cases dst with
  | none=>simp [Uw.put,hr,hb1]
  | some d=>
   cases mode with
   | none=>simp at hm
   | some x=>obtain ⟨a1,a2,a3⟩:=x;exact (hne d a1 a2 a3 rfl rfl).elim
def Came (P:Program) (Q:aH->St->Prop) (q:aH->St->Tree) (c:Cx) (w0:World) (n:Nat) (gs:Fr) (e:Exit) (a' : Act) (w' : World):Prop:=
 ∃c' me st',c'.B=c.B/\c'.J0=c.J0/\c'.w=w'/\bG c' e me/\Rel c' w0 n gs st' a'/\WT P Q (q me st')
theorem CJ {P:Program} {Q:aH->St->Prop} {q:aH->St->Tree} {c:Cx} {w0:World} {n:Nat} {gs:Fr}:¬LetsOut (Came P Q q c w0 n gs):=by
 rintro ⟨a,w,c',me,st',_,_,_,h,_⟩
 cases me<;>exact h
theorem tD {P:Program} {n:Nat} {pol:Pol} {ops:List Oper} {Q:aH->St->Prop} {q:aH->St->Tree} {w0:World} {gs:Fr} {c0:Cx} :
  ∀(l:List Oper) (mi:List MI) (mode:Option (Nat×Bool×Bool)) (c:Cx) (st:St) (a:Act),dN P n pol ops l=some mi->c.B=c0.B->c.J0=c0.J0->Rel c w0 n gs st a->iJ mode st->WT P Q (dc mi mode st q)->
   wpList P ops.toArray (Came P Q q c0 w0 n gs) l a c.w:=by
 intro l
 induction l with
 | nil=>
  intro mi mode c st a hc hB hJ r hm h;simp [dN] at hc;subst hc;exact ⟨c,.normal,st,hB,hJ,rfl,trivial,r,h⟩
 | cons o l ih=>
  intro mi mode c st a hc hB hJ r hm h;unfold dN at hc
  split at hc
  ·rename_i g m mi' hg ho hl hd
   simp at hc;subst hc;simp only [qP,pG,B5] at h
   -- what each way comes to
   have run:∀(j7 : Option (Nat×Bool×Bool)) (st1:St),Rel c w0 n gs st1 a->(∀(v:V) (st2:St),st2.regs=st1.regs->iJ j7 (Uw.put o.dst v st2))->
     WT P Q (step m st1 (fun v st'=>dc mi' j7 (Uw.put o.dst v st') q) q)->∀(K:Act->World->Prop),(∀a w,wpList P ops.toArray (Came P Q q c0 w0 n gs) l a w->K a w)->o.wp P a c.w K (Came P Q q c0 w0 n gs):=by
    intro j7 st1 r1 hm' hw K hK;refine step_ok r1 ho ?_ ?_ hw
    ·intro c' st' a' v gv hB' hJ' htm r' wO hv hq
     exact hK _ _ (ih mi' j7 c' _ _ hl (hB'.trans hB) (hJ'.trans hJ) (r'.put hd hv) (hm' v st' wO) hq)
    ·intro c' st' d ch hB' hJ' r' _ hex hq
     exact ⟨c',.panic d,st',hB'.trans hB,hJ'.trans hJ,rfl,hex,r',hq⟩
   have skip:∀(j7 : Option (Nat×Bool×Bool)) (st1:St),Rel c w0 n gs st1 a->iJ j7 (Uw.put o.dst (.tuple []) st1)->WT P Q (dc mi' j7 (Uw.put o.dst (.tuple []) st1) q)->
     wpList P ops.toArray (Came P Q q c0 w0 n gs) l (a.put o.dst undef) c.w:=by
    intro j7 st1 r1 hm' hw;exact ih mi' j7 c _ _ hl hB hJ (r1.put hd (v:=.tuple []) (by simp [aA,ax,undef])) hm' hw
   refine wpList_step fun K hK=>?_
   cases hgo:o.guard with
   | none=>
    rw [hgo] at hg;simp [yn] at hg;subst hg;simp only [Region.wanted,hgo,if_true];exact run none st r (fun v st2 _=>by intro t w' h' hh;simp at hh) h K hK
   | some jb=>
    obtain ⟨j,want⟩:=jb;rw [hgo] at hg;unfold yn at hg
    split at hg
    ·simp at *
    ·rename_i j' b' heq
     simp at heq;obtain ⟨rfl,rfl⟩:=heq
     split at hg
     ·rename_i oj hoj
      split at hg
      ·rename_i t ht
       simp at hg;subst hg;simp only at h;have hy:∀b,look st.regs t=some (.d (.bool b))->Region.wanted o (yielded ops.toArray a.tmps)=(b == want):=by
        intro b hb;have e:=r.regs t _ hb;simp only [aA,aE] at e;have ey:yielded ops.toArray a.tmps j=some b:=by
         have e' : a.tmps[t]? = some (.bool b):=by
          rw [Array.getD_eq_getD_getElem?] at e
          cases hq:a.tmps[t]? with
          | none=>rw [hq] at e;simp [undef] at e
          | some u=>rw [hq] at e;simp at e;rw [e]
         unfold yielded;simp [hoj,ht,e']
        simp only [Region.wanted,hgo,ey]
        cases b<;>cases want<;>rfl
       cases hdec:decided mode t want with
       | some hold=>
        have:∃b,look st.regs t=some (.d (.bool b))/\(b == want)=hold:=by
         unfold decided at hdec
         split at hdec
         ·rename_i t' want' hold'
          split at hdec
          ·rename_i hbb
           simp at hdec;subst hdec;rw [Bool.and_eq_true] at hbb;have e1:=Nat.eq_of_beq_eq_true hbb.1;have e2:want=want':=by simpa using hbb.2
           subst e1 e2;exact hm _ _ _ rfl
          ·simp at hdec
         ·simp at hdec
        obtain ⟨b,hb1,hb2⟩:=this;simp only [hdec] at h;rw [hy b hb1,hb2]
        cases hold with
        | true=>exact run _ st r (fun v st2 hr=>hm.put hr _ _) h K hK
        | false=>exact hK _ _ (skip _ st r (hm.put rfl _ _) h)
       | none=>
        simp only [hdec] at h
        split at h
        ·rename_i b hb
         have e:=r.regs t _ hb;simp only [aA,aE] at e;rw [hy b hb];simp only [WT] at h
         cases hbw:(b == want) with
         | true=>
          have G8 : b=want:=by simpa using hbw
          subst G8;have r1:Rel c w0 n gs (Uw.put (some t) (.d (.bool b)) st) a:=r.known (by simp [aA,aE,e]);refine run _ _ r1 ?_ (h.1 hbw) K hK;intro v st2 hr;refine iJ.put (st:=Uw.put (some t) (.d (.bool b)) st) ?_ hr _ _;intro t' w' h' hh;simp at hh;obtain ⟨rfl,rfl,rfl⟩:=hh;exact ⟨b,by simp [Uw.put,ai],by simp⟩
         | false=>
          have G8 : b = !want:=by cases b<;>cases want<;>simp_all
          subst G8;have r1:Rel c w0 n gs (Uw.put (some t) (.d (.bool (!want))) st) a:=r.known (by simp [aA,aE,e]);refine hK _ _ (skip _ _ r1 ?_ (h.2 hbw));refine iJ.put (st:=Uw.put (some t) (.d (.bool (!want))) st) ?_ rfl _ _;intro t' w' h' hh;simp at hh;obtain ⟨rfl,rfl,rfl⟩:=hh;exact ⟨!want,by simp [Uw.put,ai],by cases want<;>rfl⟩
        ·rename_i hb
         have e:=r.regs t _ hb;have ey:yielded ops.toArray a.tmps j=none:=by
          simp [aA,ax] at e;unfold yielded
          cases hq:a.tmps[t]? with
          | none=>simp [hoj,ht,hq]
          | some u=>rw [hq] at e;simp at e;simp [hoj,ht,hq,e]
         have hw:Region.wanted o (yielded ops.toArray a.tmps)=false:=by simp only [Region.wanted,hgo,ey];cases want<;>rfl
         rw [hw];exact hK _ _ (skip _ st r (hm.put rfl _ _) h)
        ·exact h.elim
      ·simp at hg
     ·simp at hg
  ·simp at hc
end Uw
namespace Uw
open Go Go.RowKit
variable [Glob]
def Sel {α:Type} (P:Program) (T:(α->Tree)->Tree):Prop:=
 ∀(Q:aH->St->Prop) (f:α->Tree),WT P Q (T f)->∃x,WT P Q (f x)/\∀(Q' : aH->St->Prop) (f' : α->Tree),WT P Q' (f' x)->WT P Q' (T f')
section
variable {P : Program} {α β : Type}
theorem Sel.pure (x:α):Sel P (fun f=>f x):=fun Q f h=>⟨x,h,fun Q' f' h'=>h'⟩
theorem Sel.fail:Sel (α:=α) P (fun _=>Tree.fail):=fun Q f h=>h.elim
theorem Sel.test {b:Bool} {T1 T2:(α->Tree)->Tree} (h1:Sel P T1) (h2:Sel P T2):Sel P (fun f=>Tree.test b (T1 f) (T2 f)):=by
 intro Q f h;simp only [WT] at h
 cases b with
 | true=>
  obtain ⟨x,g1,g2⟩:=h1 Q f (h.1 rfl);exact ⟨x,g1,fun Q' f' h'=>⟨fun _=>g2 Q' f' h',fun hb=>by cases hb⟩⟩
 | false=>
  obtain ⟨x,g1,g2⟩:=h2 Q f (h.2 rfl);exact ⟨x,g1,fun Q' f' h'=>⟨fun hb=>(by cases hb),fun _=>g2 Q' f' h'⟩⟩
theorem Sel.elem {xs:List (List Dat)} {i:Nat} {T:List Dat->(α->Tree)->Tree} (h1:∀c,Sel P (T c)):Sel P (fun f=>Tree.elem xs i (fun c=>T c f)):=by
 intro Q f h;obtain ⟨c,hc,h⟩:=h;obtain ⟨x,g1,g2⟩:=h1 c Q f h;exact ⟨x,g1,fun Q' f' h'=>⟨c,hc,g2 Q' f' h'⟩⟩
theorem Sel.byte {xs:List UInt8} {i:Nat} {T:UInt8->(α->Tree)->Tree} (h1:∀c,Sel P (T c)):Sel P (fun f=>Tree.byte xs i (fun c=>T c f)):=by
 intro Q f h;obtain ⟨c,hc,h⟩:=h;obtain ⟨x,g1,g2⟩:=h1 c Q f h;exact ⟨x,g1,fun Q' f' h'=>⟨c,hc,g2 Q' f' h'⟩⟩
theorem Sel.val {o:Option Dat} {T:Dat->(α->Tree)->Tree} (h1:∀c,Sel P (T c)):Sel P (fun f=>Tree.val o (fun c=>T c f)):=by
 intro Q f h;obtain ⟨c,hc,h⟩:=h;obtain ⟨x,g1,g2⟩:=h1 c Q f h;exact ⟨x,g1,fun Q' f' h'=>⟨c,hc,g2 Q' f' h'⟩⟩
theorem Sel.blk {o:Option Blk} {T:Blk->(α->Tree)->Tree} (h1:∀c,Sel P (T c)):Sel P (fun f=>Tree.blk o (fun c=>T c f)):=by
 intro Q f h;obtain ⟨c,hc,h⟩:=h;obtain ⟨x,g1,g2⟩:=h1 c Q f h;exact ⟨x,g1,fun Q' f' h'=>⟨c,hc,g2 Q' f' h'⟩⟩
theorem Sel.B2 {o:Option V} {T:V->(α->Tree)->Tree} (h1:∀c,Sel P (T c)):Sel P (fun f=>Tree.B2 o (fun c=>T c f)):=by
 intro Q f h;obtain ⟨c,hc,h⟩:=h;obtain ⟨x,g1,g2⟩:=h1 c Q f h;exact ⟨x,g1,fun Q' f' h'=>⟨c,hc,g2 Q' f' h'⟩⟩
theorem Sel.call {g:FuncId} {ds:List Dat} {T:Dat->(α->Tree)->Tree} (h1:∀c,Sel P (T c)):Sel P (fun f=>Tree.call g ds (fun c=>T c f)):=by
 intro Q f h;obtain ⟨c,hc,h⟩:=h;obtain ⟨x,g1,g2⟩:=h1 c Q f h;exact ⟨x,g1,fun Q' f' h'=>⟨c,hc,g2 Q' f' h'⟩⟩
theorem Sel.fit {k:IntKind} {n:Int} {T:Int->(α->Tree)->Tree} (h1:∀m,Sel P (T m)):Sel P (fun f=>fit k n (fun m=>T m f)):=Sel.test (h1 _) (h1 _)
theorem Sel.lu {op:BinOp} {k:IntKind} {a b:Int} {T:Dat->(α->Tree)->Tree} (h1:∀d,Sel P (T d)):Sel P (fun f=>lu op k a b (fun d=>T d f)):=by
 cases op with
 | add=>exact Sel.fit fun _=>h1 _
 | sub=>exact Sel.fit fun _=>h1 _
 | mul=>exact Sel.fit fun _=>h1 _
 | quo=>exact Sel.test Sel.fail (Sel.fit fun _=>h1 _)
 | rem=>exact Sel.test Sel.fail (h1 _)
 | shl=>exact Sel.fail
 | shr=>exact Sel.fail
 | _=>exact h1 _
theorem Sel.lY {op:BinOp} {a b:List UInt8} {T:Dat->(α->Tree)->Tree} (h1:∀d,Sel P (T d)):Sel P (fun f=>lY op a b (fun d=>T d f)):=by
 cases op with
 | add=>exact Sel.test (h1 _) Sel.fail
 | sub=>exact Sel.fail
 | mul=>exact Sel.fail
 | quo=>exact Sel.fail
 | rem=>exact Sel.fail
 | shl=>exact Sel.fail
 | shr=>exact Sel.fail
 | and=>exact Sel.fail
 | or=>exact Sel.fail
 | xor=>exact Sel.fail
 | andNot=>exact Sel.fail
 | _=>exact h1 _
end
theorem ap {st st' : St} {y:Opd} (h:∀t∈y.tmps,look st'.regs t=look st.regs t):y.ev st' = y.ev st:=by
 cases y with
 | t n=>simp only [Opd.ev,h n (by simp [Opd.tmps])]
 | c d=>rfl
theorem eT {st st' : St}:∀{ys:List Opd},(∀t∈iT ys,look st'.regs t=look st.regs t)->d6 st' ys=d6 st ys
 | [],_=>rfl
 | y::ys,h=>by
  simp only [d6];rw [ap (y:=y) (fun t ht=>h t (by simp [iT,ht])),eT (ys:=ys) (fun t ht=>h t (by simp [iT,ht]))]
theorem i6 {st st' : St}:∀{ps:List (Nat×Nat×Opd)} (cs:List V),(∀t∈mr ps,look st'.regs t=look st.regs t)->eD st' cs ps=eD st cs ps
 | [],cs,_=>rfl
 | (off,n,x)::ps,cs,h=>by
  simp only [eD];rw [ap (y:=x) (fun t ht=>h t (by simp [mr,ht]))]
  split
  ·split
   ·exact i6 _ (fun t ht=>h t (by simp [mr,ht]))
   ·rfl
  ·rfl
theorem cE {st st' : St} {d:Int} {x:Option Opd} (h:∀t∈kB x,look st'.regs t=look st.regs t):cu st' d x=cu st d x:=by
 cases x with
 | none=>rfl
 | some y=>simp only [cu,ap h]
theorem kC {st st' : St} {k:Nat} (hh:st'.heap=st.heap):∀{ps:List (Nat×Opd)} {xs:List (List Dat)},(∀t∈vJ ps,look st'.regs t=look st.regs t)->ij st' k xs ps=ij st k xs ps
 | [],xs,_=>rfl
 | (i,x)::ps,xs,h=>by
  simp only [ij];rw [ap (y:=x) (fun t ht=>h t (by simp [vJ,ht])),hh]
  split
  ·split
   ·split
    ·exact kC hh (fun t ht=>h t (by simp [vJ,ht]))
    ·rfl
   ·rfl
  ·rfl
theorem Jr {P:Program} {mo:MOp} (hq:il mo=true) (st:St):∃T:(V->Tree)->Tree,Sel P T/\∀st',(∀t∈mo.tmps,look st'.regs t=look st.regs t)->st'.heap=st.heap->∀q' x',step mo st' q' x' = T (fun v=>q' v st'):=by
 cases mo with
 | mm mx x y=>
  refine ⟨fun f=>step (.mm mx x y) st (fun v _=>f v) (fun _ _=>.fail),?_,?_⟩
  ·simp only [step,aj,au,av]
   repeat' first
    | exact Sel.fail
    | exact Sel.pure _
    | refine Sel.test ?_ ?_
    | refine Sel.val fun _=>?_
    | split
  ·intro st' ha hh q' x'
   have e0:Opd.ev st' x=Opd.ev st x:=ap fun t ht=>ha t (by simp [MOp.tmps,ht]);have e1:Opd.ev st' y=Opd.ev st y:=ap fun t ht=>ha t (by simp [MOp.tmps,ht]);simp only [step,aj,e0,e1,hh]
 | lkp ok kk z m x=>
  refine ⟨fun f=>step (.lkp ok kk z m x) st (fun v _=>f v) (fun _ _=>.fail),?_,?_⟩
  ·simp only [step,aj,au,av]
   repeat' first
    | exact Sel.fail
    | exact Sel.pure _
    | refine Sel.test ?_ ?_
    | refine Sel.val fun _=>?_
    | split
  ·intro st' ha hh q' x'
   have e0:Opd.ev st' m=Opd.ev st m:=ap fun t ht=>ha t (by simp [MOp.tmps,ht]);have e1:Opd.ev st' x=Opd.ev st x:=ap fun t ht=>ha t (by simp [MOp.tmps,ht]);simp only [step,aj,e0,e1,hh]
 | Aw m=>
  refine ⟨fun f=>step (.Aw m) st (fun v _=>f v) (fun _ _=>.fail),?_,?_⟩
  ·simp only [step,aj,au,av]
   repeat' first
    | exact Sel.fail
    | exact Sel.pure _
    | refine Sel.test ?_ ?_
    | refine Sel.val fun _=>?_
    | split
  ·intro st' ha hh q' x'
   have e0:Opd.ev st' m=Opd.ev st m:=ap fun t ht=>ha t (by simp [MOp.tmps,ht]);simp only [step,aj,e0,hh]
 | Eu g n k x i=>
  refine ⟨fun f=>step (.Eu g n k x i) st (fun v _=>f v) (fun _ _=>.fail),?_,?_⟩
  ·simp only [step,aj,au,av]
   repeat' first
    | exact Sel.fail
    | exact Sel.pure _
    | refine Sel.test ?_ ?_
    | refine Sel.val fun _=>?_
    | split
  ·intro st' ha hh q' x'
   have e0:Opd.ev st' x=Opd.ev st x:=ap fun t ht=>ha t (by simp [MOp.tmps,ht]);have e1:Opd.ev st' i=Opd.ev st i:=ap fun t ht=>ha t (by simp [MOp.tmps,ht]);simp only [step,aj,e0,e1,hh]
 | b2s x=>
  refine ⟨fun f=>step (.b2s x) st (fun v _=>f v) (fun _ _=>.fail),?_,?_⟩
  ·simp only [step,aj,au,av]
   repeat' first
    | exact Sel.fail
    | exact Sel.pure _
    | refine Sel.test ?_ ?_
    | refine Sel.val fun _=>?_
    | split
  ·intro st' ha hh q' x'
   have e0:Opd.ev st' x=Opd.ev st x:=ap fun t ht=>ha t (by simp [MOp.tmps,ht]);simp only [step,aj,e0,hh]
 | mov x=>
  refine ⟨fun f=>step (.mov x) st (fun v _=>f v) (fun _ _=>.fail),?_,?_⟩
  ·simp only [step,aj,au,av]
   repeat' first
    | exact Sel.fail
    | exact Sel.pure _
    | refine Sel.test ?_ ?_
    | refine Sel.elem fun _=>?_
    | refine Sel.byte fun _=>?_
    | refine Sel.call fun _=>?_
    | exact Sel.lu fun _=>Sel.pure _
    | exact Sel.lY fun _=>Sel.pure _
    | exact Sel.fit fun _=>Sel.pure _
    | split
  ·intro st' ha hh q' x'
   have e0:Opd.ev st' x=Opd.ev st x:=ap fun t ht=>ha t (by simp [MOp.tmps,ht]);simp only [step,aj,au,e0,hh]
 | pick c a b=>
  refine ⟨fun f=>step (.pick c a b) st (fun v _=>f v) (fun _ _=>.fail),?_,?_⟩
  ·simp only [step,aj,au,av]
   repeat' first
    | exact Sel.fail
    | exact Sel.pure _
    | refine Sel.test ?_ ?_
    | refine Sel.elem fun _=>?_
    | refine Sel.byte fun _=>?_
    | refine Sel.call fun _=>?_
    | exact Sel.lu fun _=>Sel.pure _
    | exact Sel.lY fun _=>Sel.pure _
    | exact Sel.fit fun _=>Sel.pure _
    | split
  ·intro st' ha hh q' x'
   have e0:Opd.ev st' c=Opd.ev st c:=ap fun t ht=>ha t (by simp [MOp.tmps,ht]);have e1:Opd.ev st' a=Opd.ev st a:=ap fun t ht=>ha t (by simp [MOp.tmps,ht]);have e2:Opd.ev st' b=Opd.ev st b:=ap fun t ht=>ha t (by simp [MOp.tmps,ht]);simp only [step,e0,e1,e2,hh]
 | build zs ps=>
  refine ⟨fun f=>step (.build zs ps) st (fun v _=>f v) (fun _ _=>.fail),?_,?_⟩
  ·simp only [step,aj,au,av]
   repeat' first
    | exact Sel.fail
    | exact Sel.pure _
    | refine Sel.test ?_ ?_
    | refine Sel.elem fun _=>?_
    | refine Sel.byte fun _=>?_
    | refine Sel.call fun _=>?_
    | exact Sel.lu fun _=>Sel.pure _
    | exact Sel.lY fun _=>Sel.pure _
    | exact Sel.fit fun _=>Sel.pure _
    | split
  ·intro st' ha hh q' x'
   simp only [step,aj,au,av,hh,i6 _ ha]
 | load g n a=>
  refine ⟨fun f=>step (.load g n a) st (fun v _=>f v) (fun _ _=>.fail),?_,?_⟩
  ·simp only [step,aj,au,av]
   repeat' first
    | exact Sel.fail
    | exact Sel.pure _
    | refine Sel.test ?_ ?_
    | refine Sel.elem fun _=>?_
    | refine Sel.byte fun _=>?_
    | refine Sel.call fun _=>?_
    | exact Sel.lu fun _=>Sel.pure _
    | exact Sel.lY fun _=>Sel.pure _
    | exact Sel.fit fun _=>Sel.pure _
    | split
  ·intro st' ha hh q' x'
   have e0:Opd.ev st' a=Opd.ev st a:=ap fun t ht=>ha t (by simp [MOp.tmps,ht]);simp only [step,aj,au,e0,hh]
 | fld off a=>
  refine ⟨fun f=>step (.fld off a) st (fun v _=>f v) (fun _ _=>.fail),?_,?_⟩
  ·simp only [step,aj,au,av]
   repeat' first
    | exact Sel.fail
    | exact Sel.pure _
    | refine Sel.test ?_ ?_
    | refine Sel.elem fun _=>?_
    | refine Sel.byte fun _=>?_
    | refine Sel.call fun _=>?_
    | exact Sel.lu fun _=>Sel.pure _
    | exact Sel.lY fun _=>Sel.pure _
    | exact Sel.fit fun _=>Sel.pure _
    | split
  ·intro st' ha hh q' x'
   have e0:Opd.ev st' a=Opd.ev st a:=ap fun t ht=>ha t (by simp [MOp.tmps,ht]);simp only [step,aj,au,e0,hh]
 | cD a=>
  refine ⟨fun f=>step (.cD a) st (fun v _=>f v) (fun _ _=>.fail),?_,?_⟩
  ·simp only [step,aj,au,av]
   repeat' first
    | exact Sel.fail
    | exact Sel.pure _
    | refine Sel.test ?_ ?_
    | refine Sel.elem fun _=>?_
    | refine Sel.byte fun _=>?_
    | refine Sel.call fun _=>?_
    | exact Sel.lu fun _=>Sel.pure _
    | exact Sel.lY fun _=>Sel.pure _
    | exact Sel.fit fun _=>Sel.pure _
    | split
  ·intro st' ha hh q' x'
   have e0:Opd.ev st' a=Opd.ev st a:=ap fun t ht=>ha t (by simp [MOp.tmps,ht]);simp only [step,aj,au,e0,hh]
 | idx k s i=>
  refine ⟨fun f=>step (.idx k s i) st (fun v _=>f v) (fun _ _=>.fail),?_,?_⟩
  ·simp only [step,aj,au,av]
   repeat' first
    | exact Sel.fail
    | exact Sel.pure _
    | refine Sel.test ?_ ?_
    | refine Sel.elem fun _=>?_
    | refine Sel.byte fun _=>?_
    | refine Sel.call fun _=>?_
    | exact Sel.lu fun _=>Sel.pure _
    | exact Sel.lY fun _=>Sel.pure _
    | exact Sel.fit fun _=>Sel.pure _
    | split
  ·intro st' ha hh q' x'
   have e0:Opd.ev st' s=Opd.ev st s:=ap fun t ht=>ha t (by simp [MOp.tmps,ht]);have e1:Opd.ev st' i=Opd.ev st i:=ap fun t ht=>ha t (by simp [MOp.tmps,ht]);simp only [step,e0,e1,hh]
 | idxs s i=>
  refine ⟨fun f=>step (.idxs s i) st (fun v _=>f v) (fun _ _=>.fail),?_,?_⟩
  ·simp only [step,aj,au,av]
   repeat' first
    | exact Sel.fail
    | exact Sel.pure _
    | refine Sel.test ?_ ?_
    | refine Sel.elem fun _=>?_
    | refine Sel.byte fun _=>?_
    | refine Sel.call fun _=>?_
    | exact Sel.lu fun _=>Sel.pure _
    | exact Sel.lY fun _=>Sel.pure _
    | exact Sel.fit fun _=>Sel.pure _
    | split
  ·intro st' ha hh q' x'
   have e0:Opd.ev st' s=Opd.ev st s:=ap fun t ht=>ha t (by simp [MOp.tmps,ht]);have e1:Opd.ev st' i=Opd.ev st i:=ap fun t ht=>ha t (by simp [MOp.tmps,ht]);simp only [step,e0,e1,hh]
 | len b s=>
  refine ⟨fun f=>step (.len b s) st (fun v _=>f v) (fun _ _=>.fail),?_,?_⟩
  ·cases b
   all_goals
    simp only [step]
    repeat' first
     | exact Sel.fail
     | exact Sel.pure _
     | refine Sel.test ?_ ?_
     | refine Sel.elem fun _=>?_
     | refine Sel.byte fun _=>?_
     | refine Sel.call fun _=>?_
     | exact Sel.lu fun _=>Sel.pure _
     | exact Sel.lY fun _=>Sel.pure _
     | exact Sel.fit fun _=>Sel.pure _
     | split
  ·intro st' ha hh q' x'
   have e0:Opd.ev st' s=Opd.ev st s:=ap fun t ht=>ha t (by simp [MOp.tmps,ht])
   cases b<;>simp only [step,aj,au,e0,hh]
 | eqs neg ks x y=>
  refine ⟨fun f=>step (.eqs neg ks x y) st (fun v _=>f v) (fun _ _=>.fail),?_,?_⟩
  ·simp only [step,aj,au,av]
   repeat' first
    | exact Sel.fail
    | exact Sel.pure _
    | split
  ·intro st' ha hh q' x'
   have e0:Opd.ev st' x=Opd.ev st x:=ap fun t ht=>ha t (by simp [MOp.tmps,ht]);have e1:Opd.ev st' y=Opd.ev st y:=ap fun t ht=>ha t (by simp [MOp.tmps,ht]);simp only [step,e0,e1,hh]
 | bin op x y=>
  refine ⟨fun f=>step (.bin op x y) st (fun v _=>f v) (fun _ _=>.fail),?_,?_⟩
  ·simp only [step,aj,au,av]
   repeat' first
    | exact Sel.fail
    | exact Sel.pure _
    | refine Sel.test ?_ ?_
    | refine Sel.elem fun _=>?_
    | refine Sel.byte fun _=>?_
    | refine Sel.call fun _=>?_
    | exact Sel.lu fun _=>Sel.pure _
    | exact Sel.lY fun _=>Sel.pure _
    | exact Sel.fit fun _=>Sel.pure _
    | split
  ·intro st' ha hh q' x'
   have e0:Opd.ev st' x=Opd.ev st x:=ap fun t ht=>ha t (by simp [MOp.tmps,ht]);have e1:Opd.ev st' y=Opd.ev st y:=ap fun t ht=>ha t (by simp [MOp.tmps,ht]);simp only [step,e0,e1,hh]
 | eqb neg x y=>
  refine ⟨fun f=>step (.eqb neg x y) st (fun v _=>f v) (fun _ _=>.fail),?_,?_⟩
  ·simp only [step,aj,au,av]
   repeat' first
    | exact Sel.fail
    | exact Sel.pure _
    | refine Sel.test ?_ ?_
    | refine Sel.elem fun _=>?_
    | refine Sel.byte fun _=>?_
    | refine Sel.call fun _=>?_
    | exact Sel.lu fun _=>Sel.pure _
    | exact Sel.lY fun _=>Sel.pure _
    | exact Sel.fit fun _=>Sel.pure _
    | split
  ·intro st' ha hh q' x'
   have e0:Opd.ev st' x=Opd.ev st x:=ap fun t ht=>ha t (by simp [MOp.tmps,ht]);have e1:Opd.ev st' y=Opd.ev st y:=ap fun t ht=>ha t (by simp [MOp.tmps,ht]);simp only [step,e0,e1,hh]
 | not x=>
  refine ⟨fun f=>step (.not x) st (fun v _=>f v) (fun _ _=>.fail),?_,?_⟩
  ·simp only [step,aj,au,av]
   repeat' first
    | exact Sel.fail
    | exact Sel.pure _
    | refine Sel.test ?_ ?_
    | refine Sel.elem fun _=>?_
    | refine Sel.byte fun _=>?_
    | refine Sel.call fun _=>?_
    | exact Sel.lu fun _=>Sel.pure _
    | exact Sel.lY fun _=>Sel.pure _
    | exact Sel.fit fun _=>Sel.pure _
    | split
  ·intro st' ha hh q' x'
   have e0:Opd.ev st' x=Opd.ev st x:=ap fun t ht=>ha t (by simp [MOp.tmps,ht]);simp only [step,aj,au,e0,hh]
 | conv k x=>
  refine ⟨fun f=>step (.conv k x) st (fun v _=>f v) (fun _ _=>.fail),?_,?_⟩
  ·simp only [step,aj,au,av]
   repeat' first
    | exact Sel.fail
    | exact Sel.pure _
    | refine Sel.test ?_ ?_
    | refine Sel.elem fun _=>?_
    | refine Sel.byte fun _=>?_
    | refine Sel.call fun _=>?_
    | exact Sel.lu fun _=>Sel.pure _
    | exact Sel.lY fun _=>Sel.pure _
    | exact Sel.fit fun _=>Sel.pure _
    | split
  ·intro st' ha hh q' x'
   have e0:Opd.ev st' x=Opd.ev st x:=ap fun t ht=>ha t (by simp [MOp.tmps,ht]);simp only [step,aj,au,e0,hh]
 | call g xs=>
  refine ⟨fun f=>step (.call g xs) st (fun v _=>f v) (fun _ _=>.fail),?_,?_⟩
  ·simp only [step,aj,au,av]
   repeat' first
    | exact Sel.fail
    | exact Sel.pure _
    | refine Sel.test ?_ ?_
    | refine Sel.elem fun _=>?_
    | refine Sel.byte fun _=>?_
    | refine Sel.call fun _=>?_
    | exact Sel.lu fun _=>Sel.pure _
    | exact Sel.lY fun _=>Sel.pure _
    | exact Sel.fit fun _=>Sel.pure _
    | split
  ·intro st' ha hh q' x'
   simp only [step,hh,eT ha]
 | ext x i=>
  refine ⟨fun f=>step (.ext x i) st (fun v _=>f v) (fun _ _=>.fail),?_,?_⟩
  ·simp only [step,aj,au,av]
   repeat' first
    | exact Sel.fail
    | exact Sel.pure _
    | refine Sel.test ?_ ?_
    | refine Sel.elem fun _=>?_
    | refine Sel.byte fun _=>?_
    | refine Sel.call fun _=>?_
    | exact Sel.lu fun _=>Sel.pure _
    | exact Sel.lY fun _=>Sel.pure _
    | exact Sel.fit fun _=>Sel.pure _
    | split
  ·intro st' ha hh q' x'
   have e0:Opd.ev st' x=Opd.ev st x:=ap fun t ht=>ha t (by simp [MOp.tmps,ht]);simp only [step,aj,au,e0,hh]
 | bM k m zs ps=>
  refine ⟨fun f=>step (.bM k m zs ps) st (fun v _=>f v) (fun _ _=>.fail),?_,?_⟩
  ·simp only [step,aj,au,av]
   repeat' first
    | exact Sel.fail
    | exact Sel.pure _
    | refine Sel.test ?_ ?_
    | refine Sel.elem fun _=>?_
    | refine Sel.byte fun _=>?_
    | refine Sel.call fun _=>?_
    | exact Sel.lu fun _=>Sel.pure _
    | exact Sel.lY fun _=>Sel.pure _
    | exact Sel.fit fun _=>Sel.pure _
    | split
  ·intro st' ha hh q' x'
   simp only [step,hh,kC hh ha]
 | xy g n off x=>
  refine ⟨fun f=>step (.xy g n off x) st (fun v _=>f v) (fun _ _=>.fail),?_,?_⟩
  ·simp only [step,aj,au,av]
   repeat' first
    | exact Sel.fail
    | exact Sel.pure _
    | refine Sel.test ?_ ?_
    | split
  ·intro st' ha hh q' x'
   have e0:Opd.ev st' x=Opd.ev st x:=ap fun t ht=>ha t (by simp [MOp.tmps,ht]);simp only [step,aj,e0,hh]
 | sl3 k x lo hi mx=>
  refine ⟨fun f=>step (.sl3 k x lo hi mx) st (fun v _=>f v) (fun _ _=>.fail),?_,?_⟩
  ·simp only [step,aj,au,av]
   repeat' first
    | exact Sel.fail
    | exact Sel.pure _
    | refine Sel.test ?_ ?_
    | split
  ·intro st' ha hh q' x'
   have e0:Opd.ev st' x=Opd.ev st x:=ap fun t ht=>ha t (by simp [MOp.tmps,ht]);simp only [step,e0,hh,fun d=>cE (st:=st) (st':=st') (d:=d) (x:=lo) (fun t ht=>ha t (by simp [MOp.tmps,ht])),fun d=>cE (st:=st) (st':=st') (d:=d) (x:=some hi) (fun t ht=>ha t (by simp only [kB] at ht;simp [MOp.tmps,ht])),fun d=>cE (st:=st) (st':=st') (d:=d) (x:=some mx) (fun t ht=>ha t (by simp only [kB] at ht;simp [MOp.tmps,ht]))]
 | sl k x lo hi=>
  refine ⟨fun f=>step (.sl k x lo hi) st (fun v _=>f v) (fun _ _=>.fail),?_,?_⟩
  ·simp only [step,aj,au,av]
   repeat' first
    | exact Sel.fail
    | exact Sel.pure _
    | refine Sel.test ?_ ?_
    | refine Sel.elem fun _=>?_
    | refine Sel.byte fun _=>?_
    | refine Sel.call fun _=>?_
    | exact Sel.lu fun _=>Sel.pure _
    | exact Sel.lY fun _=>Sel.pure _
    | exact Sel.fit fun _=>Sel.pure _
    | split
  ·intro st' ha hh q' x'
   have e0:Opd.ev st' x=Opd.ev st x:=ap fun t ht=>ha t (by simp [MOp.tmps,ht]);simp only [step,e0,hh,fun d=>cE (st:=st) (st':=st') (d:=d) (x:=lo) (fun t ht=>ha t (by simp [MOp.tmps,ht])),fun d=>cE (st:=st) (st':=st') (d:=d) (x:=hi) (fun t ht=>ha t (by simp [MOp.tmps,ht]))]
 | qp x lo hi=>
  refine ⟨fun f=>step (.qp x lo hi) st (fun v _=>f v) (fun _ _=>.fail),?_,?_⟩
  ·simp only [step,aj,au,av]
   repeat' first
    | exact Sel.fail
    | exact Sel.pure _
    | refine Sel.test ?_ ?_
    | refine Sel.elem fun _=>?_
    | refine Sel.byte fun _=>?_
    | refine Sel.call fun _=>?_
    | exact Sel.lu fun _=>Sel.pure _
    | exact Sel.lY fun _=>Sel.pure _
    | exact Sel.fit fun _=>Sel.pure _
    | split
  ·intro st' ha hh q' x'
   have e0:Opd.ev st' x=Opd.ev st x:=ap fun t ht=>ha t (by simp [MOp.tmps,ht]);simp only [step,e0,hh,fun d=>cE (st:=st) (st':=st') (d:=d) (x:=lo) (fun t ht=>ha t (by simp [MOp.tmps,ht])),fun d=>cE (st:=st) (st':=st') (d:=d) (x:=hi) (fun t ht=>ha t (by simp [MOp.tmps,ht]))]
 | Et m k x i=>
  refine ⟨fun f=>step (.Et m k x i) st (fun v _=>f v) (fun _ _=>.fail),?_,?_⟩
  ·simp only [step,aj,au,av]
   repeat' first
    | exact Sel.fail
    | exact Sel.pure _
    | refine Sel.test ?_ ?_
    | refine Sel.elem fun _=>?_
    | refine Sel.byte fun _=>?_
    | refine Sel.call fun _=>?_
    | exact Sel.lu fun _=>Sel.pure _
    | exact Sel.lY fun _=>Sel.pure _
    | exact Sel.fit fun _=>Sel.pure _
    | split
  ·intro st' ha hh q' x'
   have e0:Opd.ev st' x=Opd.ev st x:=ap fun t ht=>ha t (by simp [MOp.tmps,ht]);have e1:Opd.ev st' i=Opd.ev st i:=ap fun t ht=>ha t (by simp [MOp.tmps,ht]);simp only [step,e0,e1,hh]
 | eR a=>
  refine ⟨fun f=>step (.eR a) st (fun v _=>f v) (fun _ _=>.fail),?_,?_⟩
  ·simp only [step,aj,au,av]
   repeat' first
    | exact Sel.fail
    | exact Sel.pure _
    | refine Sel.B2 fun _=>?_
    | split
  ·intro st' ha hh q' x'
   have e0:Opd.ev st' a=Opd.ev st a:=ap fun t ht=>ha t (by simp [MOp.tmps,ht]);simp only [step,aj,e0,hh]
 | ux ok kk z m x=>
  refine ⟨fun f=>step (.ux ok kk z m x) st (fun v _=>f v) (fun _ _=>.fail),?_,?_⟩
  ·simp only [step,aj,au,av]
   repeat' first
    | exact Sel.fail
    | exact Sel.pure _
    | refine Sel.test ?_ ?_
    | refine Sel.val fun _=>?_
    | refine Sel.blk fun _=>?_
    | split
  ·intro st' ha hh q' x'
   have e0:Opd.ev st' m=Opd.ev st m:=ap fun t ht=>ha t (by simp [MOp.tmps,ht]);have e1:Opd.ev st' x=Opd.ev st x:=ap fun t ht=>ha t (by simp [MOp.tmps,ht]);simp only [step,e0,e1,hh]
 | _=>simp [il] at hq
end Uw
namespace Uw
open Go Go.RowKit
variable [Glob]
def sw (g:Option (Nat×Bool)) (st:St):Option Bool:=
 match g with
 | none=>some true
 | some (t,want)=>match look st.regs t with
  | some (.d (.bool b))=>some (b == want)
  | some (.tuple [])=>some false
  | _=>none
def oy (P:Program) (i:MI) (st:St) (v:V):Prop:=
 ∀st' : St,(∀t∈i.tmps,look st'.regs t=look st.regs t)->st'.heap=st.heap->
  (sw i.g st' = some true/\∀(Q' : aH->St->Prop) (q' : V->St->Tree) (x' : aH->St->Tree),WT P Q' (q' v st')->WT P Q' (step i.op st' q' x'))\/(sw i.g st' = some false/\v = .tuple [])
structure du (st st' : St):Prop where
 regs:∀t,look st'.regs t=look st.regs t
 heap:st'.heap=st.heap
 next:st'.next=st.next
 defers:st'.defers=st.defers
 base:st'.base=st.base
theorem du.refl (st:St):du st st:=⟨fun _=>rfl,rfl,rfl,rfl,rfl⟩
theorem du.put {st st' : St} (h:du st st') (dst:Option Nat) (v:V):du (Uw.put dst v st) (Uw.put dst v st'):=by
 cases dst with
 | none=>exact h
 | some d=>exact ⟨fun t=>by simp only [Uw.put,ai,h.regs t],h.heap,h.next,h.defers,h.base⟩
theorem du.known {st:St} {t:Nat} {v:V} (h:look st.regs t=some v):du st (Uw.put (some t) v st):=by
 refine ⟨fun t'=>?_,rfl,rfl,rfl,rfl⟩;simp only [Uw.put,ai];by_cases ht:t=t'
 ·subst ht;rw [if_pos rfl,h]
 ·rw [if_neg ht]
theorem du.trans {a b c:St} (h:du a b) (g:du b c):du a c:=
 ⟨fun t=>(g.regs t).trans (h.regs t),g.heap.trans h.heap,g.next.trans h.next,g.defers.trans h.defers,g.base.trans h.base⟩
theorem oy.same {P:Program} {i:MI} {st st1:St} {v:V} (hs:du st st1) (h:oy P i st1 v):oy P i st v:=
 fun st' ha hh=>h st' (fun t ht=>(ha t ht).trans (hs.regs t).symm) (hh.trans hs.heap.symm)
def Chain (P:Program):List MI->St->List V->St->Prop
 | [],st,vs,sf=>vs=[]/\du st sf
 | i::l,st,vs,sf=>∃v vs',vs=v::vs'/\oy P i st v/\Chain P l (put i.dst v st) vs' sf
theorem Chain.same {P:Program}:∀{l:List MI} {st st1:St} {vs:List V} {sf:St},du st st1->Chain P l st1 vs sf->Chain P l st vs sf
 | [],st,st1,vs,sf,hs,h=>⟨h.1,hs.trans h.2⟩
 | i::l,st,st1,vs,sf,hs,h=>by
  obtain ⟨v,vs',h1,h2,h3⟩:=h;exact ⟨v,vs',h1,h2.same hs,Chain.same (hs.put _ _) h3⟩
theorem oy.CM {P:Program} {i:MI} {st:St} {Q:aH->St->Prop} {q:V->St->Tree} {x:aH->St->Tree} (hq:il i.op=true) (hg:sw i.g st=some true) (h:WT P Q (step i.op st q x)):∃v,oy P i st v/\WT P Q (q v st):=by
 obtain ⟨T,hT,hf⟩:=Jr (P:=P) hq st;rw [hf st (fun _ _=>rfl) rfl] at h;obtain ⟨v,g1,g2⟩:=hT Q _ h;refine ⟨v,?_,g1⟩;intro st' ha hh;refine .inl ⟨?_,fun Q' q' x' h'=>?_⟩
 ·rw [<- hg]
  unfold sw
  cases hi:i.g with
  | none=>rfl
  | some p=>obtain ⟨t,want⟩:=p;simp only [];rw [ha t (by simp [MI.tmps,hi])]
 ·rw [hf st' (fun t ht=>ha t (by simp [MI.tmps,ht])) hh]
  exact g2 Q' _ h'
theorem oy.G9 {P:Program} {i:MI} {st:St} (hg:sw i.g st=some false):oy P i st (.tuple []):=by
 intro st' ha hh;refine .inr ⟨?_,rfl⟩;rw [<- hg];unfold sw
 cases hi:i.g with
 | none=>rfl
 | some p=>obtain ⟨t,want⟩:=p;simp only [];rw [ha t (by simp [MI.tmps,hi])]
theorem uJ {mode:Option (Nat×Bool×Bool)} {t:Nat} {want hold:Bool} {st:St} (hdec:decided mode t want=some hold) (hm:iJ mode st):∃b,look st.regs t=some (.d (.bool b))/\(b == want)=hold:=by
 unfold decided at hdec
 split at hdec
 ·rename_i t' want' hold'
  split at hdec
  ·rename_i hbb
   simp at hdec;subst hdec;rw [Bool.and_eq_true] at hbb;have e1:=Nat.eq_of_beq_eq_true hbb.1;have e2:want=want':=by simpa using hbb.2
   subst e1 e2;exact hm _ _ _ rfl
  ·simp at hdec
 ·simp at hdec
theorem sW {P:Program} {Q:aH->St->Prop} {q:aH->St->Tree} {l2:List MI}:∀(l1:List MI) (mode:Option (Nat×Bool×Bool)) (st:St),(∀i∈l1,il i.op=true)->iJ mode st->WT P Q (dc (l1++l2) mode st q)->
  ∃vs sf j7,Chain P l1 st vs sf/\iJ j7 sf/\WT P Q (dc l2 j7 sf q):=by
 intro l1
 induction l1 with
 | nil=>intro mode st _ hm h;exact ⟨[],st,mode,⟨rfl,du.refl _⟩,hm,h⟩
 | cons i l ih=>
  intro mode st hq hm h;have hqi:=hq i (by simp);have hql:∀j∈l,il j.op=true:=fun j hj=>hq j (by simp [hj])
  -- go on behind a value
  have go:∀(Ir:Option (Nat×Bool×Bool)) (st1:St) (v:V),du st st1->oy P i st1 v->iJ Ir (put i.dst v st1)->WT P Q (dc (l++l2) Ir (put i.dst v st1) q)->
    ∃vs sf j7,Chain P (i::l) st vs sf/\iJ j7 sf/\WT P Q (dc l2 j7 sf q):=by
   intro Ir st1 v hs ho hm1 hw;obtain ⟨vs,sf,j7,g1,g2,g3⟩:=ih Ir _ hql hm1 hw;exact ⟨v::vs,sf,j7,⟨v,vs,rfl,ho.same hs,Chain.same (hs.put _ _) g1⟩,g2,g3⟩
  simp only [List.cons_append,qP,pG,B5] at h
  split at h
  ·rename_i hg
   obtain ⟨v,ho,hw⟩:=oy.CM hqi (by simp [sw,hg]) h;exact go none st v (du.refl _) ho (by intro t w' h' hh;simp at hh) hw
  ·rename_i t want hg
   split at h
   ·rename_i hdec
    obtain ⟨b,hb1,hb2⟩:=uJ hdec hm;obtain ⟨v,ho,hw⟩:=oy.CM hqi (by simp [sw,hg,hb1,hb2]) h;exact go _ st v (du.refl _) ho (hm.put rfl _ _) hw
   ·rename_i hdec
    obtain ⟨b,hb1,hb2⟩:=uJ hdec hm;exact go _ st (.tuple []) (du.refl _) (oy.G9 (by simp [sw,hg,hb1,hb2])) (hm.put rfl _ _) h
   ·split at h
    ·rename_i b hb
     simp only [WT] at h
     cases hbw:(b == want) with
     | true=>
      have G8 : b=want:=by simpa using hbw
      subst G8;have hs:=du.known hb;obtain ⟨v,ho,hw⟩:=oy.CM (st:=put (some t) (.d (.bool b)) st) hqi (by simp [sw,hg,Uw.put,ai]) (h.1 hbw);refine go _ _ v hs ho ?_ hw;refine iJ.put (st:=put (some t) (.d (.bool b)) st) ?_ rfl _ _;intro t' w' h' hh;simp at hh;obtain ⟨rfl,rfl,rfl⟩:=hh;exact ⟨b,by simp [Uw.put,ai],by simp⟩
     | false=>
      have G8 : b = !want:=by cases b<;>cases want<;>simp_all
      subst G8;have hs:=du.known hb;refine go _ _ (.tuple []) hs (oy.G9 (by simp [sw,hg,Uw.put,ai])) ?_ (h.2 hbw);refine iJ.put (st:=put (some t) (.d (.bool (!want))) st) ?_ rfl _ _;intro t' w' h' hh;simp at hh;obtain ⟨rfl,rfl,rfl⟩:=hh;exact ⟨!want,by simp [Uw.put,ai],by cases want<;>rfl⟩
    ·rename_i hb
     exact go _ st (.tuple []) (du.refl _) (oy.G9 (by simp [sw,hg,hb])) (hm.put rfl _ _) h
    ·exact h.elim
def after (st:St):List MI->List V->St
 | i::l,v::vs=>after (put i.dst v st) l vs
 | _,_=>st
theorem Chain.length {P:Program}:∀{l:List MI} {st:St} {vs:List V} {sf:St},Chain P l st vs sf->vs.length=l.length
 | [],st,vs,sf,h=>by rw [h.1];rfl
 | i::l,st,vs,sf,h=>by obtain ⟨v,vs',rfl,h2,h3⟩:=h;simp [Chain.length h3]
theorem Chain.last {P:Program}:∀{l:List MI} {st:St} {vs:List V} {sf:St},Chain P l st vs sf->du (after st l vs) sf
 | [],st,vs,sf,h=>by rw [h.1];exact h.2
 | i::l,st,vs,sf,h=>by obtain ⟨v,vs',rfl,h2,h3⟩:=h;exact show du (after (put i.dst v st) l vs') sf from Chain.last h3
theorem Chain.at {P:Program}:∀{l:List MI} {st:St} {vs:List V} {sf:St},Chain P l st vs sf->∀(k:Nat) (i:MI),l[k]? = some i->∃v,vs[k]? = some v/\oy P i (after st (l.take k) (vs.take k)) v
 | [],st,vs,sf,h,k,i,hk=>by simp at hk
 | j::l,st,vs,sf,h,k,i,hk=>by
  obtain ⟨v,vs',rfl,h2,h3⟩:=h
  cases k with
  | zero=>simp at hk;subst hk;exact ⟨v,rfl,h2⟩
  | succ k=>
   simp at hk;obtain ⟨u,g1,g2⟩:=Chain.at h3 k i hk;exact ⟨u,by simpa using g1,g2⟩
theorem tG:∀(l:List MI) (vs:List V) (st:St),(after st l vs).heap=st.heap/\(after st l vs).next=st.next/\(after st l vs).defers=st.defers/\(after st l vs).base=st.base
 | [],vs,st=>by simp [after]
 | i::l,[],st=>by simp [after]
 | i::l,v::vs,st=>by
  rw [after];obtain ⟨h1,h2,h3,h4⟩:=tG l vs (put i.dst v st)
  cases hd:i.dst<;>simp [hd,Uw.put] at h1 h2 h3 h4 ⊢<;>exact ⟨h1,h2,h3,h4⟩
theorem fW:∀(l:List MI) (vs:List V) (st:St) (t:Nat),(∀(j:Nat) (i:MI),l[j]? = some i->i.dst≠some t)->look (after st l vs).regs t=look st.regs t
 | [],vs,st,t,_=>by simp [after]
 | i::l,[],st,t,_=>by simp [after]
 | i::l,v::vs,st,t,h=>by
  rw [after,fW l vs _ t (fun j i' hj=>h (j+1) i' (by simpa using hj))];have h0:=h 0 i rfl
  cases hd:i.dst with
  | none=>simp [Uw.put]
  | some d=>
   simp only [Uw.put,ai];rw [if_neg];intro e;subst e;exact h0 hd
theorem mR:∀(l:List MI) (vs:List V) (st:St) (t j:Nat) (i:MI) (v:V),l[j]? = some i->vs[j]? = some v->i.dst=some t->(∀(j' : Nat) (i' : MI),l[j']? = some i'->i'.dst=some t->j' = j)->vs.length=l.length->look (after st l vs).regs t=some v
 | [],vs,st,t,j,i,v,hj,_,_,_,_=>by simp at hj
 | x::l,[],st,t,j,i,v,hj,hv,hd,hu,hl=>by simp at hl
 | x::l,u::vs,st,t,j,i,v,hj,hv,hd,hu,hl=>by
  rw [after]
  cases j with
  | zero=>
   simp at hj hv;subst hj hv;rw [fW]
   ·simp [hd,Uw.put,ai]
   ·intro j' i' hj' hd'
    have:=hu (j' + 1) i' (by simpa using hj') hd';omega
  | succ j=>
   simp at hj hv;exact mR l vs _ t j i v hj hv hd (fun j' i' hj' hd'=>by
    have:=hu (j' + 1) i' (by simpa using hj') hd';omega) (by simpa using hl)
end Uw
namespace Uw
open Go Go.RowKit
variable [Glob]
theorem qZ {P:Program} {n:Nat} {pol:Pol} {ops:List Oper}:∀{l:List Oper} {mi:List MI},dN P n pol ops l=some mi->mi.length=l.length/\∀(k:Nat) (o:Oper),l[k]? = some o->∃i,mi[k]? = some i/\yn ops o.guard=some i.g/\B7 P pol o=some i.op/\i.dst=o.dst/\
  (match o.dst with|some d=>Nat.blt d n|none=>true)=true:=by
 intro l
 induction l with
 | nil=>intro mi h;simp [dN] at h;subst h;simp
 | cons o l ih=>
  intro mi h;unfold dN at h
  split at h
  ·rename_i g m mi' h1 h2 h3 h4
   simp at h;subst h;obtain ⟨g1,g2⟩:=ih h3;refine ⟨by simp [g1],?_⟩;intro k o' hk
   cases k with
   | zero=>simp at hk;subst hk;exact ⟨_,rfl,h1,h2,rfl,h4⟩
   | succ k=>simp at hk;simpa using g2 k o' hk
  ·simp at h
theorem CN {P:Program} {n:Nat} {pol:Pol} {ops:List Oper}:∀{l:List Oper} {mi:List MI} (k:Nat),dN P n pol ops l=some mi->dN P n pol ops (l.drop k)=some (mi.drop k):=by
 intro l
 induction l with
 | nil=>intro mi k h;simp [dN] at h;subst h;simp [dN]
 | cons o l ih=>
  intro mi k h
  cases k with
  | zero=>simpa using h
  | succ k=>
   unfold dN at h
   split at h
   ·rename_i g m mi' h1 h2 h3 h4
    simp at h;subst h;simpa using ih k h3
   ·simp at h
theorem kM {c:Cx} {w0:World} {n:Nat} {gs:Fr} {st:St} {a:Act} (r:Rel c w0 n gs st a) {ops:List Oper} {o:Oper} {g:Option (Nat×Bool)} (hg:yn ops o.guard=some g) {b:Bool} (hb:sw g st=some b) :
  Region.wanted o (yielded ops.toArray a.tmps)=b:=by
 cases hgo:o.guard with
 | none=>
  rw [hgo] at hg;simp [yn] at hg;subst hg;simp [sw] at hb;subst hb;simp [Region.wanted,hgo]
 | some jw=>
  obtain ⟨j,want⟩:=jw;rw [hgo] at hg;simp only [yn] at hg
  split at hg
  ·rename_i oj hoj
   split at hg
   ·rename_i t ht
    simp at hg;subst hg;simp only [sw] at hb
    split at hb
    ·rename_i b' hb'
     simp at hb;subst hb;have e:=r.regs t _ hb';simp only [aA,aE] at e;have e' : a.tmps[t]? = some (.bool b'):=by
      rw [Array.getD_eq_getD_getElem?] at e
      cases hq:a.tmps[t]? with
      | none=>rw [hq] at e;simp [undef] at e
      | some u=>rw [hq] at e;simp at e;rw [e]
     have ey:yielded ops.toArray a.tmps j=some b':=by
      unfold yielded;simp [hoj,ht,e']
     simp only [Region.wanted,hgo,ey]
     cases b'<;>cases want<;>rfl
    ·rename_i hb'
     simp at hb;subst hb;have e:=r.regs t _ hb';have ey:yielded ops.toArray a.tmps j=none:=by
      simp [aA,ax] at e;unfold yielded
      cases hq:a.tmps[t]? with
      | none=>simp [hoj,ht,hq]
      | some u=>rw [hq] at e;simp at e;simp [hoj,ht,hq,e]
     simp only [Region.wanted,hgo,ey];cases want<;>rfl
    ·simp at hb
   ·simp at hg
  ·simp at hg
theorem Rel.same {c:Cx} {w0:World} {n:Nat} {gs:Fr} {st st' : St} {a:Act} (r:Rel c w0 n gs st a) (h:du st st'):Rel c w0 n gs st' a:=
 ⟨r.heap.trans h.heap.symm,by rw [h.next];exact r.hrel,r.size,fun i v hv=>r.regs i v (by rw [<- h.regs i];exact hv),r.frames,by rw [h.base];exact r.mK,by rw [h.base,h.next];exact r.base,by rw [h.defers];exact r.defers⟩
structure QK (mi:List MI) (h:Nat) (vs:List V) (st:St) (listed:Array Bool) (s:St):Prop where
 none:∀t,(∀(j:Nat) (i:MI),j<h->mi[j]? = some i->listed.getD j false=true->i.dst≠some t)->look s.regs t=look st.regs t
 one:∀(j:Nat) (i:MI) (t:Nat),j<h->mi[j]? = some i->listed.getD j false=true->i.dst=some t->look s.regs t=vs[j]?
 heap:s.heap=st.heap
 next:s.next=st.next
 defers:s.defers=st.defers
 base:s.base=st.base
def left (listed:Array Bool):Nat->Nat
 | 0=>0
 | h+1=>left listed h+(if listed.getD h false then 0 else 1)
theorem rZ {listed:Array Bool}:∀{h:Nat},left listed h=0->∀i,i<h->listed.getD i false=true
 | 0,_,i,hi=>by omega
 | h+1,hl,i,hi=>by
  simp only [left] at hl;have h1:left listed h=0:=by omega
  have h2:(if listed.getD h false then 0 else 1)=0:=by omega
  by_cases hih:i=h
  ·subst hih
   by_cases hb:listed.getD i false=true
   ·exact hb
   ·simp [hb] at h2
  ·exact rZ h1 i (by omega)
theorem wP {listed:Array Bool} {i:Nat}:∀{h:Nat},h<=i->left (listed.setIfInBounds i true) h=left listed h
 | 0,_=>rfl
 | h+1,hi=>by
  simp only [left];rw [wP (by omega),getD_set_ne false (by omega)]
theorem yG {listed:Array Bool} {i:Nat} (hs:i<listed.size) (hu:listed.getD i false=false):∀{h:Nat},i<h->left (listed.setIfInBounds i true) h+1=left listed h
 | 0,hi=>by omega
 | h+1,hi=>by
  simp only [left];by_cases hih:i=h
  ·subst hih
   rw [wP (Nat.le_refl _)];have:(listed.setIfInBounds i true).getD i false=true:=by simp [hs]
   rw [this,hu];simp
  ·have:=yG hs hu (h:=h) (by omega)
   rw [getD_set_ne false hih];omega
theorem j8 {listed:Array Bool} {h:Nat} (hl:left listed h≠0):∃i,i<h/\listed.getD i false=false/\∀j,j<i->listed.getD j false=true:=by
 induction h with
 | zero=>simp [left] at hl
 | succ h ih=>
  by_cases h0:left listed h=0
  ·refine ⟨h,by omega,?_,fun j hj=>rZ h0 j hj⟩
   simp only [left,h0] at hl
   cases hb:listed.getD h false with
   | true=>simp [hb] at hl
   | false=>rfl
  ·obtain ⟨i,h1,h2,h3⟩:=ih h0
   exact ⟨i,by omega,h2,h3⟩
section
variable {P : Program} {n h : Nat} {pol : Pol} {ops : List Oper} {mi : List MI} {Q : aH -> St -> Prop} {q : aH -> St -> Tree} {w0 : World} {gs : Fr} {st : St} {c0 : Cx} {vs : List V} {sf : St} {mode : Option (Nat × Bool × Bool)}
theorem Js (hc:dN P n pol ops ops=some mi) (hd:EB ops mi h=true) (hch:Chain P (mi.take h) st vs sf) (hm:iJ mode sf) (hw:WT P Q (dc (mi.drop h) mode sf q)) :
  ∀(d:Nat) (listed:Array Bool) (c:Cx) (a:Act) (s:St),left listed h=d->HeadInv .any ops.toArray h listed->QK mi h vs st listed s->c.B=c0.B->c.J0=c0.J0->Rel c w0 n gs s a->
   wpAny P .any ops.toArray (Came P Q q c0 w0 n gs) (d+(ops.length - h)) listed a c.w:=by
 simp only [EB,Bool.and_eq_true,decide_eq_true_eq] at hd;obtain ⟨⟨⟨⟨⟨hle,hquiet⟩,TY⟩,T8⟩,htail⟩,hseq⟩:=hd;obtain ⟨hlen,hget⟩:=qZ hc;have hvl:=hch.length;have htl:(mi.take h).length=h:=by simp;omega
 rw [htl] at hvl;have sees:∀i j,i<h->j<h->i≠j->∀(x y:MI),mi[i]? = some x->mi[j]? = some y->∀t,y.dst=some t->x.dst≠some t/\(t∈x.tmps->(j<i/\Region.waitsFor .any ops.toArray i j=true)\/(i<j/\Region.waitsFor .any ops.toArray j i=true)):=by
  intro i j hi hj hij x y hx hy t ht;have h1:=List.all_eq_true.1 (List.all_eq_true.1 T8 i (List.mem_range.2 hi)) j (List.mem_range.2 hj);simp only [Bool.or_eq_true,beq_iff_eq] at h1
  rcases h1 with h1|h1
  ·exact (hij h1).elim
  ·simp only [QG,hx,hy,ht,Bool.and_eq_true,Bool.or_eq_true] at h1
   refine ⟨by simpa using h1.1,fun hmem=>?_⟩
   rcases h1.2 with h2|h2
   ·have:x.tmps.contains t=true:=by simpa using hmem
    rw [this] at h2;simp at h2
   ·by_cases hji:j<i
    ·rw [if_pos hji] at h2;exact .inl ⟨hji,h2⟩
    ·rw [if_neg hji] at h2;exact .inr ⟨by omega,h2⟩
 intro d
 induction d with
 | zero=>
  intro listed c a s hl hinv hst hB hJ r;have hall:=rZ hl;have hcan:listed=canon h ops.length:=by
   apply Array.ext
   ·rw [hinv.size];simp [canon]
   ·intro i h1 h2
    have e1:listed.getD i false=listed[i]:=by simp [h1]
    have hi:i<ops.length:=by rw [hinv.size] at h1;simpa using h1
    simp only [canon,List.getElem_toArray,List.getElem_map,List.getElem_range];by_cases hih:i<h
    ·rw [<- e1,hall i hih];simp [hih]
    ·have:=hinv.tail i (by omega) (by simpa using hi)
     have e2:listed.getD i true=listed[i]:=by simp [h1]
     rw [<- e2,this];simp [hih]
  have hsame:du s sf:=by
   refine du.trans ?_ hch.last;obtain ⟨a1,a2,a3,a4⟩:=tG (mi.take h) vs st;refine ⟨fun t=>?_,by rw [a1,hst.heap],by rw [a2,hst.next],by rw [a3,hst.defers],by rw [a4,hst.base]⟩;by_cases hex:∃(j:Nat) (i:MI),j<h/\mi[j]? = some i/\i.dst=some t
   ·obtain ⟨j,i,hj,hi,ht⟩:=hex
    have hv:vs[j]? = some vs[j]:=List.getElem?_eq_getElem (by omega);rw [hst.one j i t hj hi (hall j hj) ht,hv];refine mR (mi.take h) vs st t j i _ (by rw [List.getElem?_take,if_pos hj];exact hi) hv ht ?_ (by rw [htl,hvl]);intro j' i' hj' ht';rw [List.getElem?_take] at hj'
    split at hj'
    ·rename_i hjh
     by_cases hjj:j' = j
     ·exact hjj
     ·exact ((sees j' j hjh hj hjj i' i hj' hi t ht).1 ht').elim
    ·simp at hj'
   ·rw [hst.none t (fun j i hj hi _ ht=>hex ⟨j,i,hj,hi,ht⟩)]
    refine fW (mi.take h) vs st t ?_;intro j i hi ht;rw [List.getElem?_take] at hi
    split at hi
    ·rename_i hj;exact hex ⟨j,i,hj,hi,ht⟩
    ·simp at hi
  have hlist:=tD (P:=P) (n:=n) (ops:=ops) (Q:=Q) (q:=q) (w0:=w0) (gs:=gs) (c0:=c0) (ops.drop h) (mi.drop h) mode c sf a (CN h hc) hB hJ (r.same hsame) hm hw;have:=wpAny_of_seq (md:=.any) (ops.drop h) h listed a c.w (fun j=>by simp [List.getElem?_drop]) (by rw [hcan];simpa using hseq) hlist;simpa using this
 | succ d ih=>
  intro listed c a s hl hinv hst hB hJ r;rw [show d+1+(ops.length - h)=(d+(ops.length - h))+1 by omega];obtain ⟨i0,hi0,hu0,hlo0⟩:=j8 (listed:=listed) (h:=h) (by omega);have hsz:=hinv.size;have VA:listed.size=ops.length:=by simpa using hsz
  have tH:i0∈Region.ready .any ops.toArray listed:=by
   rw [mem_ready];refine ⟨getD_in (by omega) hu0,?_⟩;have h1:=List.all_eq_true.1 TY i0 (List.mem_range.2 hi0);have ho:ops[i0]? = some ops[i0]:=List.getElem?_eq_getElem (by omega);rw [ho] at h1;refine ⟨ops[i0],by simp,fun e he hb=>?_⟩;have h2:=Array.all_eq_true_iff_forall_mem.1 h1 e he;simp only [Bool.or_eq_true,Bool.not_eq_true',decide_eq_true_eq,hb] at h2
   rcases h2 with h2|h2
   ·cases h2
   ·exact hlo0 _ h2
  refine ⟨fun h0=>(by rw [h0] at tH;cases tH),?_⟩;intro i hi
  -- a head
  have hih:i<h:=by
   by_cases hih:i<h
   ·exact hih
   ·exfalso
    obtain ⟨_,oi,hoi,_⟩:=mem_ready.1 hi;have hilt:i<ops.length:=by
     have:=(Array.getElem?_eq_some_iff.1 hoi).1;simpa using this
    rcases Bool.or_eq_true .. ▸ htail with ht|ht
    ·have:h=ops.length:=by simpa using ht
     omega
    ·rw [Bool.and_eq_true] at ht
     exact tail_waits ht.1 ht.2 (by simp;omega) hinv (h - i0) i0 rfl hi0 (getD_in (by omega) hu0) i (by omega) hi
  have hui:=(mem_ready.1 hi).1;have ER:=getD_both hui;obtain ⟨oi,hoi,Lh⟩:=(mem_ready.1 hi).2;have hoi' : ops[i]? = some oi:=by simpa using hoi
  obtain ⟨x,hx,hg,hop,hdst,hdn⟩:=hget i oi hoi';have hxt:(mi.take h)[i]? = some x:=by rw [List.getElem?_take,if_pos hih];exact hx
  obtain ⟨v,hv,hok⟩:=hch.at i x hxt
  -- what it looks at is there
  have tI:∀t∈x.tmps,look s.regs t=look (after st ((mi.take h).take i) (vs.take i)).regs t:=by
   intro t ht;by_cases hex:∃(j:Nat) (y:MI),j<h/\j≠i/\mi[j]? = some y/\y.dst=some t
   ·obtain ⟨j,y,hj,hji,hy,hyt⟩:=hex
    rcases (sees i j hih hj (Ne.symm hji) x y hx hy t hyt).2 ht with ⟨hlt,hwf⟩|⟨hlt,hwf⟩
    ·-- j ahead of i,and i waits for it
     obtain ⟨o',ho',e,he,hb,hon⟩:=Region.waitsFor_spec hwf;have:o' = oi:=Option.some.inj (ho'.symm.trans hoi);subst this;have hlj:listed.getD j false=true:=by rw [<- hon];exact Lh e he hb
     have hvj:vs[j]? = some vs[j]:=List.getElem?_eq_getElem (by omega);rw [hst.one j y t hj hy hlj hyt,hvj]
     symm
     refine mR _ _ st t j y _ ?_ ?_ hyt ?_ ?_
     ·rw [List.getElem?_take,if_pos hlt,List.getElem?_take,if_pos hj];exact hy
     ·rw [List.getElem?_take,if_pos hlt];exact hvj
     ·intro j' y' hj' CO
      rw [List.getElem?_take] at hj'
      split at hj'
      ·rename_i T9
       rw [List.getElem?_take] at hj'
       split at hj'
       ·rename_i CP
        by_cases hjj:j' = j
        ·exact hjj
        ·exact ((sees j' j CP hj hjj y' y hj' hy t hyt).1 CO).elim
       ·simp at hj'
      ·simp at hj'
     ·simp;omega
    ·-- i ahead of j,which waits for it: it has not come
     have hlj:listed.getD j false=false:=by
      cases hb:listed.getD j false with
      | false=>rfl
      | true=>
       obtain ⟨o',ho',e,he,hbb,hon⟩:=Region.waitsFor_spec hwf;have:=hinv.closed j o' ho' hb e he hbb;rw [hon,ER] at this;cases this
     rw [hst.none t]
     ·symm
      refine fW _ _ st t ?_;intro j' y' hj' CO;rw [List.getElem?_take] at hj'
      split at hj'
      ·rename_i T9
       rw [List.getElem?_take] at hj'
       split at hj'
       ·rename_i CP
        exact ((sees j' j CP hj (by omega) y' y hj' hy t hyt).1 CO).elim
       ·simp at hj'
      ·simp at hj'
     ·intro j' y' CP hj' hl' CO
      by_cases hjj:j' = j
      ·subst hjj;rw [hlj] at hl';cases hl'
      ·exact ((sees j' j CP hj hjj y' y hj' hy t hyt).1 CO).elim
   ·rw [hst.none t]
    ·symm
     refine fW _ _ st t ?_;intro j' y' hj' CO;rw [List.getElem?_take] at hj'
     split at hj'
     ·rename_i T9
      rw [List.getElem?_take] at hj'
      split at hj'
      ·rename_i CP
       exact hex ⟨j',y',CP,by omega,hj',CO⟩
      ·simp at hj'
     ·simp at hj'
    ·intro j' y' CP hj' hl' CO
     by_cases hjj:j' = i
     ·subst hjj;rw [ER] at hl';cases hl'
     ·exact hex ⟨j',y',CP,hjj,hj',CO⟩
  have hheap:s.heap=(after st ((mi.take h).take i) (vs.take i)).heap:=by
   rw [hst.heap,(tG _ _ _).1]
  have hleft:left (listed.setIfInBounds i true) h=d:=by
   have:=yG (listed:=listed) (i:=i) (by omega) ER (h:=h) hih;omega
  have hinv':=hinv.set hi hih;have hst' : ∀u,vs[i]? = some u->QK mi h vs st (listed.setIfInBounds i true) (put x.dst u s):=by
   intro u hu;have pP:∀j,(listed.setIfInBounds i true).getD j false=true->j=i\/listed.getD j false=true:=by
    intro j hj;by_cases hji:j=i
    ·exact .inl hji
    ·rw [getD_set_ne false (Ne.symm hji)] at hj;exact .inr hj
   have hput:(put x.dst u s).heap=s.heap/\(put x.dst u s).next=s.next/\(put x.dst u s).defers=s.defers/\(put x.dst u s).base=s.base:=by
    cases x.dst<;>simp [Uw.put]
   have hii:(listed.setIfInBounds i true).getD i false=true:=by simp [show i<listed.size by omega]
   refine ⟨?_,?_,by rw [hput.1,hst.heap],by rw [hput.2.1,hst.next],by rw [hput.2.2.1,hst.defers],by rw [hput.2.2.2,hst.base]⟩
   ·intro t ht
    have hnx:x.dst≠some t:=ht i x hih hx hii;have hs' : look (put x.dst u s).regs t=look s.regs t:=by
     cases hxd:x.dst with
     | none=>simp [Uw.put]
     | some dd=>
      simp only [Uw.put,ai];rw [if_neg];intro e;subst e;exact hnx hxd
    rw [hs'];refine hst.none t (fun j y hj hy hl'=>ht j y hj hy ?_);exact getD_set_true hl'
   ·intro j y t hj hy hl' hyt
    rcases pP j hl' with rfl|hl''
    ·rw [hx] at hy;injection hy with hy;subst hy
     rw [hyt,hu];simp [Uw.put,ai]
    ·by_cases hji:j=i
     ·subst hji;rw [ER] at hl'';cases hl''
     ·have hne:=(sees i j hih hj (Ne.symm hji) x y hx hy t hyt).1
      have hs' : look (put x.dst u s).regs t=look s.regs t:=by
       cases hxd:x.dst with
       | none=>simp [Uw.put]
       | some dd=>
        simp only [Uw.put,ai];rw [if_neg];intro e;subst e;exact hne hxd
      rw [hs'];exact hst.one j y t hj hy hl'' hyt
  unfold wpOp;simp only [hoi]
  rcases hok s tI hheap with ⟨hgr,hstep⟩|⟨hgr,rfl⟩
  ·rw [kM r hg hgr]
   simp only [if_true];left;have hW:=hstep (fun _ z=>z=put (some 0) v s) (fun v' s'=>Tree.done .normal (put (some 0) v' s')) (fun _ _=>.fail) rfl;refine step_ok (xx:=fun _ _=>Tree.fail) r hop ?_ (fun c' st' d ch _ _ _ _ _ hq=>False.elim hq) hW;intro c' s' a' v' gv hB' hJ' htm r' wO hv' hq;simp only [WT,Uw.put,St.mk.injEq,List.cons.injEq,Prod.mk.injEq,true_and] at hq;obtain ⟨⟨rfl,e1⟩,e2,e3,e4,e5⟩:=hq;have hss:s' = s:=by cases s';cases s;simp_all
   subst hss;refine ih _ c' _ (put x.dst v' s') hleft hinv' (hst' v' hv) (hB'.trans hB) (hJ'.trans hJ) ?_;rw [hdst];exact r'.put hdn hv'
  ·rw [kM r hg hgr]
   simp only [Bool.false_eq_true,if_false];refine ih _ c _ (put x.dst (.tuple []) s) hleft hinv' (hst' (.tuple []) hv) hB hJ ?_;rw [hdst];exact r.put hdn (by simp [aA,ax,undef])
theorem Lj (S:WPS P) {id:Nat} {c:Cx} {a:Act} (hdf:S.dfr=true\/ops.all uz=true) (hm:P.follows .mixedOrders=true) (hc:dN P n pol ops ops=some mi) (hd:EB ops mi h=true) (r:Rel c w0 n gs st a) (hw:WT P Q (dc mi none st q)) :
  S.W (Code.region id ops.toArray true) (Came P Q q c w0 n gs) a c.w:=by
 have hd':=hd;simp only [EB,Bool.and_eq_true,decide_eq_true_eq] at hd';obtain ⟨⟨⟨⟨⟨hle,hquiet⟩,_⟩,_⟩,_⟩,_⟩:=hd';rw [<- List.take_append_drop h mi] at hw;obtain ⟨vs,sf,mode,g1,g2,g3⟩:=sW (mi.take h) none st (fun i hi=>List.all_eq_true.1 hquiet i hi) (by intro t w' h' hh;simp at hh) hw;refine S.any hm CJ (by simpa using hdf) ?_;have hbel:Below c.w.heap.size c.w { c.w with drawn:=c.w.drawn+1 }:=⟨rfl,rfl,rfl,Nat.le_refl _,fun _ _=>rfl⟩
 have r1:=r.grow hbel;have hnone:∀j,(Array.replicate ops.toArray.size false).getD j false=false:=fun j=>getD_replicate_false _ j;have hl:∀k,left (Array.replicate ops.toArray.size false) k=k:=by
  intro k
  induction k with
  | zero=>rfl
  | succ k ih=>simp only [left,ih,hnone,Bool.false_eq_true,if_false]
 have:=Js (c0:=c) (gs:=gs) (w0:=w0) hc hd g1 g2 g3 h (Array.replicate ops.toArray.size false) { c with w:={ c.w with drawn:=c.w.drawn+1 } } a st (hl h)
  ⟨by simp,fun j oj _ hl'=>(by rw [hnone] at hl';cases hl'),fun t _ ht=>getD_in (by simpa using ht) (hnone t)⟩
  ⟨fun _ _=>rfl,fun j i t _ _ hl'=>(by rw [hnone] at hl';cases hl'),rfl,rfl,rfl,rfl⟩ rfl rfl r1
 rw [show h+(ops.length - h)=ops.toArray.size by simp;omega] at this;exact this
end
end Uw
namespace Uw
open Go Go.RowKit
variable [Glob]
def St.sX (st s:St):St:={ st with heap:=s.heap,next:=s.next,defers:=s.defers,base:=s.base }
theorem Hg {op:MOp} {st s:St} (ha:∀t∈op.tmps,look s.regs t=look st.regs t) (hh:s.heap=st.heap) (hn:s.next=st.next) (hd:s.defers=st.defers) (hb:s.base=st.base) (q:V->St->Tree) (x:aH->St->Tree) :
  step op s (fun v s'=>q v (st.sX s')) (fun e s'=>x e (st.sX s'))=step op st q x:=by
 obtain ⟨r,h,n,d,b⟩:=st;obtain ⟨r',h',n',d',b'⟩:=s;simp only at hh hn hd hb ha;subst hh hn hd hb
 cases op with
 | mm mx1 x1 y1=>
  have e0:Opd.ev ⟨r',h',n',d',b'⟩ x1=Opd.ev ⟨r,h',n',d',b'⟩ x1:=ap fun t ht=>ha t (by simp [MOp.tmps,ht]);have e1:Opd.ev ⟨r',h',n',d',b'⟩ y1=Opd.ev ⟨r,h',n',d',b'⟩ y1:=ap fun t ht=>ha t (by simp [MOp.tmps,ht]);simp only [step,aj,au,av,e0,e1];rfl
 | eR a1=>
  have e0:Opd.ev ⟨r',h',n',d',b'⟩ a1=Opd.ev ⟨r,h',n',d',b'⟩ a1:=ap fun t ht=>ha t (by simp [MOp.tmps,ht]);simp only [step,aj,au,av,e0];rfl
 | pD a1 x1=>
  have e0:Opd.ev ⟨r',h',n',d',b'⟩ a1=Opd.ev ⟨r,h',n',d',b'⟩ a1:=ap fun t ht=>ha t (by simp [MOp.tmps,ht]);have e1:Opd.ev ⟨r',h',n',d',b'⟩ x1=Opd.ev ⟨r,h',n',d',b'⟩ x1:=ap fun t ht=>ha t (by simp [MOp.tmps,ht]);simp only [step,aj,au,av,e0,e1];rfl
 | wH b1 z1 l1 c1=>
  have e0:Opd.ev ⟨r',h',n',d',b'⟩ l1=Opd.ev ⟨r,h',n',d',b'⟩ l1:=ap fun t ht=>ha t (by simp [MOp.tmps,ht]);have e1:Opd.ev ⟨r',h',n',d',b'⟩ c1=Opd.ev ⟨r,h',n',d',b'⟩ c1:=ap fun t ht=>ha t (by simp [MOp.tmps,ht]);simp only [step,aj,au,av,e0,e1];rfl
 | Jg k1 b1 s1 x1=>
  have e0:Opd.ev ⟨r',h',n',d',b'⟩ s1=Opd.ev ⟨r,h',n',d',b'⟩ s1:=ap fun t ht=>ha t (by simp [MOp.tmps,ht]);have e1:Opd.ev ⟨r',h',n',d',b'⟩ x1=Opd.ev ⟨r,h',n',d',b'⟩ x1:=ap fun t ht=>ha t (by simp [MOp.tmps,ht]);simp only [step,aj,au,av,e0,e1];rfl
 | ux ok1 kk1 z1 m1 x1=>
  have e0:Opd.ev ⟨r',h',n',d',b'⟩ m1=Opd.ev ⟨r,h',n',d',b'⟩ m1:=ap fun t ht=>ha t (by simp [MOp.tmps,ht]);have e1:Opd.ev ⟨r',h',n',d',b'⟩ x1=Opd.ev ⟨r,h',n',d',b'⟩ x1:=ap fun t ht=>ha t (by simp [MOp.tmps,ht]);simp only [step,aj,au,av,e0,e1];rfl
 | wI kk1 m1 x1 v1=>
  have e0:Opd.ev ⟨r',h',n',d',b'⟩ m1=Opd.ev ⟨r,h',n',d',b'⟩ m1:=ap fun t ht=>ha t (by simp [MOp.tmps,ht]);have e1:Opd.ev ⟨r',h',n',d',b'⟩ x1=Opd.ev ⟨r,h',n',d',b'⟩ x1:=ap fun t ht=>ha t (by simp [MOp.tmps,ht]);have e2:Opd.ev ⟨r',h',n',d',b'⟩ v1=Opd.ev ⟨r,h',n',d',b'⟩ v1:=ap fun t ht=>ha t (by simp [MOp.tmps,ht]);simp only [step,aj,au,av,e0,e1,e2];rfl
 | vI n1 zs1 ps1=>
  have e0:∀z,eD ⟨r',h',n',d',b'⟩ z ps1=eD ⟨r,h',n',d',b'⟩ z ps1:=fun z=>i6 z fun t ht=>ha t (by simp [MOp.tmps,ht]);simp only [step,aj,au,av,e0];rfl
 | yi k1 n1 zs1 ps1=>
  have e0:∀k z,ij ⟨r',h',n',d',b'⟩ k z ps1=ij ⟨r,h',n',d',b'⟩ k z ps1:=fun k z=>kC (st:=⟨r,h',n',d',b'⟩) (st':=⟨r',h',n',d',b'⟩) rfl fun t ht=>ha t (by simp [MOp.tmps,ht]);simp only [step,aj,au,av,e0];rfl
 | kH kk1=>
  simp only [step,aj,au,av];rfl
 | lkp ok1 kk1 z1 m1 x1=>
  have e0:Opd.ev ⟨r',h',n',d',b'⟩ m1=Opd.ev ⟨r,h',n',d',b'⟩ m1:=ap fun t ht=>ha t (by simp [MOp.tmps,ht]);have e1:Opd.ev ⟨r',h',n',d',b'⟩ x1=Opd.ev ⟨r,h',n',d',b'⟩ x1:=ap fun t ht=>ha t (by simp [MOp.tmps,ht]);simp only [step,aj,au,av,e0,e1];rfl
 | nC kk1 m1 x1 v1=>
  have e0:Opd.ev ⟨r',h',n',d',b'⟩ m1=Opd.ev ⟨r,h',n',d',b'⟩ m1:=ap fun t ht=>ha t (by simp [MOp.tmps,ht]);have e1:Opd.ev ⟨r',h',n',d',b'⟩ x1=Opd.ev ⟨r,h',n',d',b'⟩ x1:=ap fun t ht=>ha t (by simp [MOp.tmps,ht]);have e2:Opd.ev ⟨r',h',n',d',b'⟩ v1=Opd.ev ⟨r,h',n',d',b'⟩ v1:=ap fun t ht=>ha t (by simp [MOp.tmps,ht]);simp only [step,aj,au,av,e0,e1,e2];rfl
 | Aw m1=>
  have e0:Opd.ev ⟨r',h',n',d',b'⟩ m1=Opd.ev ⟨r,h',n',d',b'⟩ m1:=ap fun t ht=>ha t (by simp [MOp.tmps,ht]);simp only [step,aj,au,av,e0];rfl
 | rng x1=>
  have e0:Opd.ev ⟨r',h',n',d',b'⟩ x1=Opd.ev ⟨r,h',n',d',b'⟩ x1:=ap fun t ht=>ha t (by simp [MOp.tmps,ht]);simp only [step,aj,au,av,e0];rfl
 | nxt x1=>
  have e0:Opd.ev ⟨r',h',n',d',b'⟩ x1=Opd.ev ⟨r,h',n',d',b'⟩ x1:=ap fun t ht=>ha t (by simp [MOp.tmps,ht]);simp only [step,aj,au,av,e0];rfl
 | Eu g1 n1 k1 x1 i1=>
  have e0:Opd.ev ⟨r',h',n',d',b'⟩ x1=Opd.ev ⟨r,h',n',d',b'⟩ x1:=ap fun t ht=>ha t (by simp [MOp.tmps,ht]);have e1:Opd.ev ⟨r',h',n',d',b'⟩ i1=Opd.ev ⟨r,h',n',d',b'⟩ i1:=ap fun t ht=>ha t (by simp [MOp.tmps,ht]);simp only [step,aj,au,av,e0,e1];rfl
 | b2s x1=>
  have e0:Opd.ev ⟨r',h',n',d',b'⟩ x1=Opd.ev ⟨r,h',n',d',b'⟩ x1:=ap fun t ht=>ha t (by simp [MOp.tmps,ht]);simp only [step,aj,au,av,e0];rfl
 | mov x1=>
  have e0:Opd.ev ⟨r',h',n',d',b'⟩ x1=Opd.ev ⟨r,h',n',d',b'⟩ x1:=ap fun t ht=>ha t (by simp [MOp.tmps,ht]);simp only [step,aj,au,av,e0];rfl
 | pick c1 a1 b1=>
  have e0:Opd.ev ⟨r',h',n',d',b'⟩ c1=Opd.ev ⟨r,h',n',d',b'⟩ c1:=ap fun t ht=>ha t (by simp [MOp.tmps,ht]);have e1:Opd.ev ⟨r',h',n',d',b'⟩ a1=Opd.ev ⟨r,h',n',d',b'⟩ a1:=ap fun t ht=>ha t (by simp [MOp.tmps,ht]);have e2:Opd.ev ⟨r',h',n',d',b'⟩ b1=Opd.ev ⟨r,h',n',d',b'⟩ b1:=ap fun t ht=>ha t (by simp [MOp.tmps,ht]);simp only [step,aj,au,av,e0,e1,e2];rfl
 | box x1=>
  have e0:Opd.ev ⟨r',h',n',d',b'⟩ x1=Opd.ev ⟨r,h',n',d',b'⟩ x1:=ap fun t ht=>ha t (by simp [MOp.tmps,ht]);simp only [step,aj,au,av,e0];rfl
 | alloc zs1=>
  simp only [step,aj,au,av];rfl
 | build zs1 ps1=>
  have e0:∀z,eD ⟨r',h',n',d',b'⟩ z ps1=eD ⟨r,h',n',d',b'⟩ z ps1:=fun z=>i6 z fun t ht=>ha t (by simp [MOp.tmps,ht]);simp only [step,aj,au,av,e0];rfl
 | load g1 n1 a1=>
  have e0:Opd.ev ⟨r',h',n',d',b'⟩ a1=Opd.ev ⟨r,h',n',d',b'⟩ a1:=ap fun t ht=>ha t (by simp [MOp.tmps,ht]);simp only [step,aj,au,av,e0];rfl
 | store n1 a1 x1=>
  have e0:Opd.ev ⟨r',h',n',d',b'⟩ a1=Opd.ev ⟨r,h',n',d',b'⟩ a1:=ap fun t ht=>ha t (by simp [MOp.tmps,ht]);have e1:Opd.ev ⟨r',h',n',d',b'⟩ x1=Opd.ev ⟨r,h',n',d',b'⟩ x1:=ap fun t ht=>ha t (by simp [MOp.tmps,ht]);simp only [step,aj,au,av,e0,e1];rfl
 | fld off1 a1=>
  have e0:Opd.ev ⟨r',h',n',d',b'⟩ a1=Opd.ev ⟨r,h',n',d',b'⟩ a1:=ap fun t ht=>ha t (by simp [MOp.tmps,ht]);simp only [step,aj,au,av,e0];rfl
 | cD x1=>
  have e0:Opd.ev ⟨r',h',n',d',b'⟩ x1=Opd.ev ⟨r,h',n',d',b'⟩ x1:=ap fun t ht=>ha t (by simp [MOp.tmps,ht]);simp only [step,aj,au,av,e0];rfl
 | idx k1 s1 i1=>
  have e0:Opd.ev ⟨r',h',n',d',b'⟩ s1=Opd.ev ⟨r,h',n',d',b'⟩ s1:=ap fun t ht=>ha t (by simp [MOp.tmps,ht]);have e1:Opd.ev ⟨r',h',n',d',b'⟩ i1=Opd.ev ⟨r,h',n',d',b'⟩ i1:=ap fun t ht=>ha t (by simp [MOp.tmps,ht]);simp only [step,aj,au,av,e0,e1];rfl
 | idxs s1 i1=>
  have e0:Opd.ev ⟨r',h',n',d',b'⟩ s1=Opd.ev ⟨r,h',n',d',b'⟩ s1:=ap fun t ht=>ha t (by simp [MOp.tmps,ht]);have e1:Opd.ev ⟨r',h',n',d',b'⟩ i1=Opd.ev ⟨r,h',n',d',b'⟩ i1:=ap fun t ht=>ha t (by simp [MOp.tmps,ht]);simp only [step,aj,au,av,e0,e1];rfl
 | len b1 s1=>
  have e0:Opd.ev ⟨r',h',n',d',b'⟩ s1=Opd.ev ⟨r,h',n',d',b'⟩ s1:=ap fun t ht=>ha t (by simp [MOp.tmps,ht])
  cases b1
  all_goals
   simp only [step,aj,au,av,e0];rfl
 | bin op1 x1 y1=>
  have e0:Opd.ev ⟨r',h',n',d',b'⟩ x1=Opd.ev ⟨r,h',n',d',b'⟩ x1:=ap fun t ht=>ha t (by simp [MOp.tmps,ht]);have e1:Opd.ev ⟨r',h',n',d',b'⟩ y1=Opd.ev ⟨r,h',n',d',b'⟩ y1:=ap fun t ht=>ha t (by simp [MOp.tmps,ht]);simp only [step,aj,au,av,e0,e1];rfl
 | eqb RF x1 y1=>
  have e0:Opd.ev ⟨r',h',n',d',b'⟩ x1=Opd.ev ⟨r,h',n',d',b'⟩ x1:=ap fun t ht=>ha t (by simp [MOp.tmps,ht]);have e1:Opd.ev ⟨r',h',n',d',b'⟩ y1=Opd.ev ⟨r,h',n',d',b'⟩ y1:=ap fun t ht=>ha t (by simp [MOp.tmps,ht]);simp only [step,aj,au,av,e0,e1];rfl
 | not x1=>
  have e0:Opd.ev ⟨r',h',n',d',b'⟩ x1=Opd.ev ⟨r,h',n',d',b'⟩ x1:=ap fun t ht=>ha t (by simp [MOp.tmps,ht]);simp only [step,aj,au,av,e0];rfl
 | conv k1 x1=>
  have e0:Opd.ev ⟨r',h',n',d',b'⟩ x1=Opd.ev ⟨r,h',n',d',b'⟩ x1:=ap fun t ht=>ha t (by simp [MOp.tmps,ht]);simp only [step,aj,au,av,e0];rfl
 | call f1 args1=>
  have e0:d6 ⟨r',h',n',d',b'⟩ args1=d6 ⟨r,h',n',d',b'⟩ args1:=eT fun t ht=>ha t (by simp [MOp.tmps,ht]);simp only [step,aj,au,av,e0];rfl
 | ext x1 i1=>
  have e0:Opd.ev ⟨r',h',n',d',b'⟩ x1=Opd.ev ⟨r,h',n',d',b'⟩ x1:=ap fun t ht=>ha t (by simp [MOp.tmps,ht]);simp only [step,aj,au,av,e0];rfl
 | bM k1 n1 zs1 ps1=>
  have e0:∀k z,ij ⟨r',h',n',d',b'⟩ k z ps1=ij ⟨r,h',n',d',b'⟩ k z ps1:=fun k z=>kC (st:=⟨r,h',n',d',b'⟩) (st':=⟨r',h',n',d',b'⟩) rfl fun t ht=>ha t (by simp [MOp.tmps,ht]);simp only [step,aj,au,av,e0];rfl
 | app m1 k1 RG s1 x1=>
  have e0:Opd.ev ⟨r',h',n',d',b'⟩ s1=Opd.ev ⟨r,h',n',d',b'⟩ s1:=ap fun t ht=>ha t (by simp [MOp.tmps,ht]);have e1:Opd.ev ⟨r',h',n',d',b'⟩ x1=Opd.ev ⟨r,h',n',d',b'⟩ x1:=ap fun t ht=>ha t (by simp [MOp.tmps,ht]);simp only [step,aj,au,av,e0,e1];rfl
 | Au m1 k1 RG zs1 l1 c1=>
  have e0:Opd.ev ⟨r',h',n',d',b'⟩ l1=Opd.ev ⟨r,h',n',d',b'⟩ l1:=ap fun t ht=>ha t (by simp [MOp.tmps,ht]);have e1:Opd.ev ⟨r',h',n',d',b'⟩ c1=Opd.ev ⟨r,h',n',d',b'⟩ c1:=ap fun t ht=>ha t (by simp [MOp.tmps,ht]);simp only [step,aj,au,av,e0,e1];rfl
 | xy g1 n1 off1 x1=>
  have e0:Opd.ev ⟨r',h',n',d',b'⟩ x1=Opd.ev ⟨r,h',n',d',b'⟩ x1:=ap fun t ht=>ha t (by simp [MOp.tmps,ht]);simp only [step,aj,au,av,e0];rfl
 | sl3 k1 x1 lo1 hi1 mx1=>
  have e0:Opd.ev ⟨r',h',n',d',b'⟩ x1=Opd.ev ⟨r,h',n',d',b'⟩ x1:=ap fun t ht=>ha t (by simp [MOp.tmps,ht]);have e1:∀z,cu ⟨r',h',n',d',b'⟩ z lo1=cu ⟨r,h',n',d',b'⟩ z lo1:=fun z=>cE fun t ht=>ha t (by simp [MOp.tmps,ht]);have e2:∀z,cu ⟨r',h',n',d',b'⟩ z (some hi1)=cu ⟨r,h',n',d',b'⟩ z (some hi1):=fun z=>cE fun t ht=>ha t (by simp only [kB] at ht;simp [MOp.tmps,ht]);have e3:∀z,cu ⟨r',h',n',d',b'⟩ z (some mx1)=cu ⟨r,h',n',d',b'⟩ z (some mx1):=fun z=>cE fun t ht=>ha t (by simp only [kB] at ht;simp [MOp.tmps,ht]);simp only [step,aj,au,av,e0,e1,e2,e3];rfl
 | sl k1 x1 lo1 hi1=>
  have e0:Opd.ev ⟨r',h',n',d',b'⟩ x1=Opd.ev ⟨r,h',n',d',b'⟩ x1:=ap fun t ht=>ha t (by simp [MOp.tmps,ht]);have e1:∀z,cu ⟨r',h',n',d',b'⟩ z lo1=cu ⟨r,h',n',d',b'⟩ z lo1:=fun z=>cE fun t ht=>ha t (by simp [MOp.tmps,ht]);have e2:∀z,cu ⟨r',h',n',d',b'⟩ z hi1=cu ⟨r,h',n',d',b'⟩ z hi1:=fun z=>cE fun t ht=>ha t (by simp [MOp.tmps,ht]);simp only [step,aj,au,av,e0,e1,e2];rfl
 | qp x1 lo1 hi1=>
  have e0:Opd.ev ⟨r',h',n',d',b'⟩ x1=Opd.ev ⟨r,h',n',d',b'⟩ x1:=ap fun t ht=>ha t (by simp [MOp.tmps,ht]);have e1:∀z,cu ⟨r',h',n',d',b'⟩ z lo1=cu ⟨r,h',n',d',b'⟩ z lo1:=fun z=>cE fun t ht=>ha t (by simp [MOp.tmps,ht]);have e2:∀z,cu ⟨r',h',n',d',b'⟩ z hi1=cu ⟨r,h',n',d',b'⟩ z hi1:=fun z=>cE fun t ht=>ha t (by simp [MOp.tmps,ht]);simp only [step,aj,au,av,e0,e1,e2];rfl
 | Et n1 k1 a1 i1=>
  have e0:Opd.ev ⟨r',h',n',d',b'⟩ a1=Opd.ev ⟨r,h',n',d',b'⟩ a1:=ap fun t ht=>ha t (by simp [MOp.tmps,ht]);have e1:Opd.ev ⟨r',h',n',d',b'⟩ i1=Opd.ev ⟨r,h',n',d',b'⟩ i1:=ap fun t ht=>ha t (by simp [MOp.tmps,ht]);simp only [step,aj,au,av,e0,e1];rfl
 | eqn RF x1=>
  have e0:Opd.ev ⟨r',h',n',d',b'⟩ x1=Opd.ev ⟨r,h',n',d',b'⟩ x1:=ap fun t ht=>ha t (by simp [MOp.tmps,ht]);simp only [step,aj,au,av,e0];rfl
 | eqi RF x1=>
  have e0:Opd.ev ⟨r',h',n',d',b'⟩ x1=Opd.ev ⟨r,h',n',d',b'⟩ x1:=ap fun t ht=>ha t (by simp [MOp.tmps,ht]);simp only [step,aj,au,av,e0];rfl
 | eqs RF ks1 x1 y1=>
  have e0:Opd.ev ⟨r',h',n',d',b'⟩ x1=Opd.ev ⟨r,h',n',d',b'⟩ x1:=ap fun t ht=>ha t (by simp [MOp.tmps,ht]);have e1:Opd.ev ⟨r',h',n',d',b'⟩ y1=Opd.ev ⟨r,h',n',d',b'⟩ y1:=ap fun t ht=>ha t (by simp [MOp.tmps,ht]);simp only [step,aj,au,av,e0,e1];rfl
 | sub f1 args1=>
  have e0:d6 ⟨r',h',n',d',b'⟩ args1=d6 ⟨r,h',n',d',b'⟩ args1:=eT fun t ht=>ha t (by simp [MOp.tmps,ht]);simp only [step,aj,au,av,e0];rfl
 | kG x1 args1=>
  have e0:Opd.ev ⟨r',h',n',d',b'⟩ x1=Opd.ev ⟨r,h',n',d',b'⟩ x1:=ap fun t ht=>ha t (by simp [MOp.tmps,ht]);have e1:d6 ⟨r',h',n',d',b'⟩ args1=d6 ⟨r,h',n',d',b'⟩ args1:=eT fun t ht=>ha t (by simp [MOp.tmps,ht]);simp only [step,aj,au,av,e0,e1];rfl
 | mH f1 xs1 ys1=>
  have e0:d6 ⟨r',h',n',d',b'⟩ xs1=d6 ⟨r,h',n',d',b'⟩ xs1:=eT fun t ht=>ha t (by simp [MOp.tmps,ht]);have e1:d6 ⟨r',h',n',d',b'⟩ ys1=d6 ⟨r,h',n',d',b'⟩ ys1:=eT fun t ht=>ha t (by simp [MOp.tmps,ht]);simp only [step,aj,au,av,e0,e1];rfl
 | defer x1 args1=>
  have e0:Opd.ev ⟨r',h',n',d',b'⟩ x1=Opd.ev ⟨r,h',n',d',b'⟩ x1:=ap fun t ht=>ha t (by simp [MOp.tmps,ht]);have e1:d6 ⟨r',h',n',d',b'⟩ args1=d6 ⟨r,h',n',d',b'⟩ args1:=eT fun t ht=>ha t (by simp [MOp.tmps,ht]);simp only [step,aj,au,av,e0,e1];rfl
 | panic x1=>
  have e0:Opd.ev ⟨r',h',n',d',b'⟩ x1=Opd.ev ⟨r,h',n',d',b'⟩ x1:=ap fun t ht=>ha t (by simp [MOp.tmps,ht]);simp only [step,aj,au,av,e0];rfl
 | Av t1 x1=>
  have e0:Opd.ev ⟨r',h',n',d',b'⟩ x1=Opd.ev ⟨r,h',n',d',b'⟩ x1:=ap fun t ht=>ha t (by simp [MOp.tmps,ht]);simp only [step,aj,au,av,e0];rfl
 | tas t1 z1 x1=>
  have e0:Opd.ev ⟨r',h',n',d',b'⟩ x1=Opd.ev ⟨r,h',n',d',b'⟩ x1:=ap fun t ht=>ha t (by simp [MOp.tmps,ht]);simp only [step,aj,au,av,e0];rfl
 | copy k1 d1 s1=>
  have e0:Opd.ev ⟨r',h',n',d',b'⟩ d1=Opd.ev ⟨r,h',n',d',b'⟩ d1:=ap fun t ht=>ha t (by simp [MOp.tmps,ht]);have e1:Opd.ev ⟨r',h',n',d',b'⟩ s1=Opd.ev ⟨r,h',n',d',b'⟩ s1:=ap fun t ht=>ha t (by simp [MOp.tmps,ht]);simp only [step,aj,au,av,e0,e1];rfl
end Uw
namespace Uw
open Go Go.RowKit
variable [Glob]
theorem Jt {x i:Nat} {r:List Nat}:qU (x::r) i=true<->x=i\/qU r i=true:=by
 rw [qU]
 cases h:Nat.beq x i with
 | true=>simp [Nat.eq_of_beq_eq_true h]
 | false=>
  have:x≠i:=by rintro rfl;simp at h
  simp [this]
theorem gP {i:Nat}:∀{l:List Nat},qU l i=true<->i∈l
 | []=>by simp [qU]
 | x::r=>by rw [Jt,gP,List.mem_cons];constructor<;>rintro (h|h)<;>simp [h]
theorem pR {E D:List Nat}:∀{l:List Nat},pI l E D=true<->∀j∈l,j∈E\/j∈D
 | []=>by simp [pI]
 | x::r=>by
  rw [pI,Bool.and_eq_true,Bool.or_eq_true,gP,gP,pR];simp
theorem yH {all:List DOp} {i:Nat}:∀{D:List Nat},waited all D i=true<->∃n∈D,∃o,all[n]? = some o/\i∈o.dep
 | []=>by simp [waited]
 | n::D=>by
  rw [waited,Bool.or_eq_true,yH];constructor
  ·rintro (h|⟨m,hm,o,h1,h2⟩)
   ·split at h
    ·rename_i o ho;exact ⟨n,by simp,o,ho,gP.1 h⟩
    ·cases h
   ·exact ⟨m,by simp [hm],o,h1,h2⟩
  ·rintro ⟨m,hm,o,h1,h2⟩
   simp at hm
   rcases hm with rfl|hm
   ·left;rw [h1];exact gP.2 h2
   ·right;exact ⟨m,hm,o,h1,h2⟩
structure Hh (l:List DOp):Prop where
 self:∀(i:Nat) (o:DOp),l[i]? = some o->∀t,o.mi.dst=some t->t∉o.mi.tmps
 Ol:∀(i:Nat) (o:DOp),l[i]? = some o->∀j∈o.dep,j<i
 noG:∀(i:Nat) (o:DOp),l[i]? = some o->o.loud=true->o.mi.g=none
 sees:∀(i j:Nat) (x y:DOp),i≠j->l[i]? = some x->l[j]? = some y->∀t,y.mi.dst=some t->x.mi.dst≠some t/\(t∈x.mi.tmps->j<i/\j∈x.dep)
theorem Ju {l:List DOp} (h:yo l=true):Hh l:=by
 unfold yo at h;rw [Bool.and_eq_true] at h;have key:∀(i:Nat) (o:DOp),l[i]? = some o->(o.dep.all (fun j=>decide (j<i))&&(!o.loud||o.mi.g.isNone)&&KG o)=true:=by
  intro i o ho;have hi:i<l.length:=by
   by_cases hh:i<l.length
   ·exact hh
   ·rw [List.getElem?_eq_none (by omega)] at ho;cases ho
  have:=List.all_eq_true.1 h.1 i (List.mem_range.2 hi)
  rwa [ho] at this
 refine ⟨?_,?_,?_,?_⟩
 ·intro i o ho t ht hm
  have:=key i o ho;rw [Bool.and_eq_true] at this;have h2:=this.2;simp only [KG,ht] at h2;have:o.mi.tmps.contains t=true:=by simpa using hm
  rw [this] at h2;simp at h2
 ·intro i o ho j hj
  have:=key i o ho;rw [Bool.and_eq_true,Bool.and_eq_true] at this;simpa using List.all_eq_true.1 this.1.1 j hj
 ·intro i o ho hl
  have:=key i o ho;rw [Bool.and_eq_true,Bool.and_eq_true,hl] at this;simpa using this.1.2
 ·intro i j x y hij hx hy t ht
  have hi:i<l.length:=by
   by_cases hh:i<l.length
   ·exact hh
   ·rw [List.getElem?_eq_none (by omega)] at hx;cases hx
  have hj:j<l.length:=by
   by_cases hh:j<l.length
   ·exact hh
   ·rw [List.getElem?_eq_none (by omega)] at hy;cases hy
  have h1:=List.all_eq_true.1 (List.all_eq_true.1 h.2 i (List.mem_range.2 hi)) j (List.mem_range.2 hj);simp only [Bool.or_eq_true,beq_iff_eq] at h1
  rcases h1 with h1|h1
  ·exact (hij h1).elim
  ·simp only [QH,hx,hy,ht,Bool.and_eq_true,Bool.or_eq_true] at h1
   refine ⟨by simpa using h1.1,fun hm=>?_⟩
   rcases h1.2 with h2|h2
   ·have:x.mi.tmps.contains t=true:=by simpa using hm
    rw [this] at h2;simp at h2
   ·exact ⟨by simpa using h2.1,gP.1 h2.2⟩
theorem ES {P:Program} {Q:aH->St->Prop} {i:MI} {st:St} {q:aH->St->Tree} (hq:il i.op=true) (h:WT P Q (dc [i] none st q)):∃v sf,oy P i st v/\du (put i.dst v st) sf/\WT P Q (q .normal sf):=by
 obtain ⟨vs,sf,j7,h1,h2,h3⟩:=sW (l2:=[]) [i] none st (by simpa using hq) (by intro t w' h' hh;simp at hh) (by simpa using h);obtain ⟨v,vs',rfl,g1,g2⟩:=h1;obtain ⟨rfl,g2⟩:=g2;exact ⟨v,sf,g1,g2,h3⟩
theorem oy.agree {P:Program} {i:MI} {st st1:St} {v:V} (ha:∀t∈i.tmps,look st1.regs t=look st.regs t) (hh:st1.heap=st.heap) (h:oy P i st v):oy P i st1 v:=
 fun st' g1 g2=>h st' (fun t ht=>(g1 t ht).trans (ha t ht)) (g2.trans hh)
theorem jL {dst:Option Nat} {v:V} {st:St} {t:Nat}:look (put dst v st).regs t=if dst=some t then some v else look st.regs t:=by
 cases dst with
 | none=>simp [Uw.put]
 | some d=>simp only [Uw.put,ai,Option.some.injEq]
structure Om (P:Program) (all:List DOp) (D E:List Nat) (S:St) (k:Nat):Prop where
 op:∀(i:Nat) (o:DOp),i<k->all[i]? = some o->o.loud=false->i∈E->waited all D i=false->∃v,oy P o.mi S v/\∀d,o.mi.dst=some d->look S.regs d=some v
 sat:∀(i:Nat) (o:DOp),i<k->all[i]? = some o->o.loud=false->(∀j∈o.dep,j∈E\/j∈D)->i∈E
structure Ext (all:List DOp) (D E E' : List Nat) (st st' : St):Prop where
 sub:∀i,i∈E->i∈E'
 quiet:∀(i:Nat) (o:DOp),all[i]? = some o->o.loud=true->i∈E'->i∈E
 same:∀t,(∀(i:Nat) (o:DOp),all[i]? = some o->o.mi.dst=some t->i∈E'->i∈E)->look st'.regs t=look st.regs t
 heap:st'.heap=st.heap
 next:st'.next=st.next
 defers:st'.defers=st.defers
 base:st'.base=st.base
theorem ET {P:Program} {Q:aH->St->Prop} {all:List DOp} (hd:Hh all) (hquiet:∀(i:Nat) (o:DOp),all[i]? = some o->o.loud=false->il o.mi.op=true) {D:List Nat} {q:List Nat->St->Tree} :
  ∀(l:List DOp) (i:Nat) (E:List Nat) (st:St),l=all.drop i->(∀j∈E,j<i\/True)->Om P all D E st i->WT P Q (ov all D l i E st q)->
   ∃E' st',Om P all D E' st' all.length/\Ext all D E E' st st'/\WT P Q (q E' st'):=by
 intro l
 induction l with
 | nil=>
  intro i E st hl _ hp h;have hi:all.length<=i:=by
   have:=congrArg List.length hl;simp at this;omega
  exact ⟨E,st,⟨fun j o hj=>hp.op j o (by omega),fun j o hj=>hp.sat j o (by omega)⟩,⟨fun _ h=>h,fun _ _ _ _ h=>h,fun _ _=>rfl,rfl,rfl,rfl,rfl⟩,h⟩
 | cons o r ih=>
  intro i E st hl _ hp h;have ho:all[i]? = some o:=by
   have:(all.drop i)[0]? = some o:=by rw [<- hl];rfl
   rw [List.getElem?_drop] at this;simpa using this
  have hr:r=all.drop (i+1):=by
   rw [<- List.tail_drop,<- hl];rfl
  have UA:=hd.Ol i o ho;simp only [ov] at h
  split at h
  ·-- a loud one
   rename_i Bm;refine ih (i+1) E st hr (fun _ _=>.inr trivial) ⟨?_,?_⟩ h
   ·intro j oj hj hoj hlj
    by_cases hji:j=i
    ·subst hji;rw [ho] at hoj;injection hoj with hoj;subst hoj;rw [Bm] at hlj;cases hlj
    ·exact hp.op j oj (by omega) hoj hlj
   ·intro j oj hj hoj hlj
    by_cases hji:j=i
    ·subst hji;rw [ho] at hoj;injection hoj with hoj;subst hoj;rw [Bm] at hlj;cases hlj
    ·exact hp.sat j oj (by omega) hoj hlj
  ·rename_i Bm
   have hqo:=hquiet i o ho Bm
   split at h
   ·rename_i hmem
    have hmem:=gP.1 hmem
    split at h
    ·rename_i hw
     refine ih (i+1) E st hr (fun _ _=>.inr trivial) ⟨?_,?_⟩ h
     ·intro j oj hj hoj hlj hje hwj
      by_cases hji:j=i
      ·subst hji;rw [hw] at hwj;cases hwj
      ·exact hp.op j oj (by omega) hoj hlj hje hwj
     ·intro j oj hj hoj hlj hdj
      by_cases hji:j=i
      ·subst hji;exact hmem
      ·exact hp.sat j oj (by omega) hoj hlj hdj
    ·rename_i hw
     obtain ⟨v,sf,g1,g2,g3⟩:=ES hqo h;obtain ⟨g4,g5⟩:=g3;refine ih (i+1) E st hr (fun _ _=>.inr trivial) ⟨?_,?_⟩ g5
     ·intro j oj hj hoj hlj hje hwj
      by_cases hji:j=i
      ·subst hji;rw [ho] at hoj;injection hoj with hoj;subst hoj
       refine ⟨v,g1,fun d hdst=>?_⟩;rw [hdst] at g4;simp only at g4;rw [<- g4,g2.regs d,jL,if_pos hdst]
      ·exact hp.op j oj (by omega) hoj hlj hje hwj
     ·intro j oj hj hoj hlj hdj
      by_cases hji:j=i
      ·subst hji;exact hmem
      ·exact hp.sat j oj (by omega) hoj hlj hdj
   ·rename_i hmem
    have hmem:i∉E:=fun hh=>by rw [gP.2 hh] at hmem;cases hmem
    split at h
    ·rename_i hall
     have hall:=pR.1 hall;obtain ⟨v,sf,g1,g2,g3⟩:=ES hqo h
     -- what the new value does not touch
     have hlook:∀t,o.mi.dst≠some t->look sf.regs t=look st.regs t:=fun t ht=>by rw [g2.regs t,jL,if_neg ht]
     have tI:∀(j:Nat) (oj:DOp),all[j]? = some oj->j<=i->∀t∈oj.mi.tmps,look sf.regs t=look st.regs t:=by
      intro j oj hoj hji t ht;refine hlook t (fun hdst=>?_);by_cases hij:j=i
      ·subst hij
       rw [ho] at hoj;injection hoj with hoj;subst hoj
       -- an operation that reads what it writes: its own temporary;then agreement is asked of the state ahead of it
       exact absurd ht (hd.self j o ho t hdst)
      ·have:=(hd.sees j i oj o hij hoj ho t hdst).2 ht
       omega
     have hph:Om P all D (i::E) sf (i+1):=by
      refine ⟨?_,?_⟩
      ·intro j oj hj hoj hlj hje hwj
       have hheap:sf.heap=st.heap:=by rw [g2.heap];cases o.mi.dst<;>rfl
       by_cases hji:j=i
       ·subst hji;rw [ho] at hoj;injection hoj with hoj;subst hoj
        exact ⟨v,g1.agree (tI j o ho (Nat.le_refl _)) hheap,fun d hdst=>by rw [g2.regs d,jL,if_pos hdst]⟩
       ·have VB : j∈E:=by simpa [hji] using hje
        obtain ⟨u,u1,u2⟩:=hp.op j oj (by omega) hoj hlj VB hwj;refine ⟨u,u1.agree (tI j oj hoj (by omega)) hheap,fun d hdst=>?_⟩;rw [hlook d (fun UB=>(hd.sees j i oj o hji hoj ho d UB).1 hdst)];exact u2 d hdst
      ·intro j oj hj hoj hlj hdj
       by_cases hji:j=i
       ·simp [hji]
       ·have:=hp.sat j oj (by omega) hoj hlj (fun m hm=>by
         have hmj:=hd.Ol j oj hoj m hm
         rcases hdj m hm with h1|h1
         ·simp at h1
          rcases h1 with rfl|h1
          ·omega
          ·exact .inl h1
         ·exact .inr h1)
        simp [this]
     obtain ⟨E',st',p1,p2,p3⟩:=ih (i+1) (i::E) sf hr (fun _ _=>.inr trivial) hph g3
     ·refine ⟨E',st',p1,⟨fun j hj=>p2.sub j (by simp [hj]),fun j oj hoj hlj hje=>by
       have:=p2.quiet j oj hoj hlj hje;simp at this
       rcases this with rfl|this
       ·rw [ho] at hoj;injection hoj with hoj;subst hoj;rw [Bm] at hlj;cases hlj
       ·exact this,?_,?_,?_,?_,?_⟩,p3⟩
      ·intro t ht
       rw [p2.same t (fun j oj hoj hdst hje=>by simp [ht j oj hoj hdst hje])];refine hlook t (fun hdst=>hmem (ht i o ho hdst (p2.sub i (by simp))))
      ·rw [p2.heap,g2.heap];cases o.mi.dst<;>rfl
      ·rw [p2.next,g2.next];cases o.mi.dst<;>rfl
      ·rw [p2.defers,g2.defers];cases o.mi.dst<;>rfl
      ·rw [p2.base,g2.base];cases o.mi.dst<;>rfl
    ·rename_i hall
     refine ih (i+1) E st hr (fun _ _=>.inr trivial) ⟨?_,?_⟩ h
     ·intro j oj hj hoj hlj hje hwj
      by_cases hji:j=i
      ·subst hji;exact (hmem hje).elim
      ·exact hp.op j oj (by omega) hoj hlj hje hwj
     ·intro j oj hj hoj hlj hdj
      by_cases hji:j=i
      ·subst hji;rw [ho] at hoj;injection hoj with hoj;subst hoj
       rw [pR.2 hdj] at hall;cases hall
      ·exact hp.sat j oj (by omega) hoj hlj hdj
end Uw
namespace Uw
open Go Go.RowKit
variable [Glob]
theorem tJ:∀(ops:List Oper) (mi:List MI),mi.length=ops.length->(ed ops mi).length=ops.length/\∀(i:Nat) (o:DOp),(ed ops mi)[i]? = some o->∃oi,ops[i]? = some oi/\mi[i]? = some o.mi/\o.dep=B8 oi/\o.loud = !il o.mi.op
 | [],[],_=>⟨rfl,fun i o h=>by simp [ed] at h⟩
 | [],_::_,h=>by simp at h
 | _::_,[],h=>by simp at h
 | x::ops,y::mi,h=>by
  obtain ⟨h1,h2⟩:=tJ ops mi (by simpa using h);refine ⟨by simp [ed,h1],fun i o ho=>?_⟩
  cases i with
  | zero=>simp [ed] at ho;subst ho;exact ⟨x,rfl,rfl,rfl,rfl⟩
  | succ i=>simp [ed] at ho;simpa using h2 i o ho
theorem tK {o:Oper} {j:Nat}:j∈B8 o<->∃e∈o.after,Region.binds .any e=true/\e.on=j:=by
 simp only [B8,List.mem_map,List.mem_filter,Array.mem_toList_iff];constructor
 ·rintro ⟨e,⟨h1,h2⟩,h3⟩;exact ⟨e,h1,h2,h3⟩
 ·rintro ⟨e,h1,h2,h3⟩;exact ⟨e,⟨h1,h2⟩,h3⟩
theorem yI {P:Program} {Q:aH->St->Prop}:∀{l:List Tree},WT P Q (Ig l)->l≠[]/\∀t∈l,WT P Q t
 | [],h=>h.elim
 | [t],h=>⟨by simp,fun u hu=>by simp at hu;subst hu;exact h⟩
 | t::t'::r,h=>by
  obtain ⟨h1,h2⟩:=h;obtain ⟨_,h3⟩:=yI h2;refine ⟨by simp,fun u hu=>?_⟩;rw [List.mem_cons] at hu
  rcases hu with rfl|hu
  ·exact h1
  ·exact h3 u hu
theorem vR {E D:List Nat} {f:Nat->DOp->Tree}:∀{l:List DOp} {k:Nat} {T:Tree},T∈wJ E D l k f<->∃i o,l[i]? = some o/\o.loud=true/\qU D (k+i)=false/\pI o.dep E D=true/\T=f (k+i) o
 | [],k,T=>by simp [wJ]
 | x::l,k,T=>by
  have ih:=@vR E D f l (k+1) T;have shift:(∃i o,l[i]? = some o/\o.loud=true/\qU D (k+1+i)=false/\pI o.dep E D=true/\T=f (k+1+i) o)->∃i o,(x::l)[i]? = some o/\o.loud=true/\qU D (k+i)=false/\pI o.dep E D=true/\T=f (k+i) o:=by
   rintro ⟨i,o,h1,h2,h3,h4,h5⟩;exact ⟨i+1,o,by simpa using h1,h2,by rw [show k+(i+1)=k+1+i by omega];exact h3,h4,by rw [show k+(i+1)=k+1+i by omega];exact h5⟩
  rw [wJ];constructor
  ·intro h
   split at h
   ·rename_i hb
    simp only [Bool.and_eq_true,Bool.not_eq_true'] at hb;rw [List.mem_cons] at h
    rcases h with rfl|h
    ·exact ⟨0,x,rfl,hb.1.1,by simpa using hb.1.2,hb.2,rfl⟩
    ·exact shift (ih.1 h)
   ·exact shift (ih.1 h)
  ·rintro ⟨i,o,h1,h2,h3,h4,h5⟩
   cases i with
   | zero=>
    simp at h1;subst h1;simp only [Nat.add_zero] at h3 h5;rw [h2,h3,h4];simp [h5]
   | succ i=>
    have:T∈wJ E D l (k+1) f:=ih.2 ⟨i,o,by simpa using h1,h2,by rw [show k+1+i=k+(i+1) by omega];exact h3,h4,by rw [show k+1+i=k+(i+1) by omega];exact h5⟩
    split
    ·exact List.mem_cons_of_mem _ this
    ·exact this
theorem Bn {D:List Nat}:∀{l:List DOp} {k:Nat},yj D l k=true->∀(i:Nat) (o:DOp),l[i]? = some o->o.loud=true->k+i∈D
 | [],k,_,i,o,h,_=>by simp at h
 | x::l,k,hn,i,o,h,hl=>by
  rw [yj,Bool.and_eq_true] at hn
  cases i with
  | zero=>
   simp at h;subst h;rw [hl] at hn;simpa using gP.1 (by simpa using hn.1)
  | succ i=>
   have:=Bn hn.2 i o (by simpa using h) hl
   rwa [show k+1+i=k+(i+1) by omega] at this
theorem tL {all:List DOp}:∀{r:fp} {t:Nat} {v:V},look (keepR all r) t=some v->look r t=some v/\∀(i:Nat) (o:DOp),all[i]? = some o->o.mi.dst≠some t
 | [],t,v,h=>by simp [keepR,look] at h
 | (t0,u)::r,t,v,h=>by
  rw [keepR] at h
  split at h
  ·rename_i hb
   obtain ⟨h1,h2⟩:=tL h;refine ⟨?_,h2⟩;rw [ai];by_cases ht:t0=t
   ·subst ht
    exfalso;obtain ⟨o,ho,hd⟩:=List.any_eq_true.1 hb;obtain ⟨i,hi⟩:=List.getElem?_of_mem ho;unfold Ih at hd
    split at hd
    ·rename_i d hdst
     have:=Nat.eq_of_beq_eq_true hd;subst this;exact h2 i o hi hdst
    ·cases hd
   ·rw [if_neg ht];exact h1
  ·rename_i hb
   rw [ai] at h;by_cases ht:t0=t
   ·subst ht
    rw [if_pos rfl] at h;refine ⟨by rw [ai,if_pos rfl];exact h,fun i o ho hdst=>?_⟩;have:all.any (Ih t0)=true:=by
     refine List.any_eq_true.2 ⟨o,List.mem_of_getElem? ho,?_⟩;unfold Ih;rw [hdst];exact Nat.beq_refl _
    rw [hb] at this;cases this
   ·rw [if_neg ht] at h
    obtain ⟨h1,h2⟩:=tL h;exact ⟨by rw [ai,if_neg ht];exact h1,h2⟩
noncomputable def Bo (all:List DOp) (r0:fp) (m:Nat) (E D:List Nat) (st:St) (q:aH->St->Tree):Tree:=
 match m with
 | 0=>match yj D all 0 with
  | true=>q .normal st
  | false=>.fail
 | m+1=>Ig (wJ E D all 0 fun i o=>dc [o.mi] none st fun e B6=>match e with
  | .normal=>yk all r0 m E (i::D) B6 q
  | e=>q e { B6 with regs:=r0 })
theorem EU (all:List DOp) (r0:fp) (m:Nat) (E D:List Nat) (st:St) (q:aH->St->Tree):yk all r0 m E D st q=ov all D all 0 E st fun E' st'=>Bo all r0 m E' D st' q:=by
 cases m<;>rfl
structure Oo (all:List DOp) (st0:St) (listed:Array Bool) (E D:List Nat) (S s:St):Prop where
 none:∀t,(∀(j:Nat) (o:DOp),all[j]? = some o->listed.getD j false=true->o.mi.dst≠some t)->look s.regs t=look st0.regs t
 one:∀(j:Nat) (o:DOp) (t:Nat),all[j]? = some o->listed.getD j false=true->o.mi.dst=some t->look s.regs t=look S.regs t
 other:∀t,(∀(j:Nat) (o:DOp),all[j]? = some o->o.mi.dst≠some t)->look S.regs t=look st0.regs t
 qE:∀(j:Nat) (o:DOp),all[j]? = some o->o.loud=false->listed.getD j false=true->j∈E
 lD:∀(j:Nat) (o:DOp),all[j]? = some o->o.loud=true->(listed.getD j false=true<->j∈D)
 Dl:∀j∈D,∃o:DOp,all[j]? = some o/\o.loud=true
 heap:s.heap=S.heap
 next:s.next=S.next
 defers:s.defers=S.defers
 base:s.base=S.base
section
variable {P : Program} {n : Nat} {pol : Pol} {ops : List Oper} {mi : List MI} {Q : aH -> St -> Prop} {q : aH -> St -> Tree} {w0 : World} {gs : Fr} {st0 : St} {c0 : Cx}
theorem Hj (hc:dN P n pol ops ops=some mi) (hd:Hh (ed ops mi)) :
  ∀(d m:Nat) (listed:Array Bool) (E D:List Nat) (S s:St) (c:Cx) (a:Act),left listed ops.length=d->HeadInv .any ops.toArray ops.length listed->Om P (ed ops mi) D E S (ed ops mi).length->Oo (ed ops mi) st0 listed E D S s->c.B=c0.B->c.J0=c0.J0->Rel c w0 n gs s a->
   WT P Q (Bo (ed ops mi) (keepR (ed ops mi) st0.regs) m E D S q)->wpAny P .any ops.toArray (Came P Q q c0 w0 n gs) d listed a c.w:=by
 obtain ⟨hlen,hget⟩:=qZ hc;obtain ⟨hall,hmk⟩:=tJ ops mi hlen;generalize hA:ed ops mi=all at hd hall hmk;have hex:∀i,i<ops.length->∃o,all[i]? = some o:=fun i hi=>⟨all[i]'(by omega),List.getElem?_eq_getElem (by omega)⟩
 have hquiet:∀(i:Nat) (o:DOp),all[i]? = some o->o.loud=false->il o.mi.op=true:=by
  intro i o ho hl;obtain ⟨oi,h1,h2,h3,h4⟩:=hmk i o ho;rw [hl] at h4;simpa using h4.symm
 intro d
 induction d with
 | zero=>
  intro m listed E D S s c a hl hinv hph hact hB hJ r hW;have hlist:=rZ hl;have tH:Region.ready .any ops.toArray listed=[]:=by
   rw [List.eq_nil_iff_forall_not_mem];intro i hi;obtain ⟨h1,oi,hoi,_⟩:=mem_ready.1 hi;have hilt:i<ops.length:=by simpa using (Array.getElem?_eq_some_iff.1 hoi).1
   have h2:=hlist i hilt;rw [getD_both h1] at h2;cases h2
  refine ⟨tH,?_⟩
  cases m with
  | zero=>
   simp only [Bo] at hW
   split at hW
   ·have hsame:du s S:=by
     refine ⟨fun t=>?_,hact.heap.symm,hact.next.symm,hact.defers.symm,hact.base.symm⟩;by_cases hdst:∃(j:Nat) (o:DOp),all[j]? = some o/\o.mi.dst=some t
     ·obtain ⟨j,o,ho,ht⟩:=hdst
      have hj:j<ops.length:=by
       by_cases hh:j<all.length
       ·omega
       ·rw [List.getElem?_eq_none (by omega)] at ho;cases ho
      exact (hact.one j o t ho (hlist j hj) ht).symm
     ·rw [hact.none t (fun j o ho _ ht=>hdst ⟨j,o,ho,ht⟩),hact.other t (fun j o ho ht=>hdst ⟨j,o,ho,ht⟩)]
    exact ⟨c,.normal,S,hB,hJ,rfl,trivial,r.same hsame,hW⟩
   ·exact hW.elim
  | succ m=>
   exfalso;simp only [Bo] at hW;obtain ⟨hne,_⟩:=yI hW;apply hne;rw [List.eq_nil_iff_forall_not_mem];intro T hT;obtain ⟨i,o,ho,hlo,hnd,_⟩:=vR.1 hT;rw [Nat.zero_add] at hnd;have hi:i<ops.length:=by
    by_cases hh:i<all.length
    ·omega
    ·rw [List.getElem?_eq_none (by omega)] at ho;cases ho
   have:=gP.2 ((hact.lD i o ho hlo).1 (hlist i hi));rw [hnd] at this;cases this
 | succ d ih=>
  intro m listed E D S s c a hl hinv hph hact hB hJ r hW;obtain ⟨i0,hi0,hu0,hlo0⟩:=j8 (listed:=listed) (h:=ops.length) (by omega);have hsz:=hinv.size;have VA:listed.size=ops.length:=by simpa using hsz
  have tH:i0∈Region.ready .any ops.toArray listed:=by
   rw [mem_ready];refine ⟨getD_in (by omega) hu0,?_⟩;obtain ⟨o0,ho0⟩:=hex i0 hi0;obtain ⟨oi,h1,h2,h3,h4⟩:=hmk i0 o0 ho0;refine ⟨oi,by simpa using h1,fun e he hb=>?_⟩;exact hlo0 _ (hd.Ol i0 o0 ho0 e.on (by rw [h3];exact tK.2 ⟨e,he,hb,rfl⟩))
  refine ⟨fun h0=>(by rw [h0] at tH;cases tH),?_⟩;intro i hi;obtain ⟨hui,oi,hoi,Lh⟩:=mem_ready.1 hi;have ER:=getD_both hui;have hoi' : ops[i]? = some oi:=by simpa using hoi
  have hilt:i<ops.length:=by
   by_cases hh:i<ops.length
   ·exact hh
   ·rw [List.getElem?_eq_none (by omega)] at hoi';cases hoi'
  obtain ⟨o,ho⟩:=hex i hilt;obtain ⟨oi2,h1,hmi,UA,Bm⟩:=hmk i o ho;have:oi2=oi:=Option.some.inj (h1.symm.trans hoi');subst this;obtain ⟨x,hx,hg,hop,hdst,hdn⟩:=hget i oi2 hoi';have hxo:x=o.mi:=Option.some.inj (hx.symm.trans hmi);subst hxo;have hdl:∀j∈o.dep,listed.getD j false=true:=by
   intro j hj;rw [UA] at hj;obtain ⟨e,he,hb,rfl⟩:=tK.1 hj;exact Lh e he hb
  have Ll:∀j∈o.dep,j∈E\/j∈D:=by
   intro j hj;have hji:=hd.Ol i o ho j hj;obtain ⟨oj,hoj⟩:=hex j (by omega)
   cases hlj:oj.loud with
   | true=>exact .inr ((hact.lD j oj hoj hlj).1 (hdl j hj))
   | false=>exact .inl (hact.qE j oj hoj hlj (hdl j hj))
  have tI:∀t∈o.mi.tmps,look s.regs t=look S.regs t:=by
   intro t ht;by_cases hdst:∃(j:Nat) (oj:DOp),all[j]? = some oj/\oj.mi.dst=some t
   ·obtain ⟨j,oj,hoj,htj⟩:=hdst
    by_cases hji:j=i
    ·subst hji
     rw [ho] at hoj;injection hoj with hoj;subst hoj
     exact absurd ht (hd.self j o ho t htj)
    ·have:=(hd.sees i j o oj (Ne.symm hji) ho hoj t htj).2 ht
     exact hact.one j oj t hoj (hdl j this.2) htj
   ·rw [hact.none t (fun j oj hoj _ htj=>hdst ⟨j,oj,hoj,htj⟩),hact.other t (fun j oj hoj htj=>hdst ⟨j,oj,hoj,htj⟩)]
  have hleft:left (listed.setIfInBounds i true) ops.length=d:=by
   have:=yG (listed:=listed) (i:=i) (by omega) ER (h:=ops.length) hilt;omega
  have hinv':=hinv.set hi hilt;have hii:(listed.setIfInBounds i true).getD i false=true:=by simp [show i<listed.size by omega]
  have pP:∀j,(listed.setIfInBounds i true).getD j false=true->j=i\/listed.getD j false=true:=by
   intro j hj;by_cases hji:j=i
   ·exact .inl hji
   ·rw [getD_set_ne false (Ne.symm hji)] at hj;exact .inr hj
  cases hlo:o.loud with
  | false=>
   have hiE:=hph.sat i o (by omega) ho hlo Ll;have hwd:waited all D i=false:=by
    cases hw:waited all D i with
    | false=>rfl
    | true=>
     obtain ⟨nn,hn,on,hon,hin⟩:=yH.1 hw;obtain ⟨on',VC,VD⟩:=hact.Dl nn hn;have:on' = on:=Option.some.inj (VC.symm.trans hon);subst this;have hnl:=(hact.lD nn on' hon VD).2 hn;obtain ⟨oo,k1,k2,k3,k4⟩:=hmk nn on' hon;rw [k3] at hin;obtain ⟨e,he,hb,heq⟩:=tK.1 hin;have:=hinv.closed nn oo (by simpa using k1) hnl e he hb;rw [heq,ER] at this;cases this
   obtain ⟨v,hok,hvS⟩:=hph.op i o (by omega) ho hlo hiE hwd;have Is : ∀u,(∀dd,o.mi.dst=some dd->look S.regs dd=some u)->Oo all st0 (listed.setIfInBounds i true) E D S (put o.mi.dst u s):=by
    intro u hu;have hput:(put o.mi.dst u s).heap=s.heap/\(put o.mi.dst u s).next=s.next/\(put o.mi.dst u s).defers=s.defers/\(put o.mi.dst u s).base=s.base:=by
     cases o.mi.dst<;>simp [Uw.put]
    refine ⟨?_,?_,hact.other,?_,?_,hact.Dl,by rw [hput.1,hact.heap],by rw [hput.2.1,hact.next],by rw [hput.2.2.1,hact.defers],by rw [hput.2.2.2,hact.base]⟩
    ·intro t ht
     rw [jL,if_neg (ht i o ho hii)];exact hact.none t (fun j oj hoj hlj=>ht j oj hoj (getD_set_true hlj))
    ·intro j oj t hoj hlj htj
     by_cases hji:j=i
     ·subst hji
      rw [ho] at hoj;injection hoj with hoj;subst hoj
      rw [jL,if_pos htj,hu t htj]
     ·rw [jL,if_neg (hd.sees i j o oj (Ne.symm hji) ho hoj t htj).1]
      exact hact.one j oj t hoj ((pP j hlj).resolve_left hji) htj
    ·intro j oj hoj hlj hl'
     by_cases hji:j=i
     ·subst hji;exact hiE
     ·exact hact.qE j oj hoj hlj ((pP j hl').resolve_left hji)
    ·intro j oj hoj hlj
     have hji:j≠i:=by rintro rfl;rw [ho] at hoj;injection hoj with hoj;subst hoj;rw [hlo] at hlj;cases hlj
     rw [getD_set_ne false (Ne.symm hji)];exact hact.lD j oj hoj hlj
   unfold wpOp;simp only [hoi]
   rcases hok s tI hact.heap with ⟨hgr,hstep⟩|⟨hgr,rfl⟩
   ·rw [kM r hg hgr]
    simp only [if_true];left;have hW2:=hstep (fun _ z=>z=put (some 0) v s) (fun v' s'=>Tree.done .normal (put (some 0) v' s')) (fun _ _=>.fail) rfl;refine step_ok (xx:=fun _ _=>Tree.fail) r hop ?_ (fun c' st' d ch _ _ _ _ _ hq=>False.elim hq) hW2;intro c' s' a' v' gv hB' hJ' htm r' wO hv' hq;simp only [WT,Uw.put,St.mk.injEq,List.cons.injEq,Prod.mk.injEq,true_and] at hq;obtain ⟨⟨rfl,e1⟩,e2,e3,e4,e5⟩:=hq;have hss:s' = s:=by cases s';cases s;simp_all
    subst hss;refine ih m _ E D S (put o.mi.dst v' s') c' _ hleft hinv' hph (Is v' hvS) (hB'.trans hB) (hJ'.trans hJ) ?_ hW;rw [hdst];exact r'.put hdn hv'
   ·rw [kM r hg hgr]
    simp only [Bool.false_eq_true,if_false];refine ih m _ E D S (put o.mi.dst (.tuple []) s) c _ hleft hinv' hph (Is (.tuple []) hvS) hB hJ ?_ hW;rw [hdst];exact r.put hdn (by simp [aA,ax,undef])
  | true=>
   have hnG:=hd.noG i o ho hlo;have hiD:i∉D:=fun hh=>by
    have:=(hact.lD i o ho hlo).2 hh;rw [ER] at this;cases this
   cases m with
   | zero=>
    exfalso;simp only [Bo] at hW
    split at hW
    ·rename_i hn
     have:=Bn hn i o ho hlo;rw [Nat.zero_add] at this;exact hiD this
    ·exact hW
   | succ m=>
    simp only [Bo] at hW;have hmem:=(yI hW).2 _ (vR.2 ⟨i,o,ho,hlo,by
     rw [Nat.zero_add]
     cases hh:qU D i with
     | false=>rfl
     | true=>exact (hiD (gP.1 hh)).elim,pR.2 Ll,rfl⟩)
    rw [Nat.zero_add] at hmem;simp only [qP,pG,B5,hnG] at hmem;have Oq:∀t∈o.mi.op.tmps,look s.regs t=look S.regs t:=fun t ht=>tI t (by simp [MI.tmps,ht]);rw [<- Hg Oq hact.heap hact.next hact.defers hact.base] at hmem;unfold wpOp;simp only [hoi];have hwant:Region.wanted oi2 (yielded ops.toArray a.tmps)=true:=kM r hg (by simp [sw,hnG]);rw [hwant];simp only [if_true];left;refine step_ok r hop ?_ ?_ hmem
    ·intro c' s' a' v gv hB' hJ' htm r' wO hv hq
     simp only [] at hq;rw [EU] at hq;obtain ⟨E',S',p1,p2,p3⟩:=ET hd hquiet all 0 E (put o.mi.dst v (S.sX s')) rfl (fun _ _=>.inr trivial) ⟨fun j _ hj=>by omega,fun j _ hj=>by omega⟩ hq;have QL:∀t,look (put o.mi.dst v (S.sX s')).regs t=if o.mi.dst=some t then some v else look S.regs t:=fun t=>by rw [jL];rfl
     have hold:∀(j:Nat) (oj:DOp) (t:Nat),all[j]? = some oj->(listed.setIfInBounds i true).getD j false=true->oj.mi.dst=some t->look S'.regs t=look (put o.mi.dst v (S.sX s')).regs t:=by
      intro j oj t hoj hlj htj;refine p2.same t (fun j' oj' Lm VF hjE=>?_);have hjj:j' = j:=by
       by_cases hjj:j' = j
       ·exact hjj
       ·exact ((hd.sees j' j oj' oj hjj Lm hoj t htj).1 VF).elim
      subst hjj;rw [hoj] at Lm;injection Lm with Lm;subst Lm
      by_cases hji:j' = i
      ·subst hji
       exact p2.quiet j' oj hoj (by rw [ho] at hoj;injection hoj with hoj;subst hoj;exact hlo) hjE
      ·cases UC : oj.loud with
       | false=>exact hact.qE j' oj hoj UC ((pP j' hlj).resolve_left hji)
       | true=>exact p2.quiet j' oj hoj UC hjE
     have hput:(put o.mi.dst v s').heap=s'.heap/\(put o.mi.dst v s').next=s'.next/\(put o.mi.dst v s').defers=s'.defers/\(put o.mi.dst v s').base=s'.base:=by
      cases o.mi.dst<;>simp [Uw.put]
     have Iu:(put o.mi.dst v (S.sX s')).heap=s'.heap/\(put o.mi.dst v (S.sX s')).next=s'.next/\(put o.mi.dst v (S.sX s')).defers=s'.defers/\(put o.mi.dst v (S.sX s')).base=s'.base:=by
      cases o.mi.dst<;>simp [Uw.put,St.sX]
     have Is : Oo all st0 (listed.setIfInBounds i true) E' (i::D) S' (put o.mi.dst v s'):=by
      refine ⟨?_,?_,?_,?_,?_,?_,by rw [hput.1,p2.heap,Iu.1],by rw [hput.2.1,p2.next,Iu.2.1],by rw [hput.2.2.1,p2.defers,Iu.2.2.1],by rw [hput.2.2.2,p2.base,Iu.2.2.2]⟩
      ·intro t ht
       rw [jL,if_neg (ht i o ho hii),wO];exact hact.none t (fun j oj hoj hlj=>ht j oj hoj (getD_set_true hlj))
      ·intro j oj t hoj hlj htj
       rw [hold j oj t hoj hlj htj,QL,jL,wO];by_cases hji:j=i
       ·subst hji
        rw [ho] at hoj;injection hoj with hoj;subst hoj
        rw [if_pos htj,if_pos htj]
       ·have hne:=(hd.sees i j o oj (Ne.symm hji) ho hoj t htj).1
        rw [if_neg hne,if_neg hne];exact hact.one j oj t hoj ((pP j hlj).resolve_left hji) htj
      ·intro t ht
       rw [p2.same t (fun j oj hoj htj _=>(ht j oj hoj htj).elim),QL,if_neg (ht i o ho)];exact hact.other t ht
      ·intro j oj hoj hlj hl'
       have hji:j≠i:=by rintro rfl;rw [ho] at hoj;injection hoj with hoj;subst hoj;rw [hlo] at hlj;cases hlj
       exact p2.sub j (hact.qE j oj hoj hlj ((pP j hl').resolve_left hji))
      ·intro j oj hoj hlj
       by_cases hji:j=i
       ·subst hji;simp [hii]
       ·rw [getD_set_ne false (Ne.symm hji),hact.lD j oj hoj hlj]
        simp [hji]
      ·intro j hj
       simp at hj
       rcases hj with rfl|hj
       ·exact ⟨o,ho,hlo⟩
       ·exact hact.Dl j hj
     refine ih m _ E' (i::D) S' (put o.mi.dst v s') c' _ hleft hinv' p1 Is (hB'.trans hB) (hJ'.trans hJ) ?_ p3;rw [hdst];exact r'.put hdn hv
    ·intro c' s' dd ch hB' hJ' r' wO hex' hq
     simp only [] at hq;refine ⟨c',.panic dd,_,hB'.trans hB,hJ'.trans hJ,rfl,hex',?_,hq⟩;refine ⟨r'.heap,r'.hrel,r'.size,?_,r'.frames,r'.mK,r'.base,r'.defers⟩;intro t v hv;obtain ⟨k1,k2⟩:=tL hv;rw [<- hact.none t (fun j oj hoj _=>k2 j oj hoj)] at k1;exact r'.regs t v (by rw [wO];exact k1)
theorem Jv (W:WPS P) {id fuel:Nat} {c:Cx} {a:Act} (hdf:W.dfr=true\/ops.all uz=true) (hm:P.follows .mixedOrders=true) (hc:dN P n pol ops ops=some mi) (hd:yo (ed ops mi)=true) (r:Rel c w0 n gs st0 a)
  (hw:WT P Q (yk (ed ops mi) (keepR (ed ops mi) st0.regs) fuel [] [] st0 q)):W.W (Code.region id ops.toArray true) (Came P Q q c w0 n gs) a c.w:=by
 have hd:=Ju hd;obtain ⟨hlen,hget⟩:=qZ hc;obtain ⟨hall,hmk⟩:=tJ ops mi hlen;have hquiet:∀(i:Nat) (o:DOp),(ed ops mi)[i]? = some o->o.loud=false->il o.mi.op=true:=by
  intro i o ho hl;obtain ⟨oi,h1,h2,h3,h4⟩:=hmk i o ho;rw [hl] at h4;simpa using h4.symm
 refine W.any hm CJ (by simpa using hdf) ?_;have hbel:Below c.w.heap.size c.w { c.w with drawn:=c.w.drawn+1 }:=⟨rfl,rfl,rfl,Nat.le_refl _,fun _ _=>rfl⟩
 have r1:=r.grow hbel;have hnone:∀j,(Array.replicate ops.toArray.size false).getD j false=false:=fun j=>getD_replicate_false _ j;have hl:∀k,left (Array.replicate ops.toArray.size false) k=k:=by
  intro k
  induction k with
  | zero=>rfl
  | succ k ih=>simp only [left,ih,hnone,Bool.false_eq_true,if_false]
 rw [EU] at hw;obtain ⟨E',S',p1,p2,p3⟩:=ET hd hquiet (ed ops mi) 0 [] st0 rfl (fun _ _=>.inr trivial) ⟨fun j _ hj=>by omega,fun j _ hj=>by omega⟩ hw;have hact:Oo (ed ops mi) st0 (Array.replicate ops.toArray.size false) E' [] S' st0:=
  ⟨fun _ _=>rfl,fun j o t _ hl'=>(by rw [hnone] at hl';cases hl'),fun t ht=>p2.same t (fun j o ho hdst _=>(ht j o ho hdst).elim),fun j o _ _ hl'=>(by rw [hnone] at hl';cases hl'),fun j o _ _=>⟨fun hl'=>(by rw [hnone] at hl';cases hl'),fun h=>(by cases h)⟩,fun j hj=>(by cases hj),p2.heap.symm,p2.next.symm,p2.defers.symm,p2.base.symm⟩
 have:=Hj (c0:=c) (gs:=gs) (w0:=w0) (st0:=st0) hc hd ops.length fuel (Array.replicate ops.toArray.size false) E' [] S' st0 { c with w:={ c.w with drawn:=c.w.drawn+1 } } a (hl _)
  ⟨by simp,fun j oj _ hl'=>(by rw [hnone] at hl';cases hl'),fun t _ ht=>getD_in (by simpa using ht) (hnone t)⟩ p1 hact rfl rfl r1 p3
 rw [show ops.toArray.size=ops.length by simp];exact this
end
end Uw
namespace Uw
open Go Go.RowKit
variable [Glob]
theorem kD {P:Program} (S:WPS P) {n:Nat} {pol:Pol} {Q:aH->St->Prop} {w0:World} {gs:Fr}:∀(code:Code) (m:b9),comp P n pol code=some m->(S.dfr=true\/noD code=true)->∀(q:aH->St->Tree) (c:Cx) (st:St) (a:Act),Rel c w0 n gs st a->
  WT P Q (exec m st q)->S.W code (Came P Q q c w0 n gs) a c.w:=by
 intro code
 induction code with
 | skip=>
  intro m hc hdf q c st a r h;simp [comp] at hc;subst hc;exact S.skip ⟨c,.normal,st,rfl,rfl,rfl,trivial,r,h⟩
 | region id ops draw=>
  intro m hc hdf q c st a r h
  cases draw with
  | true=>
   simp only [comp] at hc
   split at hc
   ·rename_i l hm hl
    split at hc
    ·rename_i hd
     simp at hc;subst hc;have:=Lj S (id:=id) (Q:=Q) (q:=q) (w0:=w0) (gs:=gs) hdf hm hl hd r h;simpa using this
    ·rename_i hd
     have hc' : comp P n pol (.region id ops true)=some m:=by simp only [comp,hm,hl,hd];exact hc
     split at hc
     ·simp only [Option.some.injEq] at hc;subst hc
      simp only [oP,qQ,qS,oQ,mI,oR,oS,qT,oU,WT] at h;exact h S n pol _ hc' hdf c w0 gs a r
     ·simp at hc
   ·simp at hc
  | false=>
   simp only [comp,Option.map_eq_some_iff] at hc;obtain ⟨l,hl,rfl⟩:=hc;have:=tD (P:=P) (n:=n) (ops:=ops.toList) (Q:=Q) (q:=q) (w0:=w0) (gs:=gs) (c0:=c) ops.toList l none c st a hl rfl rfl r (by intro t w' h' hh;simp at hh) h;exact S.list CJ hdf (by simpa using this)
 | seq x y ihx ihy=>
  intro m hc hdf q c st a r h;simp only [comp] at hc
  split at hc
  ·rename_i mx my hx hy
   simp at hc;subst hc;simp only [oP,qQ,qS,oQ,mI,oR,oS,qT,oU] at h;refine S.seq (S.mono (ihx mx hx (hdf.imp id fun h=>by simp [noD] at h;exact h.1) _ c st a r h) ?_);intro e a' w' hq;obtain ⟨c',me,st',e1,e2,e3,e4,e5,e6⟩:=hq;subst e3
   cases e with
   | normal=>
    cases me<;>simp only [bG] at e4
    have:=ihy my hy (hdf.imp id fun h=>by simp [noD] at h;exact h.2) q c' st' a' e5 e6;refine S.mono this ?_;intro e a'' w'' ⟨c'',me',B6,f1,f2,f3,f4,f5,f6⟩;exact ⟨c'',me',B6,f1.trans e1,f2.trans e2,f3,f4,f5,f6⟩
   | exit id=>cases me<;>simp only [bG] at e4;rename_i j;exact ⟨c',.exit j,st',e1,e2,rfl,e4,e5,e6⟩
   | goto l=>cases me<;>simp only [bG] at e4
   | ret=>cases me<;>simp only [bG] at e4;exact ⟨c',.ret,st',e1,e2,rfl,trivial,e5,e6⟩
   | panic ch=>cases me<;>simp only [bG] at e4;rename_i d;exact ⟨c',.panic d,st',e1,e2,rfl,e4,e5,e6⟩
   | outgrown=>cases me<;>simp only [bG] at e4
  ·simp at hc
 | cond x y z ihy ihz=>
  intro m hc hdf q c st a r h;simp only [comp] at hc
  split at hc
  ·rename_i cx my mz hx hy hz
   simp at hc;subst hc;simp only [oP,qQ,qS,oQ,mI,oR,oS,qT,oU] at h
   split at h
   ·rename_i b hb
    have e:=aD r hx hb;simp only [aA,aE] at e;simp only [WT] at h;exact S.cond e (fun hb'=>ihy my hy (hdf.imp id fun h=>by simp [noD] at h;exact h.1) q c st a r (h.1 hb')) (fun hb'=>ihz mz hz (hdf.imp id fun h=>by simp [noD] at h;exact h.2) q c st a r (h.2 hb'))
   ·exact h.elim
  ·simp at hc
 | block id x ih=>
  intro m hc hdf q c st a r h;simp only [comp,Option.map_eq_some_iff] at hc;obtain ⟨mx,hx,rfl⟩:=hc;simp only [oP,qQ,qS,oQ,mI,oR,oS,qT,oU] at h;refine S.block (S.mono (ih mx hx (hdf.imp (fun h=>h) fun h=>by simp [noD] at h;exact h) _ c st a r h) ?_);intro e a' w' hq;obtain ⟨c',me,st',e1,e2,e3,e4,e5,e6⟩:=hq
  cases e with
  | normal=>cases me<;>simp only [bG] at e4;exact ⟨c',.normal,st',e1,e2,e3,trivial,e5,e6⟩
  | exit j=>
   cases me<;>simp only [bG] at e4
   rename_i j';subst e4;simp only [Exit.inBlock];by_cases hj:j=id
   ·subst hj
    simp only [if_true];simp at e6;exact ⟨c',.normal,st',e1,e2,e3,trivial,e5,e6⟩
   ·have hb:Nat.beq j id=false:=by
     rw [Bool.eq_false_iff];intro hb;exact hj (Nat.eq_of_beq_eq_true hb)
    simp only [hb] at e6;simp only [hj,if_false];exact ⟨c',.exit j,st',e1,e2,e3,rfl,e5,e6⟩
  | goto l=>cases me<;>simp only [bG] at e4
  | ret=>cases me<;>simp only [bG] at e4;exact ⟨c',.ret,st',e1,e2,e3,trivial,e5,e6⟩
  | panic ch=>cases me<;>simp only [bG] at e4;rename_i d;exact ⟨c',.panic d,st',e1,e2,e3,e4,e5,e6⟩
  | outgrown=>cases me<;>simp only [bG] at e4
 | loop x ih=>
  intro m hc hdf q c st a r h;have hc':=hc;simp only [comp,Option.map_eq_some_iff] at hc;obtain ⟨mx,hx,rfl⟩:=hc;simp only [oP,qQ,qS,oQ,mI,oR,oS,qT,oU,WT] at h;exact h S n pol _ hc' hdf c w0 gs a r
 | exit id=>
  intro m hc hdf q c st a r h;simp [comp] at hc;subst hc;exact S.exit ⟨c,.exit id,st,rfl,rfl,rfl,rfl,r,h⟩
 | ret=>
  intro m hc hdf q c st a r h;simp [comp] at hc;subst hc;exact S.ret ⟨c,.ret,st,rfl,rfl,rfl,trivial,r,h⟩
 | _=>intro m hc;simp [comp] at hc
theorem WT.mono {P:Program} {Q Q' : aH->St->Prop} (hq:∀e st,Q e st->Q' e st):∀(t:Tree),WT P Q t->WT P Q' t:=by
 intro t
 induction t with
 | done e st=>exact hq e st
 | fail=>exact fun h=>h
 | test b y n ih1 ih2=>exact fun h=>⟨fun hb=>ih1 (h.1 hb),fun hb=>ih2 (h.2 hb)⟩
 | elem xs i k ih=>rintro ⟨x,h1,h2⟩;exact ⟨x,h1,ih x h2⟩
 | byte s i k ih=>rintro ⟨x,h1,h2⟩;exact ⟨x,h1,ih x h2⟩
 | val o k ih=>rintro ⟨x,h1,h2⟩;exact ⟨x,h1,ih x h2⟩
 | blk o k ih=>rintro ⟨x,h1,h2⟩;exact ⟨x,h1,ih x h2⟩
 | B2 o k ih=>rintro ⟨x,h1,h2⟩;exact ⟨x,h1,ih x h2⟩
 | heq h k ih=>rintro ⟨x,h1,h2⟩;exact ⟨x,h1,ih x h2⟩
 | call f ds k ih=>rintro ⟨r,h1,h2⟩;exact ⟨r,h1,ih r h2⟩
 | both y n ih1 ih2=>exact fun h=>⟨ih1 h.1,ih2 h.2⟩
 | same x y t ih=>exact fun h=>⟨h.1,ih h.2⟩
 | sub f vs h nx k ih=>
  rintro ⟨hb,h⟩;refine ⟨hb,fun c w0 F gvs h1 h2 h3 h4 h5=>(h c w0 F gvs h1 h2 h3 h4 h5).mono ?_⟩;rintro e w' ⟨c',r,nx',e1,e2,e3,e4,e5,e6,e7,e8⟩;exact ⟨c',r,nx',e1,e2,e3,e4,e5,e6,e7,ih r _ nx' e8⟩
 | code m st k ih=>
  intro h S n pol code hc hdf c w0 gs a r;refine S.mono (h S n pol code hc hdf c w0 gs a r) ?_;intro e a' w' ⟨c',me,st',e1,e2,e3,e4,e5,e6⟩;exact ⟨c',me,st',e1,e2,e3,e4,e5,ih me st' e6⟩
mutual
def V.closed (h:Heap):V->Bool
 | .ptr id _=>(look h id).isSome
 | .mG id _ _ _=>(look h id).isSome
 | .ref id _ _ _=>(look h id).isSome
 | .agg cs=>cF h cs
 | .func _ fs cs=>cF h fs&&cF h cs
 | .tuple cs=>cF h cs
 | .d _=>true
 | .ro _ _=>true
 | .hnd id=>(look h id).isSome
 | .row id _=>(look h id).isSome
 | .undef=>true
def cF (h:Heap):List V->Bool
 | []=>true
 | v::r=>v.closed h&&cF h r
end
mutual
def V.ren (ρ:Nat->Nat):V->V
 | .ptr id o=>.ptr (ρ id) o
 | .mG id v i c=>.mG (ρ id) v i c
 | .ref id v o l=>.ref (ρ id) v o l
 | .agg cs=>.agg (fC ρ cs)
 | .func f fs cs=>.func f (fC ρ fs) (fC ρ cs)
 | .tuple cs=>.tuple (fC ρ cs)
 | .d x=>.d x
 | .ro cs o=>.ro cs o
 | .hnd id=>.hnd (ρ id)
 | .row id len=>.row (ρ id) len
 | .undef=>.undef
def fC (ρ:Nat->Nat):List V->List V
 | []=>[]
 | v::r=>v.ren ρ::fC ρ r
end
def Zero (ρ:Nat->Nat) (h h' : Heap) (v:V):Prop:=∃id k,v = .ref id 0 0 0/\look h (ρ id)=none/\(look h' id=some (.arr k [])\/look h' id=some (.mt k 0 []))
def QM (h:Heap) (v v' : V):Prop:=∃id ver off len k xs ys,v = .ref id ver off len/\look h id=some (.arr k xs)/\(xs.drop off).take len=ys/\v' = .d (.slice k ys false)
def VW0 (ρ:Nat->Nat) (h h' : Heap) (v v' : V):Prop:=(v=v'.ren ρ/\v'.closed h' = true)\/(v = .d .nil/\Zero ρ h h' v')\/v' = .undef\/QM h v v'
def RH (ρ:Nat->Nat) (h h' : Heap):List V->List V->Prop
 | [],[]=>True
 | v::r,v'::r'=>VW0 ρ h h' v v'/\RH ρ h h' r r'
 | _,_=>False
def VG (v v' : V):Prop:=v = .d .nil/\∃k z,v' = .d (.slice k [] z)
def VW (ρ:Nat->Nat) (h h' : Heap) (v v' : V):Prop:=(v=v'.ren ρ/\v'.closed h' = true)\/(v = .d .nil/\Zero ρ h h' v')\/v' = .undef\/QM h v v'\/(∃cs cs',v = .agg cs/\v' = .agg cs'/\RH ρ h h' cs cs')\/VG v v'
theorem VW0.up {ρ:Nat->Nat} {h h' : Heap} {v v' : V} (hw:VW0 ρ h h' v v'):VW ρ h h' v v':=by
 rcases hw with h|h|h|h
 ·exact .inl h
 ·exact .inr (.inl h)
 ·exact .inr (.inr (.inl h))
 ·exact .inr (.inr (.inr (.inl h)))
def VWL (ρ:Nat->Nat) (h h' : Heap):List V->List V->Prop
 | [],[]=>True
 | v::r,v'::r'=>VW ρ h h' v v'/\VWL ρ h h' r r'
 | _,_=>False
def nD (ρ:Nat->Nat) (h h' : Heap):Blk->Blk->Prop
 | .var cs,.var cs'=>VWL ρ h h' cs cs'
 | .arr k xs,.arr k' xs'=>k=k'/\xs=xs'
 | .mt k v xs,.mt k' v' xs'=>k=k'/\v=v'/\xs=xs'
 | .iter s p,.iter s' p'=>s=s'/\p=p'
 | .map k es,.map k' es'=>k=k'/\es=es'
 | _,_=>False
def ju:Blk->Prop
 | .arr _ xs=>xs=[]
 | .mt _ v xs=>v=0/\xs=[]
 | _=>False
structure wQ (ρ:Nat->Nat) (st st' : St):Prop where
 regs:∀i v',look st'.regs i=some v'->∃v,look st.regs i=some v/\VW ρ st.heap st'.heap v v'
 heap:∀id b',look st'.heap id=some b'->(∃b,look st.heap (ρ id)=some b/\nD ρ st.heap st'.heap b b')\/(look st.heap (ρ id)=none/\ju b')
 lt:∀id b,look st'.heap id=some b->id<st'.next
 base:st'.base=st.base
 next:st.base<=st'.next
 keep:∀id,id<st.base->ρ id=id/\((look st.heap id).isSome=true->(look st'.heap id).isSome=true)
 inj:∀id id',(look st'.heap id).isSome=true->(look st'.heap id').isSome=true->ρ id=ρ id'->id=id'
 defers:cF st'.heap st'.defers=true
 defers' : st.defers=fC ρ st'.defers
def Weak (st st' : St):Prop:=∃ρ,wQ ρ st st'
def Cx.iG (c:Cx) (ρ:Nat->Nat) (h' : Heap) (J:JX):Cx:={ c with J0:=J,heap:=h',pl:=fun i=>match look c.heap (ρ i) with|some _=>c.pl (ρ i)|none=>⟨0,0⟩ }
abbrev Cx.weak (c:Cx) (ρ:Nat->Nat) (h' : Heap):Cx:=c.iG ρ h' c.J0
section
variable {c : Cx} {h' : Heap} {ρ : Nat -> Nat} {J : JX} (hs : ∀ id b', look h' id = some b' -> (∃ b, look c.heap (ρ id) = some b /\ nD ρ c.heap h' b b') \/ (look c.heap (ρ id) = none /\ ju b'))
include hs
theorem fL {id:Nat} {b:Blk} (h:look c.heap (ρ id)=some b):(c.iG ρ h' J).pl id=c.pl (ρ id):=by simp [Cx.iG,h]
theorem q8 {id:Nat} (h:look c.heap (ρ id)=none):(c.iG ρ h' J).pl id=⟨0,0⟩:=by simp [Cx.iG,h]
theorem Imm.weak (b o:Nat) (h:Imm c b o):Imm (c.weak ρ h') b o:=by
 rcases h with h|⟨h1,h2,h3⟩
 ·exact .inl h
 ·refine .inr ⟨h1,h2,fun id blk hl hph hg=>?_⟩
  rcases hs id blk hl with ⟨b0,hb,dV⟩|⟨hn,hz⟩
  ·rw [fL hs hb] at hph hg
   have VH:Ph (c.pl (ρ id)) b0:=by
    cases b0<;>cases blk<;>simp [nD] at dV<;>first|exact hph|trivial
   obtain ⟨k,xs,e,hlt⟩:=h3 (ρ id) b0 hb VH hg;subst e
   cases blk with
   | arr k' xs'=>obtain ⟨rfl,rfl⟩:=dV;exact ⟨k,xs,rfl,hlt⟩
   | _=>exact dV.elim
  ·rw [q8 hs hn] at hph
   exfalso
   cases blk<;>simp [ju,Ph] at hz hph
theorem jg:Keeps c.w c.w (Imm c) (Imm (c.weak ρ h')):=fun b o h=>⟨Imm.weak hs b o h,rfl⟩
theorem mB {id:Nat} {b:Blk} (hc:(look h' id).isSome=true) (hb:look c.heap (ρ id)=some b):∃b',look h' id=some b'/\nD ρ c.heap h' b b':=by
 cases hl:look h' id with
 | none=>rw [hl] at hc;simp at hc
 | some b'=>
  rcases hs id b' hl with ⟨b0,hb0,dV⟩|⟨hn,_⟩
  ·rw [hb] at hb0;injection hb0 with hb0;subst hb0;exact ⟨b',rfl,dV⟩
  ·rw [hb] at hn;cases hn
variable (hk : Keeps c.w c.w (Imm c) (Imm (c.iG ρ h' J)))
include hk
mutual
theorem aA.weak:∀(x:V) (v:Value),x.closed h' = true->aA c (x.ren ρ) v->aA (c.iG ρ h' J) x v
 | .d x,v,_,r=>aE.keep (hk) x v r
 | .ptr id off,v,hc,r=>by
  obtain ⟨⟨cs,h1⟩,h2⟩:=r;obtain ⟨b',hb',dV⟩:=mB hs hc h1
  cases b' with
  | var cs'=>exact ⟨⟨cs',hb'⟩,by rw [fL hs h1];exact h2⟩
  | _=>exact dV.elim
 | .ro cs off,v,_,r=>by
  obtain ⟨b,o,h1,h2⟩:=r;exact ⟨b,o,h1,dO.keep (hk) _ _ _ h2⟩
 | .mG id ver i cc,v,hc,r=>by
  simp only [aA,V.ren] at r ⊢
  cases hl:look c.heap (ρ id) with
  | none=>rw [hl] at r;exact r.elim
  | some b=>
   obtain ⟨b',hb',dV⟩:=mB hs hc hl;rw [hl] at r;show jG (c.iG ρ h' J) id ver i cc v (look h' id);rw [hb']
   cases b with
   | mt k v0 xs=>
    cases b' with
    | mt k' v' xs'=>
     obtain ⟨rfl,rfl,rfl⟩:=dV;unfold jG at *;rw [fL hs hl];exact r
    | _=>exact dV.elim
   | _=>exact r.elim
 | .ref id ver off len,v,hc,r=>by
  simp only [aA,V.ren] at r ⊢
  cases hl:look c.heap (ρ id) with
  | none=>rw [hl] at r;exact r.elim
  | some b=>
   obtain ⟨b',hb',dV⟩:=mB hs hc hl;rw [hl] at r;show ki (c.iG ρ h' J) id ver off len v (look h' id);rw [hb']
   cases b with
   | mt k v0 xs=>
    cases b' with
    | mt k' v' xs'=>
     obtain ⟨rfl,rfl,rfl⟩:=dV;unfold ki at *;rw [fL hs hl];exact r
    | _=>exact dV.elim
   | arr k xs=>
    cases b' with
    | arr k' xs'=>
     obtain ⟨rfl,rfl⟩:=dV;unfold ki at *;rw [fL hs hl];obtain ⟨r1,r2⟩:=r;refine ⟨r1,?_⟩
     rcases r2 with r2|⟨b,o,cap,r2,r3,r4,r5⟩
     ·exact .inl r2
     ·exact .inr ⟨b,o,cap,r2,r3,cB.keep (hk) _ _ _ _ r4,r5⟩
    | _=>exact dV.elim
   | _=>exact r.elim
 | .agg cs,v,hc,r=>by
  obtain ⟨vs,h1,h2⟩:=r;exact ⟨vs,h1,ax.weak cs vs hc h2⟩
 | .func f fs cap,v,hc,r=>by
  obtain ⟨us,vs,h1,h2,h3⟩:=r;simp only [V.closed,Bool.and_eq_true] at hc;exact ⟨us,vs,h1,ax.weak fs us hc.1 h2,ax.weak cap vs hc.2 h3⟩
 | .tuple ds,v,hc,r=>by
  obtain ⟨vs,h1,h2⟩:=r;exact ⟨vs,h1,ax.weak ds vs hc h2⟩
 | .hnd id,v,hc,r=>by
  simp only [aA,V.ren] at r ⊢
  cases hl:look c.heap (ρ id) with
  | none=>rw [hl] at r;exact r.elim
  | some b=>
   obtain ⟨b',hb',dV⟩:=mB hs hc hl;rw [hl] at r;show fq (c.iG ρ h' J) id v (look h' id);rw [hb']
   cases b with
   | iter s p=>
    cases b' with
    | iter s' p'=>unfold fq at *;rw [fL hs hl];exact r
    | _=>exact dV.elim
   | map kk es=>
    cases b' with
    | map kk' es'=>unfold fq at *;rw [fL hs hl];exact r
    | _=>exact dV.elim
   | _=>exact r.elim
 | .row id len,v,hc,r=>by
  obtain ⟨⟨cs,h1⟩,h2,h3⟩:=r;obtain ⟨b',hb',dV⟩:=mB hs hc h1
  cases b' with
  | var cs'=>exact ⟨⟨cs',hb'⟩,by rw [fL hs h1];exact h2,h3⟩
  | _=>exact dV.elim
 | .undef,v,_,r=>trivial
theorem ax.weak:∀(xs:List V) (vs:List Value),cF h' xs=true->ax c (fC ρ xs) vs->ax (c.iG ρ h' J) xs vs
 | [],vs,_,r=>r
 | d::ds,vs,hc,r=>by
  obtain ⟨v,vs',h1,h2,h3⟩:=r;simp only [cF,Bool.and_eq_true] at hc;exact ⟨v,vs',h1,aA.weak d v hc.1 h2,ax.weak ds vs' hc.2 h3⟩
end
theorem aA.vw0 {x x' : V} {v:Value} (hw:VW0 ρ c.heap h' x x') (r:aA c x v):aA (c.iG ρ h' J) x' v:=by
 rcases hw with ⟨rfl,hc⟩|⟨rfl,id,k,rfl,hn,hl⟩|rfl|⟨id,ver,off,len,k,xs,ys,rfl,hl,rfl,rfl⟩
 ·exact aA.weak hs hk x' v hc r
 ·simp only [aA,aE] at r
  subst r;have hpl:=q8 (J:=J) hs hn;show ki (c.iG ρ h' J) id 0 0 0 (.slice none 0 0) (look h' id)
  rcases hl with hl|hl
  ·rw [hl];exact ⟨by simp,.inl ⟨rfl,rfl,fun _=>by rw [hpl]⟩⟩
  ·rw [hl];exact ⟨Nat.le_refl _,⟨_,_,_,rfl⟩,fun _=>⟨by simp,.inl ⟨rfl,rfl,rfl,by rw [hpl]⟩⟩⟩
 ·trivial
 ·exact aE.keep hk _ _ (rX hl r)
theorem ax.vw0:∀{xs xs' : List V} {vs:List Value},RH ρ c.heap h' xs xs'->ax c xs vs->ax (c.iG ρ h' J) xs' vs
 | [],[],vs,_,r=>r
 | x::xs,x'::xs',vs,hw,r=>by
  obtain ⟨v,vs',h1,h2,h3⟩:=r;exact ⟨v,vs',h1,aA.vw0 hs hk hw.1 h2,ax.vw0 hw.2 h3⟩
 | [],_::_,vs,hw,r=>hw.elim
 | _::_,[],vs,hw,r=>hw.elim
theorem aA.vw {x x' : V} {v:Value} (hw:VW ρ c.heap h' x x') (r:aA c x v):aA (c.iG ρ h' J) x' v:=by
 rcases hw with h|h|h|h|⟨cs,cs',rfl,rfl,h⟩|⟨rfl,k,z,rfl⟩
 ·exact aA.vw0 hs hk (.inl h) r
 ·exact aA.vw0 hs hk (.inr (.inl h)) r
 ·exact aA.vw0 hs hk (.inr (.inr (.inl h))) r
 ·exact aA.vw0 hs hk (.inr (.inr (.inr h))) r
 ·obtain ⟨vs,h1,h2⟩:=r
  exact ⟨vs,h1,ax.vw0 hs hk h h2⟩
 ·simp only [aA,aE] at r
  exact .inl ⟨⟨_,r,fun _=>trivial⟩,rfl⟩
theorem ax.vw:∀{xs xs' : List V} {vs:List Value},VWL ρ c.heap h' xs xs'->ax c xs vs->ax (c.iG ρ h' J) xs' vs
 | [],[],vs,_,r=>r
 | x::xs,x'::xs',vs,hw,r=>by
  obtain ⟨v,vs',h1,h2,h3⟩:=r;exact ⟨v,vs',h1,aA.vw hs hk hw.1 h2,ax.vw hw.2 h3⟩
 | [],_::_,vs,hw,r=>hw.elim
 | _::_,[],vs,hw,r=>hw.elim
theorem cJ.weak {id:Nat} {b b' : Blk} (hl:look c.heap (ρ id)=some b) (dV:nD ρ c.heap h' b b') (r:cJ c (ρ id) b):cJ (c.iG ρ h' J) id b':=by
 have hp:=fL (J:=J) hs hl
 cases b with
 | var cs=>
  cases b' with
  | var cs'=>obtain ⟨vs,e,h1,h2⟩:=r;exact ⟨vs,e,by rw [hp];exact h1,ax.vw hs hk dV h2⟩
  | _=>exact dV.elim
 | arr k xs=>
  cases b' with
  | arr k' xs'=>
   obtain ⟨rfl,rfl⟩:=dV;obtain ⟨h0,r⟩:=r;refine ⟨by rw [hp];exact h0,fun hc=>?_⟩;rw [hp] at hc ⊢;obtain ⟨vs,e,h1,h2,h4⟩:=r hc;exact ⟨vs,e,h1,h2,cB.keep (hk) _ _ _ _ h4⟩
  | _=>exact dV.elim
 | mt k v xs=>
  cases b' with
  | mt k' v' xs'=>
   obtain ⟨rfl,rfl,rfl⟩:=dV;obtain ⟨h0,h4,r⟩:=r;refine ⟨by rw [hp];exact h0,h4,fun hc=>?_⟩;rw [hp] at hc ⊢;obtain ⟨vs,e,h1,h2,h5,h6⟩:=r hc;exact ⟨vs,e,h1,h2,aX.keep (hk) _ _ h5,h6⟩
  | _=>exact dV.elim
 | iter s p=>
  cases b' with
  | iter s' p'=>obtain ⟨rfl,rfl⟩:=dV;unfold cJ at *;rw [hp];exact r
  | _=>exact dV.elim
 | map kk es=>
  cases b' with
  | map kk' es'=>obtain ⟨rfl,rfl⟩:=dV;obtain ⟨ms,k,h1,h2⟩:=r;exact ⟨ms,k,by rw [hp];exact h1,oV.keep (hk) _ _ h2⟩
  | _=>exact dV.elim
theorem cw.weak:∀{vs:List V} {ds:List Deferred},cF h' vs=true->cw c (fC ρ vs) ds->cw (c.iG ρ h' J) vs ds
 | [],_,_,r=>r
 | v::vs,ds,hc,r=>by
  obtain ⟨d,ds',f,first,cap,fs,cs,h1,hv,h3,h4,h6,h5⟩:=r
  cases v with
  | func f0 RJ cap0=>
   simp only [V.ren,V.func.injEq] at hv;obtain ⟨rfl,rfl,rfl⟩:=hv;simp only [cF,V.closed,Bool.and_eq_true] at hc;exact ⟨d,ds',f0,RJ,cap0,fs,cs,h1,rfl,h3,ax.weak hs hk _ _ hc.1.1 h4,ax.weak hs hk _ _ hc.1.2 h6,cw.weak hc.2 h5⟩
  | _=>simp [V.ren] at hv
end
theorem nD.ph {ρ:Nat->Nat} {h h' : Heap} {p:Pl} {b b' : Blk} (hs:nD ρ h h' b b') (hp:Ph p b'):Ph p b:=by
 cases b<;>cases b'<;>simp [nD] at hs<;>first|exact hp|trivial
theorem Rel.Ln {c:Cx} {w0:World} {n:Nat} {gs:Fr} {st st' : St} {a:Act} {ρ:Nat->Nat} (r:Rel c w0 n gs st a) (h:wQ ρ st st'):Rel (c.weak ρ st'.heap) w0 n gs st' a:=by
 have hs:∀id b',look st'.heap id=some b'->(∃b,look c.heap (ρ id)=some b/\nD ρ c.heap st'.heap b b')\/(look c.heap (ρ id)=none/\ju b'):=by rw [r.heap];exact h.heap
 have nz:∀id b',look c.heap (ρ id)=none->ju b'->¬Ph ((c.weak ρ st'.heap).pl id) b':=by
  intro id b' hn hz hp;rw [q8 hs hn] at hp
  cases b'<;>simp [ju,Ph] at hz hp
 refine ⟨rfl,⟨r.hrel.below,r.hrel.other,r.hrel.kJ,?_,h.lt,?_,?_⟩,r.size,?_,?_,by rw [h.base];exact r.mK,by rw [h.base];exact h.next,?_⟩
 ·intro id b' hl
  rcases hs id b' hl with ⟨b,hb,dV⟩|⟨hn,hz⟩
  ·exact cJ.weak hs (jg hs) hb dV (r.hrel.blk (ρ id) b hb)
  ·have hp:=q8 (J:=c.J0) hs hn
   cases b' with
   | arr k xs=>simp [ju] at hz;subst hz;exact ⟨by simp,fun hc=>by rw [hp] at hc;simp at hc⟩
   | mt k v xs=>simp [ju] at hz;obtain ⟨rfl,rfl⟩:=hz;exact ⟨by simp,by simp,fun hc=>by rw [hp] at hc;simp at hc⟩
   | _=>exact hz.elim
 ·intro id b' hl hph
  rcases hs id b' hl with ⟨b,hb,dV⟩|⟨hn,hz⟩
  ·rw [fL hs hb] at hph ⊢;exact r.hrel.ge (ρ id) b hb (dV.ph hph)
  ·exact (nz id b' hn hz hph).elim
 ·intro id id' b1 b2 h1 h2 p1 p2 hg
  rcases hs id b1 h1 with ⟨x1,hb1,s1⟩|⟨hn,hz⟩
  ·rcases hs id' b2 h2 with ⟨x2,hb2,s2⟩|⟨hn,hz⟩
   ·rw [fL hs hb1] at p1 hg
    rw [fL hs hb2] at p2 hg;have:=r.hrel.inj (ρ id) (ρ id') x1 x2 hb1 hb2 (s1.ph p1) (s2.ph p2) hg;refine h.inj id id' ?_ ?_ this
    ·show (look st'.heap id).isSome=true
     have h1' : look st'.heap id=some b1:=h1;rw [h1'];rfl
    ·show (look st'.heap id').isSome=true
     have h2' : look st'.heap id' = some b2:=h2;rw [h2'];rfl
   ·exact (nz id' b2 hn hz p2).elim
  ·exact (nz id b1 hn hz p1).elim
 ·intro i v' hv
  obtain ⟨v,hv1,hv2⟩:=h.regs i v' hv;rw [<- r.heap] at hv2;exact aA.vw hs (jg hs) hv2 (r.regs i v hv1)
 ·refine gs.ok c _ ⟨jg hs,?_⟩ r.frames
  intro id b hid hb;have EC : id<st.base:=Nat.lt_of_lt_of_le hid r.mK;obtain ⟨hk1,hk2⟩:=h.keep id EC;have hsome:(look st'.heap id).isSome=true:=hk2 (by rw [<- r.heap,hb];rfl);have hb' : look c.heap (ρ id)=some b:=by rw [hk1];exact hb
  obtain ⟨b',e1,e2⟩:=mB hs hsome hb';refine ⟨b',e1,?_⟩;rw [fL hs hb',hk1]
  cases b<;>cases b'<;>simp [nD] at e2<;>simp [c6,e2]
 ·exact cw.weak hs (jg hs) h.defers (by rw [<- h.defers'];exact r.defers)
theorem Rel.weak {c:Cx} {w0:World} {n:Nat} {gs:Fr} {st st' : St} {a:Act} (r:Rel c w0 n gs st a) (h:Weak st st'):∃c',c'.B=c.B/\c'.J0=c.J0/\c'.w=c.w/\Keeps c.w c.w (Imm c) (Imm c')/\Rel c' w0 n gs st' a:=by
 obtain ⟨ρ,h⟩:=h;exact ⟨c.weak ρ st'.heap,rfl,rfl,rfl,jg (by rw [r.heap];exact h.heap),r.Ln h⟩
theorem Bq {P:Program} {n:Nat} {pol:Pol} {code:Code} {m:b9} (hc:comp P n pol code=some (.loop m)):∃x,code = .loop x/\comp P n pol x=some m:=by
 cases code with
 | loop x=>
  simp only [comp,Option.map_eq_some_iff,b9.loop.injEq] at hc;obtain ⟨mx,hx,rfl⟩:=hc;exact ⟨x,rfl,hx⟩
 | region id ops draw=>
  cases draw with
  | false=>simp [comp] at hc
  | true=>
   simp only [comp] at hc
   split at hc
   ·split at hc
    ·simp at hc
    ·split at hc<;>simp at hc
   ·simp at hc
 | seq x y=>simp only [comp] at hc;split at hc<;>simp at hc
 | cond x y z=>simp only [comp] at hc;split at hc<;>simp at hc
 | _=>simp [comp] at hc
theorem Jw {P:Program} {n:Nat} {pol:Pol} {code:Code} {fuel:Nat} {l:List DOp} (hc:comp P n pol code=some (.draw fuel l)):∃id ops mi,code = .region id ops true/\P.follows .mixedOrders=true/\dN P n pol ops.toList ops.toList=some mi/\yo (ed ops.toList mi)=true/\l=ed ops.toList mi:=by
 cases code with
 | region id ops draw=>
  cases draw with
  | false=>simp [comp] at hc
  | true=>
   simp only [comp] at hc
   split at hc
   ·rename_i mi hm hl
    split at hc
    ·simp at hc
    ·split at hc
     ·rename_i hb
      simp only [Option.some.injEq,b9.draw.injEq] at hc;exact ⟨id,ops,mi,rfl,hm,hl,hb,hc.2.symm⟩
     ·simp at hc
   ·simp at hc
 | seq x y=>simp only [comp] at hc;split at hc<;>simp at hc
 | cond x y z=>simp only [comp] at hc;split at hc<;>simp at hc
 | _=>simp [comp] at hc
theorem Br {P:Program} {fuel:Nat} {l:List DOp} {st:St} {Q:aH->St->Prop} (h:WT P (fun e s=>∃s',(s' = s\/Weak s s')/\Q e s') (yk l (keepR l st.regs) fuel [] [] st Tree.done)):NI P (.draw fuel l) st Q:=by
 intro S n pol code hc hdf c w0 gs a r;obtain ⟨id,ops,mi,rfl,hm,hl,hb,rfl⟩:=Jw hc;have:=Jv S (id:=id) (w0:=w0) (gs:=gs) (q:=Tree.done) hdf hm hl hb r h;have e:ops.toList.toArray=ops:=by simp
 rw [e] at this;refine S.mono this ?_;intro e a' w' ⟨c',me,st',e1,e2,e3,e4,e5,e6⟩;obtain ⟨s',hw,hq⟩:=e6;subst e3;obtain ⟨c3,k1,k2,k3,k5,k4⟩:∃c3:Cx,c3.B=c'.B/\c3.J0=c'.J0/\c3.w=c'.w/\Keeps c'.w c'.w (Imm c') (Imm c3)/\Rel c3 w0 n gs s' a':=by
  rcases hw with rfl|hw
  ·exact ⟨c',rfl,rfl,rfl,fun b o h=>⟨h,rfl⟩,e5⟩
  ·exact e5.weak hw
 refine ⟨c3,me,s',k1.trans e1,k2.trans e2,k3,?_,k4,hq⟩
 cases e<;>cases me<;>simp only [bG] at e4 ⊢<;>first|exact e4|skip
 obtain ⟨v,h1,h2⟩:=e4;refine ⟨v,h1,?_⟩;rw [k3];exact aE.keep k5 _ _ h2
theorem Jx {P:Program} {m:b9} {st:St} {Q:aH->St->Prop} (I:Nat->St->Prop) (n0:Nat) (st0:St) (hw:Weak st st0) (h0:I n0 st0)
  (round:∀k s,I k s->WT P (fun e s'=>match e with | .normal=>∃k' s'',k' < k/\Weak s' s''/\I k' s'' | e=>Q e s') (exec m s Tree.done)):NI P (.loop m) st Q:=by
 intro S n pol code hc hdf c w0 gs a r;obtain ⟨x,rfl,hx⟩:=Bq hc
 ·refine S.ghost (fun k a' w'=>∃c' s,c'.B=c.B/\c'.J0=c.J0/\c'.w=w'/\Rel c' w0 n gs s a'/\I k s) n0 (by obtain ⟨c',k1,k2,k3,_,k4⟩:=r.weak hw;exact ⟨c',st0,k1,k2,k3,k4,h0⟩) ?_
  rintro k a' w' ⟨c',s,e1,e2,rfl,e4,e5⟩;refine S.mono (kD S x m hx (hdf.imp id fun h=>by simp [noD] at h;exact h) Tree.done c' s a' e4 (round k s e5)) ?_;intro e a'' w'' ⟨c'',me,s',f1,f2,f3,f4,f5,f6⟩;subst f3;simp only [WT] at f6
  cases e with
  | normal=>
   cases me<;>simp only [bG] at f4
   obtain ⟨k',s'',g1,g2,g3⟩:=f6;obtain ⟨c3,k1,k2,k3,_,k4⟩:=f5.weak g2;exact ⟨k',g1,c3,s'',k1.trans (f1.trans e1),k2.trans (f2.trans e2),k3,k4,g3⟩
  | exit id=>cases me<;>simp only [bG] at f4;rename_i j;exact ⟨c'',.exit j,s',f1.trans e1,f2.trans e2,rfl,f4,f5,f6⟩
  | goto l=>cases me<;>simp only [bG] at f4
  | ret=>cases me<;>simp only [bG] at f4;exact ⟨c'',.ret,s',f1.trans e1,f2.trans e2,rfl,trivial,f5,f6⟩
  | panic ch=>cases me<;>simp only [bG] at f4;rename_i d;exact ⟨c'',.panic d,s',f1.trans e1,f2.trans e2,rfl,f4,f5,f6⟩
  | outgrown=>cases me<;>simp only [bG] at f4
inductive jh where
 | tmp (t:Nat)
 | cell (t:Nat) (agg:Bool) (n:Nat)
def ip (P:Program):List ResultVar->Option (List jh)
 | []=>some []
 | .tmp t::r=>(ip P r).map (jh.tmp t::·)
 | .cell t ty::r=>match jF P ty,sizeT P ty,ip P r with
  | some g,some n,some l=>some (.cell t g n::l)
  | _,_,_=>none
def resV (st:St):List jh->Option (List V)
 | []=>some []
 | .tmp t::r=>match (Opd.t t).ev st,resV st r with
  | some v,some l=>some (v::l)
  | _,_=>none
 | .cell t g n::r=>match look st.regs t with
  | some (.ptr id off)=>match look st.heap id with
   | some (.var cs)=>match Nat.ble (off+n) cs.length with
    | true=>match qq g ((cs.drop off).take n),resV st r with
     | some v,some l=>some (v::l)
     | _,_=>none
    | false=>none
   | _=>none
  | _=>none
structure bJ where
 n:Nat
 pol:Pol
 res:List jh
 code:b9
def aR (P:Program) (f:FuncId) (m:bJ):Prop:=
 ∃fn code,P.funcs[f]? = some fn/\fn.body=some code/\(fn.name == "runtime.NumGoroutine")=false/\fn.ntmps=m.n/\ip P fn.results.toList=some m.res/\comp P m.n m.pol code=some m.code
def isFun (P:Program) (f:FuncId) (n:Nat) (pol:Pol):Option (List jh×b9):=
 match P.funcs[f]? with
 | some fn=>match fn.body with
  | some code=>match !(fn.name == "runtime.NumGoroutine")&&Nat.beq fn.ntmps n,ip P fn.results.toList,comp P n pol code with
   | true,some l,some c=>some (l,c)
   | _,_,_=>none
  | none=>none
 | none=>none
theorem ay {P:Program} {f:FuncId} {m:bJ} (h:isFun P f m.n m.pol=some (m.res,m.code)):aR P f m:=by
 unfold isFun at h
 split at h
 ·rename_i fn hf
  split at h
  ·rename_i code hb
   split at h
   ·rename_i l c h1 h2 h3
    simp at h;obtain ⟨rfl,rfl⟩:=h;rw [Bool.and_eq_true] at h1;exact ⟨fn,code,hf,hb,by simpa using h1.1,Nat.eq_of_beq_eq_true h1.2,h2,h3⟩
   ·simp at h
  ·simp at h
 ·simp at h
def fr:Nat->List V->fp
 | _,[]=>[]
 | i,v::r=>(i,v)::fr (i+1) r
def oz (args:List Dat):St:={ regs:=fr 0 (args.map V.fD),heap:=[],next:=0,defers:=[],base:=0 }
theorem Bt:∀(vs:List V) (i j:Nat) (v:V),look (fr i vs) j=some v->i<=j/\vs[j - i]? = some v
 | [],i,j,v,h=>by simp [fr,look] at h
 | x::vs,i,j,v,h=>by
  simp only [fr,ai] at h;by_cases hij:i=j
  ·subst hij;simp at h;subst h;simp
  ·rw [if_neg hij] at h
   obtain ⟨h1,h2⟩:=Bt vs (i+1) j v h;refine ⟨by omega,?_⟩;rw [show j - i=(j - (i+1))+1 by omega];simpa using h2
theorem ax.Lp {c:Cx}:∀{ds:List Dat} {vs:List Value},aX c.w (Imm c) ds vs->ax c (ds.map V.fD) vs
 | [],vs,h=>by simpa [ax,aX] using h
 | d::ds,vs,h=>by obtain ⟨v,vs',rfl,h2,h3⟩:=h;exact ⟨v,vs',rfl,aA.fD h2,ax.Lp h3⟩
theorem q9 {P:Program} {c:Cx} {w0:World} {n:Nat} {gs:Fr} {st:St} {a:Act} (r:Rel c w0 n gs st a):∀{l:List ResultVar} {ms:List jh} {vs:List V},ip P l=some ms->resV st ms=some vs->
  ∃us,(l.mapM (fun (x:ResultVar)=>(match x with | .tmp t=>pure (a.tmps.getD t undef) | .cell x t=>do loadVar t (<- asAddr (a.tmps.getD x undef)):Sem Value))).run P c.w = .ok us c.w/\ax c vs us:=by
 intro l
 induction l with
 | nil=>
  intro ms vs h1 h2;simp [ip] at h1;subst h1;simp [resV] at h2;subst h2;exact ⟨[],by simp,by simp [ax]⟩
 | cons x l ih=>
  intro ms vs h1 h2
  cases x with
  | tmp t=>
   simp only [ip,Option.map_eq_some_iff] at h1;obtain ⟨ms',h1,rfl⟩:=h1;simp only [resV] at h2
   split at h2
   ·rename_i v l' g1 g2
    simp at h2;subst h2;obtain ⟨us,f1,f2⟩:=ih h1 g2;refine ⟨a.tmps.getD t undef::us,?_,⟨_,us,rfl,r.regs t v (Rj g1).1,f2⟩⟩;rw [List.mapM_cons,run_bind_ok (s:=pure _) (x:=a.tmps.getD t undef) (w':=c.w) rfl,run_bind_ok f1];rfl
   ·simp at h2
  | cell t ty=>
   simp only [ip] at h1
   split at h1
   ·rename_i g m ms' e1 e2 e3
    simp at h1;subst h1;simp only [resV] at h2
    split at h2
    ·rename_i id off hv
     split at h2
     ·rename_i cs hl
      split at h2
      ·rename_i hle
       have hle:=Nat.le_of_ble_eq_true hle
       split at h2
       ·rename_i v l' hmk g2
        simp at h2;subst h2;obtain ⟨us,f1,f2⟩:=ih e3 g2;obtain ⟨⟨cs0,_⟩,p2⟩:=r.regs t _ hv;have hl' : look c.heap id=some (.var cs):=by rw [r.heap];exact hl
        obtain ⟨vs,e,b1,b2⟩:=r.hrel.blk id _ hl';have hlen:=b2.length;obtain ⟨u,hu,hru⟩:=oY ((b2.drop off).take m) hmk;refine ⟨u::us,?_,⟨u,us,rfl,hru,f2⟩⟩;have hload:(loadVar ty ⟨(c.pl id).gb,off,none⟩).run P c.w = .ok u c.w:=by
         refine nK e1 e2 ?_ hu ?_
         ·simp at hlen ⊢;omega
         ·intro j x hx
          rw [bY b1];rw [List.getElem?_take] at hx
          split at hx
          ·simpa using hx
          ·simp at hx
        have hl2:((do loadVar ty (<- asAddr (a.tmps.getD t undef)):Sem Value)).run P c.w = .ok u c.w:=by
         rw [p2,run_bind_ok (s:=asAddr _) (x:=⟨(c.pl id).gb,off,none⟩) (w':=c.w) rfl];exact hload
        rw [List.mapM_cons,run_bind_ok hl2,run_bind_ok f1];rfl
       ·simp at h2
      ·simp at h2
     ·simp at h2
    ·simp at h2
   ·simp at h1
theorem cell_lt {w:World} {b o:Nat} {v:Value} (h:w.cell? ⟨b,o,none⟩=some v):b<w.heap.size:=by
 by_cases hb:b<w.heap.size
 ·exact hb
 ·simp [World.cell?,Array.getElem?_eq_none (by omega:w.heap.size<=b)] at h
mutual
theorem aE.bound {w:World} {J:Nat->Nat->Prop}:∀(d:Dat) (v:Value),aE w J d v->aE w (fun b o=>J b o/\b<w.heap.size) d v
 | .bool b,v,r=>r
 | .int k n,v,r=>r
 | .str s,v,r=>r
 | .nil,v,r=>r
 | .slice k xs z,v,.inl r=>.inl r
 | .slice k xs z,v,.inr ⟨b,o,cap,h1,h2,h3,h4⟩=>.inr ⟨b,o,cap,h1,h2,h3,cB.bound b k o xs h4⟩
 | .agg cs,v,⟨vs,h1,h2⟩=>⟨vs,h1,aX.bound cs vs h2⟩
 | .func f,v,r=>r
 | .nilFunc,v,r=>r
 | .nilIface,v,r=>r
 | .nilPtr,v,r=>r
 | .aV,v,r=>r
 | .iface t d,v,⟨u,h1,h2⟩=>⟨u,h1,aE.bound d u h2⟩
 | .tuple ds,v,⟨vs,h1,h2⟩=>⟨vs,h1,aX.bound ds vs h2⟩
theorem aX.bound {w:World} {J:Nat->Nat->Prop}:∀(ds:List Dat) (vs:List Value),aX w J ds vs->aX w (fun b o=>J b o/\b<w.heap.size) ds vs
 | [],vs,r=>r
 | d::ds,vs,⟨v,vs',h1,h2,h3⟩=>⟨v,vs',h1,aE.bound d v h2,aX.bound ds vs' h3⟩
theorem dO.bound {w:World} {J:Nat->Nat->Prop} (b:Nat):∀(o:Nat) (ds:List Dat),dO w J b o ds->dO w (fun b o=>J b o/\b<w.heap.size) b o ds
 | o,[],_=>trivial
 | o,d::ds,⟨⟨v,h1,h2,h5,h3⟩,h4⟩=>⟨⟨v,h1,⟨h2,cell_lt h1⟩,h5,aE.bound d v h3⟩,dO.bound b (o+1) ds h4⟩
theorem cB.bound {w:World} {J:Nat->Nat->Prop} (b k:Nat):∀(o:Nat) (cs:List (List Dat)),cB w J b k o cs->cB w (fun b o=>J b o/\b<w.heap.size) b k o cs
 | o,[],_=>trivial
 | o,c::cs,⟨h1,h2,h3⟩=>⟨h1,dO.bound b o c h2,cB.bound b k (o+k) cs h3⟩
end
theorem Rel.enter {c:Cx} {w0:World} {n nx:Nat} {F:Fr} {vs:List V} {gvs:List Value} (hh:cZ c w0 nx) (hF:F.K<=nx) (hp:F.p c) (hv:ax c vs gvs) (hn:vs.length<=n) :
  Rel c w0 n F ⟨fr 0 vs,c.heap,nx,[],nx⟩ { tmps:=gvs.toArray++Array.replicate (n - gvs.toArray.size) undef,defers:=[] }:=by
 have hlen:=hv.length;refine ⟨rfl,hh,?_,?_,hp,hF,Nat.le_refl _,rfl⟩
 ·simp;omega
 ·intro i v hi
  obtain ⟨h1,h2⟩:=Bt _ _ _ _ hi;simp only [Nat.sub_zero] at h2;obtain ⟨u,g1,g2⟩:=hv.get i v h2;have:(gvs.toArray++Array.replicate (n - gvs.toArray.size) undef).getD i undef=u:=by
   have hi' : i<gvs.length:=by
    by_cases hh:i<gvs.length
    ·exact hh
    ·rw [List.getElem?_eq_none (by omega)] at g1;cases g1
   rw [Array.getD_eq_getD_getElem?,Array.getElem?_append_left (by simpa using hi')];simp [g1]
  rw [this];exact g2
theorem l7 {P:Program} {fn:Func} {t:Array Value} {w:World} {us:List Value} (f1:(fn.results.toList.mapM (fun (x:ResultVar)=>(match x with | .tmp t'=>pure (t.getD t' undef) | .cell x t'=>do loadVar t' (<- asAddr (t.getD x undef)):Sem Value))).run P w = .ok us w) :
  (results fn t).run P w = .ok (if h:us.toArray.size=1 then us.toArray[0] else .tuple us.toArray) w:=by
 unfold results;rw [Array.mapM_eq_mapM_toList];have:((List.toArray <$> fn.results.toList.mapM (fun (x:ResultVar)=>(match x with | .tmp t'=>pure (t.getD t' undef) | .cell x t'=>do loadVar t' (<- asAddr (t.getD x undef)):Sem Value)))).run P w = .ok us.toArray w:=by
  rw [map_eq_pure_bind,run_bind_ok f1];rfl
 exact run_bind_ok this
def o4:List V->V
 | [v]=>v
 | vs=>.tuple vs
theorem Jy {c:Cx} {vs:List V} {us:List Value} (h:ax c vs us):aA c (o4 vs) (if h:us.toArray.size=1 then us.toArray[0] else .tuple us.toArray):=by
 have hl:=h.length
 match vs,h,hl with
 | [],h,hl=>simp [ax] at h;subst h;exact ⟨[],by simp,rfl⟩
 | [v],h,hl=>
  obtain ⟨u,us',rfl,h1,h2⟩:=h;simp [ax] at h2;subst h2;simpa [o4] using h1
 | v::v'::r,h,hl=>
  rw [dif_neg (by simp at hl ⊢;omega)];exact ⟨us,rfl,h⟩
def Hk (res:List jh) (Q:Res->Heap->Nat->Prop):aH->St->Prop
 | .normal,st=>st.defers=[]/\∃vs,resV st res=some vs/\Q (.val (o4 vs)) st.heap st.next
 | .ret,st=>st.defers=[]/\∃vs,resV st res=some vs/\Q (.val (o4 vs)) st.heap st.next
 | .panic d,st=>st.defers=[]/\Q (.pan d) st.heap st.next
 | .exit _,_=>False
theorem aR.body {P:Program} {f:FuncId} {m:bJ} (h:aR P f m):nJ P f:=by
 obtain ⟨fn,code,h1,h2,h3,_⟩:=h;exact ⟨fn,h1,by rw [h2];rfl,h3⟩
theorem pS {P:Program} {f:FuncId} {m:bJ} (hf:aR P f m) {vs:List V} {h:Heap} {nx:Nat} {Q:Res->Heap->Nat->Prop} (hn:Nat.ble vs.length m.n=true)
  (hw:WT P (fun e st=>∃st',(st' = st\/Weak st st')/\Hk m.res Q e st') (exec m.code ⟨fr 0 vs,h,nx,[],nx⟩ Tree.done)):l5 P f vs h nx Q:=by
 refine ⟨hf.body,?_⟩;obtain ⟨fn,code,h1,h2,h0,h3,h4,h5⟩:=hf;rintro c w0 F gvs rfl hh hF hp hv
 let F' : Fr:=⟨nx,F.p,fun c c' he hc=>F.ok c c' (he.mono hF) hc⟩
 refine calls_of_wp h1 h2 ?_;rw [h3];refine Code.wp_mono ?_ (kD (plainW P) code m.code h5 (.inl rfl) Tree.done _ _ _ (Rel.enter (F:=F') hh (Nat.le_refl _) hp hv (Nat.le_of_ble_eq_true hn)) hw);intro e a' w' ⟨c1,me,st1,e1',e2',e3',e4',e5',e6'⟩;subst e3';simp only [WT] at e6';obtain ⟨st',yJ,e6⟩:=e6';obtain ⟨c',k1,k2,k3,k5,e5⟩:∃c',c'.B=c1.B/\c'.J0=c1.J0/\c'.w=c1.w/\Keeps c1.w c1.w (Imm c1) (Imm c')/\Rel c' w0 m.n F' st' a':=by
  rcases yJ with rfl|yJ
  ·exact ⟨c1,rfl,rfl,rfl,fun b o h=>⟨h,rfl⟩,e5'⟩
  ·exact e5'.weak yJ
 have e1:=k1.trans e1';have e2:=k2.trans e2';have e4:bG c' e me:=by
  cases e<;>cases me<;>simp only [bG] at e4' ⊢<;>first|exact e4' | skip
  obtain ⟨v,h1,h2⟩:=e4';exact ⟨v,h1,by rw [k3];exact aE.keep k5 _ _ h2⟩
 rw [<- k3];have hnx:nx<=st'.next:=Nat.le_trans e5.mK e5.base;have hdef:st'.defers=[]->a'.defers=[]:=fun hd=>by have:=e5.defers;rw [hd] at this;exact this
 have key:(st'.defers=[]/\∃vs,resV st' m.res=some vs/\Q (.val (o4 vs)) st'.heap st'.next)->a'.defers=[]/\∃v,(results fn a'.tmps).run P c'.w = .ok v c'.w/\(∃c'' r nx',c''.B=c.B/\c''.J0=c.J0/\c''.w=c'.w/\cZ c'' w0 nx'/\nx<=nx'/\F.p c''/\KL c'' (.returned v) r/\Q r c''.heap nx'):=by
  rintro ⟨hd,vs',hvs,hq⟩;obtain ⟨us,f1,f2⟩:=q9 (P:=P) e5 h4 hvs;refine ⟨hdef hd,_,l7 f1,c',.val (o4 vs'),st'.next,e1,e2,rfl,e5.hrel,hnx,e5.frames,Jy f2,?_⟩;rw [e5.heap];exact hq
 cases e with
 | normal=>cases me<;>simp only [bG] at e4;exact key e6
 | ret=>cases me<;>simp only [bG] at e4;exact key e6
 | exit id=>cases me<;>simp only [bG] at e4;exact e6.elim
 | goto l=>cases me<;>simp only [bG] at e4
 | panic ch=>
  cases me<;>simp only [bG] at e4
  rename_i d;obtain ⟨hd,hq⟩:=e6;exact ⟨hdef hd,c',.pan d,st'.next,e1,e2,rfl,e5.hrel,hnx,e5.frames,e4,by rw [e5.heap];exact hq⟩
 | outgrown=>cases me<;>simp only [bG] at e4
theorem l5.mono {P:Program} {f:FuncId} {vs:List V} {h:Heap} {nx:Nat} {Q Q' : Res->Heap->Nat->Prop} (hs:l5 P f vs h nx Q) (hq:∀r h' nx',Q r h' nx'->Q' r h' nx'):l5 P f vs h nx Q':=by
 refine ⟨hs.1,fun c w0 F gvs h1 h2 h3 h4 h5=>(hs.2 c w0 F gvs h1 h2 h3 h4 h5).mono ?_⟩;rintro e w' ⟨c',r,nx',e1,e2,e3,e4,e5,e6,e7,e8⟩;exact ⟨c',r,nx',e1,e2,e3,e4,e5,e6,e7,hq _ _ _ e8⟩
theorem EV {P:Program} {f:FuncId} {vs:List V} {h:Heap} {nx:Nat} {Q:Res->Heap->Nat->Prop} {ds:List Dat} {r:Dat} (hb:nJ P f) (hd:lX h vs=some ds) (hr:Ret P f ds r) (hq:Q (.val (V.fD r)) h nx):l5 P f vs h nx Q:=by
 refine ⟨hb,?_⟩;rintro c w0 F gvs rfl hh hF hp hv;refine (hr c.w (Imm c) gvs hh.glob (nM hd hv)).mono ?_;rintro e w' ⟨v,rfl,hv,hbel⟩;have hev:=Evo.grow hh hbel;refine ⟨{ c with w:=w' },.val (V.fD r),nx,rfl,rfl,rfl,hh.grow hbel,Nat.le_refl _,F.ok _ _ (hev.toK _) hp,aA.fD ?_,hq⟩;refine aE.keep ?_ _ _ hv;intro b o' hj;refine ⟨?_,rfl⟩
 rcases hj with hj|⟨hj1,hj2⟩
 ·exact (hev.keeps b o' hj).1
 ·refine .inr ⟨hh.qV hj1,hj2,?_⟩
  intro id blk hl hph hg;have:=hh.jI hl hph;have hg' : (c.pl id).gb=b:=hg;omega
def iU (h:Heap):List V->Option (List Dat)
 | []=>some []
 | v::r=>match v.dat h,uy v,iU h r with
  | some x,true,some l=>some (x::l)
  | _,_,_=>none
def V.uK (h:Heap):V->Option Dat
 | .d x=>some x
 | .row id len=>match look h id with
  | some (.var cs)=>match iU h cs,Nat.beq cs.length len with
   | some ds,true=>some (.slice 1 (ds.map fun d=>[d]) false)
   | _,_=>none
  | _=>none
 | .agg cs=>(go cs).map Dat.agg
 | .ref id _ off len=>match look h id with
  | some (.arr k xs)=>some (.slice k ((xs.drop off).take len) false)
  | some (.mt k _ xs)=>some (.slice k ((xs.drop off).take len) false)
  | _=>none
 | .func f [] []=>some (.func f)
 | _=>none
where
 go:List V->Option (List Dat)
  | []=>some []
  | .d x::r=>match go r with|some l=>some (x::l)|none=>none
  | .ref id _ off len::r=>match look h id,go r with
   | some (.arr k xs),some l=>some (.slice k ((xs.drop off).take len) false::l)
   | some (.mt k _ xs),some l=>some (.slice k ((xs.drop off).take len) false::l)
   | _,_=>none
  | .func f [] []::r=>match go r with|some l=>some (.func f::l)|none=>none
  | _=>none
def eI (h:Heap):List V->Option (List Dat)
 | []=>some []
 | v::r=>match v.uK h,eI h r with
  | some x,some l=>some (x::l)
  | _,_=>none
def V.cur (h:Heap):V->Bool
 | .agg cs=>go cs
 | .ref id ver _ _=>match look h id with
  | some (.mt _ dE _)=>Nat.beq ver dE
  | _=>true
 | _=>true
where
 go:List V->Bool
  | []=>true
  | .ref id ver _ _::r=>match look h id with
   | some (.mt _ dE _)=>Nat.beq ver dE&&go r
   | _=>go r
  | _::r=>go r
def yK (h:Heap):List V->Bool
 | []=>true
 | v::r=>v.cur h&&yK h r
def lI:List Dat->Dat
 | [d]=>d
 | ds=>.tuple ds
section
variable {c : Cx} {w0 : World} {nx : Nat} {J : Nat -> Nat -> Prop} (hh : cZ c w0 nx) (hk : Keeps c.w c.w (Imm c) J) (hnew : ∀ b o, ¬ c.Old b -> b < c.w.heap.size -> J b o)
include hh hk hnew
theorem EW {id ver off len k dE : Nat} {xs:List (List Dat)} {gv:Value} (hl:look c.heap id=some (.mt k dE xs)) (hv:ver=dE) (h:aA c (.ref id ver off len) gv):aE c.w J (.slice k ((xs.drop off).take len) false) gv:=by
 subst hv;simp only [aA,hl] at h;obtain ⟨_,_,h⟩:=h;obtain ⟨h1,h2⟩:=h rfl;have hlen:((xs.drop off).take len).length=len:=by simp;omega
 rcases h2 with ⟨h2,h3,_⟩|⟨b,o,h2,h3⟩
 ·exact .inl ⟨⟨_,h2,by simp⟩,List.eq_nil_of_length_eq_zero (by omega)⟩
 ·obtain ⟨b3,b4,bb⟩:=hh.blk id _ hl
  refine .inr ⟨b,o,(c.pl id).cap - off,by rw [hlen];exact h2,by rw [hlen];omega,by simp,?_⟩;by_cases hl0:len=0
  ·subst hl0;simp [cB]
  ·obtain ⟨vs,e,g1,g2,g3,g4⟩:=bb (by omega)
   obtain ⟨rfl,rfl⟩:=h3 (by omega);have hgb:=hh.ge id _ hl (show 0<(c.pl id).cap by omega);have hlt:=hh.jI hl (show 0<(c.pl id).cap by omega);have hfl:=mM b4 off len (by omega);refine cB.of_flat (us:=((vs.toList.take (xs.length * k)).drop (off * k)).take (len * k)) (fun x hx=>b4 x (List.mem_of_mem_drop (List.mem_of_mem_take hx))) ?_ ?_
   ·rw [hfl];exact aX.keep hk _ _ ((g3.drop _).take _)
   ·intro j v hv
    refine ⟨?_,hnew _ _ hgb hlt,g4 v (List.mem_of_mem_drop (List.mem_of_mem_take (List.mem_of_getElem? hv)))⟩;rw [List.getElem?_take] at hv
    split at hv
    ·rw [List.getElem?_drop,List.getElem?_take] at hv
     split at hv
     ·rw [bY g1];simpa using hv
     ·simp at hv
    ·simp at hv
theorem Hl:∀{vs:List V} {ds:List Dat} {us:List Value},V.uK.go c.heap vs=some ds->V.cur.go c.heap vs=true->ax c vs us->aX c.w J ds us:=by
 intro vs
 induction vs with
 | nil=>intro ds us h _ r;simp [V.uK.go] at h;subst h;simpa [aX,ax] using r
 | cons v vs ih=>
  intro ds us h hc r;obtain ⟨u,us',rfl,r1,r2⟩:=r;unfold V.uK.go at h
  split at h
  ·simp at *
  ·rename_i x rr heq
   simp only [List.cons.injEq] at heq;obtain ⟨rfl,rfl⟩:=heq
   split at h
   ·rename_i l hl
    simp at h;subst h;exact ⟨u,us',rfl,aE.keep hk _ _ r1,ih hl (by simpa [V.cur.go] using hc) r2⟩
   ·simp at h
  ·rename_i id ver off len rr heq
   simp only [List.cons.injEq] at heq;obtain ⟨rfl,rfl⟩:=heq
   split at h
   ·rename_i k xs l hl1 hl2
    simp at h;subst h;simp only [V.cur.go,hl1] at hc;exact ⟨u,us',rfl,aE.keep hk _ _ (rX hl1 r1),ih hl2 hc r2⟩
   ·rename_i k dE xs l hl1 hl2
    simp at h;subst h;simp only [V.cur.go,hl1,Bool.and_eq_true] at hc;exact ⟨u,us',rfl,EW hh hk hnew hl1 (Nat.eq_of_beq_eq_true hc.1) r1,ih hl2 hc.2 r2⟩
   ·simp at h
  ·rename_i f rr heq
   simp only [List.cons.injEq] at heq;obtain ⟨rfl,rfl⟩:=heq
   split at h
   ·rename_i l hl
    simp at h;subst h;obtain ⟨fs',vs',e1,e3,e2⟩:=r1;simp [ax] at e2 e3;subst e2 e3;exact ⟨u,us',rfl,e1,ih hl (by simpa [V.cur.go] using hc) r2⟩
   ·simp at h
  ·simp at h
theorem CQ:∀{vs:List V} {ds:List Dat} {us:List Value},iU c.heap vs=some ds->ax c vs us->aX c.w J ds us/\∀u∈us,one u=true:=by
 intro vs
 induction vs with
 | nil=>intro ds us h r;simp [iU] at h;subst h;simp [ax] at r;subst r;simp [aX]
 | cons v vs ih=>
  intro ds us h r;obtain ⟨u,us',rfl,r1,r2⟩:=r;unfold iU at h
  split at h
  ·rename_i x l h1 ho h2
   simp at h;subst h;obtain ⟨g1,g2⟩:=ih h2 r2;refine ⟨⟨u,us',rfl,aE.keep hk _ _ (x6 h1 r1),g1⟩,fun y hy=>?_⟩
   rcases List.mem_cons.1 hy with rfl|hy
   ·exact x5 r1 ho
   ·exact g2 y hy
  ·simp at h
theorem Lq {id len:Nat} {cs:List V} {ds:List Dat} {gv:Value} (hl:look c.heap id=some (.var cs)) (hd:iU c.heap cs=some ds) (hlen:cs.length=len) (h:aA c (.row id len) gv):aE c.w J (.slice 1 (ds.map fun d=>[d]) false) gv:=by
 obtain ⟨_,h2,_⟩:=h;obtain ⟨vs,e,g1,g2⟩:=hh.blk id _ hl;obtain ⟨g3,g4⟩:=CQ hh hk hnew hd g2;have hgb:=hh.ge id _ hl trivial;have hlt:=hh.jI hl trivial;have h1:=g3.length;have h3:=g2.length;refine .inr ⟨(c.pl id).gb,0,len,by rw [List.length_map,<- h1,h3,hlen];exact h2,by simp;omega,by simp,?_⟩;refine cB.of_flat (us:=vs.toList) (fun x hx=>?_) ?_ ?_
 ·obtain ⟨d,_,rfl⟩:=List.mem_map.1 hx;rfl
 ·have:(ds.map fun d=>[d]).flatten=ds:=by
   clear hd g3 h1
   induction ds with
   | nil=>rfl
   | cons d ds ih=>simp [ih]
  rw [this];exact g3
 ·intro j v hv
  refine ⟨?_,hnew _ _ hgb hlt,g4 v (List.mem_of_getElem? hv)⟩;rw [Nat.zero_add,bY g1];simpa using hv
theorem Lr {v:V} {x:Dat} {gv:Value} (h:v.uK c.heap=some x) (hc:v.cur c.heap=true) (r:aA c v gv):aE c.w J x gv:=by
 cases v with
 | d y=>simp [V.uK] at h;subst h;exact aE.keep hk _ _ r
 | agg cs=>
  simp only [V.uK,Option.map_eq_some_iff] at h;obtain ⟨ds,h1,rfl⟩:=h;obtain ⟨us,rfl,h2⟩:=r;exact ⟨us,rfl,Hl hh hk hnew h1 hc h2⟩
 | ref id ver off len=>
  simp only [V.uK] at h
  split at h
  ·rename_i k xs hl
   simp at h;subst h;exact aE.keep hk _ _ (rX hl r)
  ·rename_i k dE xs hl
   simp at h;subst h;simp only [V.cur,hl] at hc;exact EW hh hk hnew hl (Nat.eq_of_beq_eq_true hc) r
  ·simp at h
 | row id len=>
  simp only [V.uK] at h
  split at h
  ·rename_i cs hl
   split at h
   ·rename_i ds hd hb
    simp at h;subst h;exact Lq hh hk hnew hl hd (Nat.eq_of_beq_eq_true hb) r
   ·simp at h
  ·simp at h
 | func f fs cap=>
  cases fs with
  | cons a b=>simp [V.uK] at h
  | nil=>
   cases cap with
   | nil=>
    simp [V.uK] at h;subst h;obtain ⟨fs',vs',e1,e3,e2⟩:=r;simp [ax] at e2 e3;subst e2 e3;exact e1
   | cons a b=>simp [V.uK] at h
 | _=>simp [V.uK] at h
theorem uL:∀{vs:List V} {ds:List Dat} {us:List Value},eI c.heap vs=some ds->yK c.heap vs=true->ax c vs us->aX c.w J ds us:=by
 intro vs
 induction vs with
 | nil=>intro ds us h _ r;simp [eI] at h;subst h;simpa [aX,ax] using r
 | cons v vs ih=>
  intro ds us h hc r;obtain ⟨u,us',rfl,r1,r2⟩:=r;simp only [yK,Bool.and_eq_true] at hc;unfold eI at h
  split at h
  ·rename_i x l h1 h2
   simp at h;subst h;exact ⟨u,us',rfl,Lr hh hk hnew h1 hc.1 r1,ih h2 hc.2 r2⟩
  ·simp at h
end
def EX (res:List jh) (r:Dat) (e:aH) (st:St):Prop:=(e = .normal\/e = .ret)/\st.defers=[]/\∃vs ds,resV st res=some vs/\eI st.heap vs=some ds/\yK st.heap vs=true/\lI ds=r
theorem yL {P:Program} {c' : Cx} {w0:World} {n:Nat} {gs:Fr} {st' : St} {a' : Act} {fn:Func} {res:List jh} {J:Nat->Nat->Prop} {w:World} (e5:Rel c' w0 n gs st' a') (hres:ip P fn.results.toList=some res) (hB:c'.B=w.heap.size) (hJ:c'.J0=⟨J,fun _=>False⟩)
  {vs:List V} {ds:List Dat} (g1:resV st' res=some vs) (g2:eI st'.heap vs=some ds) (g3:yK st'.heap vs=true) :
  ∃v,(results fn a'.tmps).run P c'.w = .ok v c'.w/\aE c'.w (fun b o=>J b o\/(w.heap.size<=b/\b<c'.w.heap.size)) (lI ds) v:=by
 have hk:Keeps c'.w c'.w (Imm c') (fun b o=>J b o\/(w.heap.size<=b/\b<c'.w.heap.size)):=by
  intro b o hi;refine ⟨?_,rfl⟩
  rcases hi with ⟨_,hi⟩|⟨hi1,hi2,_⟩
  ·rw [hJ] at hi;exact .inl hi
  ·exact .inr ⟨Nat.le_of_not_lt fun h=>hi1 (.inl (by rw [hB];exact h)),hi2⟩
 obtain ⟨us,f1,f2⟩:=q9 (P:=P) e5 hres g1;rw [<- e5.heap] at g2 g3;have k1:=uL e5.hrel hk (fun b o h1 h2=>.inr ⟨Nat.le_of_not_lt fun h=>h1 (.inl (by rw [hB];exact h)),h2⟩) g2 g3 f2;refine ⟨_,l7 f1,?_⟩;have hl:=k1.length
 match ds,k1,hl with
 | [],k1,hl=>simp [aX] at k1;subst k1;exact ⟨[],by simp,rfl⟩
 | [d],k1,hl=>
  obtain ⟨u,us',rfl,h1,h2⟩:=k1;simp [aX] at h2;subst h2;simpa [lI] using h1
 | d::d'::r,k1,hl=>
  rw [dif_neg (by simp at hl ⊢;omega)];exact ⟨us,rfl,k1⟩
theorem Rel.init {w:World} {J:Nat->Nat->Prop} {args:List Dat} {vs:List Value} {n:Nat} (hG:GOk w.heap.size w) (hrel:aX w J args vs) (hn:args.length<=n) :
  Rel { B:=w.heap.size,J0:=⟨J,fun _=>False⟩,heap:=[],pl:=fun _=>⟨0,0⟩,w:=w } w n Fr.none (oz args) { tmps:=vs.toArray++Array.replicate (n - vs.toArray.size) undef,defers:=[] }:=by
 have hv:ax { B:=w.heap.size,J0:=⟨J,fun _=>False⟩,heap:=[],pl:=fun _=>⟨0,0⟩,w:=w } (args.map V.fD) vs:=by
  refine ax.Lp (aX.keep ?_ _ _ (aX.bound _ _ hrel));intro b o hj;exact ⟨.inl ⟨.inl hj.2,hj.1⟩,rfl⟩
 exact Rel.enter (F:=Fr.none) (nx:=0) ⟨Below.refl _ _,fun _ h=>h.elim,hG,by simp [look],by simp [look],by simp [look],by simp [look]⟩ (Nat.le_refl _) trivial hv (by simpa using hn)
theorem EY {P:Program} {f:FuncId} {m:bJ} (hf:aR P f m) {args:List Dat} {r:Dat} (hn:Nat.ble args.length m.n=true)
  (h:WT P (EX m.res r) (exec m.code (oz args) Tree.done)):Ret P f args r:=by
 obtain ⟨fn,code,h1,h2,h0,h3,h4,h5⟩:=hf;intro w J vs hG hrel;refine calls_of_wp h1 h2 ?_;rw [h3];refine Code.wp_mono ?_ (kD (plainW P) code m.code h5 (.inl rfl) Tree.done _ _ _ (Rel.init hG hrel (Nat.le_of_ble_eq_true hn)) h);intro e a' w' ⟨c',me,st',e1,e2,e3,e4,e5,e6⟩;subst e3;simp only [WT] at e6;obtain ⟨g1,g2,vs',ds,g3,g4,g5,rfl⟩:=e6;obtain ⟨v,hv1,hv2⟩:=yL (P:=P) (w:=w) (J:=J) e5 h4 e1 e2 g3 g4 g5;have hbel:Below w.heap.size w c'.w:=by have:=e5.hrel.below;rw [e1] at this;exact this
 have key:a'.defers=[]/\∃v,(results fn a'.tmps).run P c'.w = .ok v c'.w/\(∃v',Ending.returned v = .returned v'/\aE c'.w (fun b o=>J b o\/(w.heap.size<=b/\b<c'.w.heap.size)) (lI ds) v'/\Below w.heap.size w c'.w):=
  ⟨by have:=e5.defers;rw [g2] at this;exact this,v,hv1,v,rfl,hv2,hbel⟩
 cases e with
 | normal=>exact key
 | ret=>exact key
 | exit id=>cases me<;>simp only [bG] at e4;simp at g1
 | goto l=>cases me<;>simp only [bG] at e4
 | panic ch=>cases me<;>simp only [bG] at e4;simp at g1
 | outgrown=>cases me<;>simp only [bG] at e4
end Uw
namespace Uw
open Go
variable [Glob]
section
variable {P : Program} {Q : aH -> St -> Prop}
theorem Ot {b:Bool} {y n:Tree} (h1:b=true->WT P Q y) (h2:b=false->WT P Q n):WT P Q (.test b y n):=⟨h1,h2⟩
theorem RL {b:Bool} {y n:Tree} (hb:b=true) (h1:WT P Q y):WT P Q (.test b y n):=⟨fun _=>h1,fun h=>(by rw [hb] at h;cases h)⟩
theorem Ou {b:Bool} {y n:Tree} (hb:b=false) (h1:WT P Q n):WT P Q (.test b y n):=⟨fun h=>(by rw [hb] at h;cases h),fun _=>h1⟩
theorem Iw {y n:Tree} (h1:WT P Q y) (h2:WT P Q n):WT P Q (.both y n):=⟨h1,h2⟩
theorem aY {e:aH} {st:St} (h:Q e st):WT P Q (.done e st):=h
theorem Ix {f:FuncId} {ds:List Dat} {k:Dat->Tree} (r:Dat) (h:Ret P f ds r) (h2:WT P Q (k r)):WT P Q (.call f ds k):=⟨r,h,h2⟩
theorem dW {xs:List (List Dat)} {i:Nat} {k:List Dat->Tree} (x:List Dat) (h:xs[i]? = some x) (h2:WT P Q (k x)):WT P Q (.elem xs i k):=⟨x,h,h2⟩
theorem CU {s:List UInt8} {i:Nat} {k:UInt8->Tree} (x:UInt8) (h:s[i]? = some x) (h2:WT P Q (k x)):WT P Q (.byte s i k):=⟨x,h,h2⟩
theorem RN {o:Option Dat} {k:Dat->Tree} (x:Dat) (h:o=some x) (h2:WT P Q (k x)):WT P Q (.val o k):=⟨x,h,h2⟩
theorem mS {o:Option Blk} {k:Blk->Tree} (x:Blk) (h:o=some x) (h2:WT P Q (k x)):WT P Q (.blk o k):=⟨x,h,h2⟩
theorem CV {o:Option V} {k:V->Tree} (x:V) (h:o=some x) (h2:WT P Q (k x)):WT P Q (.B2 o k):=⟨x,h,h2⟩
theorem yM {h:Heap} {k:Heap->Tree} (h' : Heap) (hh:∀i,look h' i=look h i) (h2:WT P Q (k h')):WT P Q (.heq h k):=⟨h',hh,h2⟩
theorem Ov {h:Heap} {k:Heap->Tree} (h2:WT P Q (k h)):WT P Q (.heq h k):=⟨h,fun _=>rfl,h2⟩
theorem CW {c:b9} {st:St} {k:aH->St->Tree} (h:NI P c st fun e st'=>WT P Q (k e st')):WT P Q (.code c st k):=h
theorem Ox {x y:Option V} {t:Tree} (h:x=y) (h1:WT P Q t):WT P Q (.same x y t):=⟨h,h1⟩
theorem bZ {fuel:Nat} {l:List DOp} {st:St} {k:aH->St->Tree} (S:St) (h:WT P (fun e s=>(e = .normal/\Weak s S)\/(∃d,e = .panic d/\∃s',(s' = s\/Weak s s')/\WT P Q (k e s'))) (yk l (keepR l st.regs) fuel [] [] st Tree.done)) (h2:WT P Q (k .normal S)):WT P Q (.code (.draw fuel l) st k):=by
 refine CW (Br (WT.mono ?_ _ h));rintro e s (⟨rfl,hw⟩|⟨d,rfl,s',hw,hq⟩)
 ·exact ⟨S,.inr hw,h2⟩
 ·exact ⟨s',hw,hq⟩
theorem o5 {fuel:Nat} {l:List DOp} {st:St} {k:aH->St->Tree} (h:WT P (fun e s=>∃d,e = .panic d/\WT P Q (k e s)) (yk l (keepR l st.regs) fuel [] [] st Tree.done)):WT P Q (.code (.draw fuel l) st k):=by
 refine CW (Br (WT.mono ?_ _ h));rintro e s ⟨d,rfl,hq⟩;exact ⟨s,.inl rfl,hq⟩
theorem Oy {f:FuncId} {m:bJ} (hf:aR P f m) {vs:List V} {h:Heap} {nx:Nat} {R:Res->Heap->Nat->Prop} (hn:Nat.ble vs.length m.n=true)
  (hw:WT P (Hk m.res R) (exec m.code ⟨fr 0 vs,h,nx,[],nx⟩ Tree.done)):l5 P f vs h nx R:=pS hf hn (WT.mono (fun e st hq=>⟨st,.inl rfl,hq⟩) _ hw)
theorem RO {f:FuncId} {vs:List V} {h:Heap} {nx:Nat} {k:Res->Heap->Nat->Tree} {R:Res->Heap->Nat->Prop} (hs:l5 P f vs h nx R) (h2:∀r h' nx',R r h' nx'->WT P Q (k r h' nx')):WT P Q (.sub f vs h nx k):=hs.mono h2
theorem dF {f:FuncId} {m:bJ} (hf:aR P f m) {vs:List V} {h:Heap} {nx:Nat} {k:Res->Heap->Nat->Tree} (hn:Nat.ble vs.length m.n=true)
  (hw:WT P (Hk m.res fun r h' nx'=>WT P Q (k r h' nx')) (exec m.code ⟨fr 0 vs,h,nx,[],nx⟩ Tree.done)):WT P Q (.sub f vs h nx k):=Oy hf hn hw
theorem iq {f:FuncId} {vs:List V} {h:Heap} {nx:Nat} {k:Res->Heap->Nat->Tree} {ds:List Dat} (r:Dat) (hb:nJ P f) (hd:lX h vs=some ds) (hr:Ret P f ds r) (hq:WT P Q (k (.val (V.fD r)) h nx)):WT P Q (.sub f vs h nx k):=EV hb hd hr hq
theorem dX {res:List jh} {R:Res->Heap->Nat->Prop} {st:St} {vs:List V} (hd:st.defers=[]) (h:resV st res=some vs) (hq:R (.val (o4 vs)) st.heap st.next):WT P (Hk res R) (.done .ret st):=⟨hd,vs,h,hq⟩
theorem uM {res:List jh} {R:Res->Heap->Nat->Prop} {st:St} {vs:List V} (hd:st.defers=[]) (h:resV st res=some vs) (hq:R (.val (o4 vs)) st.heap st.next):WT P (Hk res R) (.done .normal st):=⟨hd,vs,h,hq⟩
theorem nN {res:List jh} {R:Res->Heap->Nat->Prop} {st:St} {d:Dat} (hd:st.defers=[]) (hq:R (.pan d) st.heap st.next):WT P (Hk res R) (.done (.panic d) st):=⟨hd,hq⟩
theorem ak {res:List jh} {r:Dat} {st:St} {vs:List V} {ds:List Dat} (hd:st.defers=[]) (h:resV st res=some vs) (h2:eI st.heap vs=some ds) (h3:yK st.heap vs=true) (he:lI ds=r):WT P (EX res r) (.done .ret st):=⟨.inr rfl,hd,vs,ds,h,h2,h3,he⟩
theorem az {f:FuncId} {m:bJ} (hf:aR P f m) {args:List Dat} {r:Dat} (hn:Nat.ble args.length m.n=true) (h:WT P (EX m.res r) (exec m.code (oz args) Tree.done)):Ret P f args r:=
 EY hf hn h
def mT {α:Type} (S:α->St) (inv:α->Prop) (mu:α->Nat) (x:α) (Q:aH->St->Prop):aH->St->Prop
 | .normal,s=>∃y,inv y/\mu y<mu x/\Weak s (S y)
 | e,s=>Q e s
theorem dG {α:Type} (S:α->St) (inv:α->Prop) (mu:α->Nat) (x0:α) {m:b9} {st:St} {k:aH->St->Tree} (hw:Weak st (S x0)) (h0:inv x0)
  (round:∀x,inv x->WT P (mT S inv mu x fun e s=>WT P Q (k e s)) (exec m (S x) Tree.done)):WT P Q (.code (.loop m) st k):=by
 refine CW (Jx (fun n s=>∃x,n=mu x/\inv x/\s=S x) (mu x0) (S x0) hw ⟨x0,rfl,h0,rfl⟩ ?_);rintro n s ⟨x,rfl,hx,rfl⟩;refine WT.mono ?_ _ (round x hx);intro e s hq
 cases e with
 | normal=>obtain ⟨y,h1,h2,h3⟩:=hq;exact ⟨mu y,S y,h2,h3,y,rfl,h1,rfl⟩
 | exit j=>exact hq
 | ret=>exact hq
 | panic d=>exact hq
def RQ (R:St->Prop) (Q:aH->St->Prop):aH->St->Prop
 | .normal,s=>R s
 | e,s=>Q e s
def Rounds (P:Program) (m:b9) (Q:aH->St->Prop):Nat->St->Prop
 | 0,_=>False
 | n+1,st=>WT P (RQ (Rounds P m Q n) Q) (exec m st Tree.done)
theorem dY (n:Nat) {m:b9} {st:St} {k:aH->St->Tree} (h:Rounds P m (fun e s=>WT P Q (k e s)) n st):WT P Q (.code (.loop m) st k):=by
 intro S nt pol code hc hdf c w0 gs a r;obtain ⟨x,rfl,hx⟩:=Bq hc;refine S.TT n ?_;have key:∀n c' st a,c'.B=c.B->c'.J0=c.J0->Rel c' w0 nt gs st a->Rounds P m (fun e s=>WT P Q (k e s)) n st->
   S.rounds x (fun e a' w'=>∃c'' me st',c''.B=c.B/\c''.J0=c.J0/\c''.w=w'/\bG c'' e me/\Rel c'' w0 nt gs st' a'/\WT P Q (k me st')) n a c'.w:=by
  intro n
  induction n with
  | zero=>intro c' st a _ _ _ h;exact h.elim
  | succ n ih=>
   intro c' st a hB hJ r h;refine S.mono (kD S x m hx (hdf.imp id fun h=>by simp [noD] at h;exact h) Tree.done c' st a r h) ?_;intro e a'' w'' ⟨c'',me,s',f1,f2,f3,f4,f5,f6⟩;subst f3;simp only [WT] at f6
   cases e with
   | normal=>cases me<;>simp only [bG] at f4;exact ih c'' s' a'' (f1.trans hB) (f2.trans hJ) f5 f6
   | exit id=>cases me<;>simp only [bG] at f4;rename_i j;exact ⟨c'',.exit j,s',f1.trans hB,f2.trans hJ,rfl,f4,f5,f6⟩
   | goto l=>cases me<;>simp only [bG] at f4
   | ret=>cases me<;>simp only [bG] at f4;exact ⟨c'',.ret,s',f1.trans hB,f2.trans hJ,rfl,trivial,f5,f6⟩
   | panic ch=>cases me<;>simp only [bG] at f4;rename_i d;exact ⟨c'',.panic d,s',f1.trans hB,f2.trans hJ,rfl,f4,f5,f6⟩
   | outgrown=>cases me<;>simp only [bG] at f4
 exact key n c st a rfl rfl r h
theorem c8 {m:b9} {n:Nat} {s:St} (h:WT P (RQ (Rounds P m Q n) Q) (exec m s Tree.done)):WT P (RQ (Rounds P m Q (n+1)) Q) (.done .normal s):=h
theorem mC {R:St->Prop} {j:Nat} {s:St} (h:Q (.exit j) s):WT P (RQ R Q) (.done (.exit j) s):=h
theorem jv {R:St->Prop} {s:St} (h:Q .ret s):WT P (RQ R Q) (.done .ret s):=h
section
variable {α : Type} {S : α -> St} {inv : α -> Prop} {mu : α -> Nat} {x : α}
theorem cv (y:α) {s:St} (hi:inv y) (hm:mu y<mu x) (hw:Weak s (S y)):WT P (mT S inv mu x Q) (.done .normal s):=⟨y,hi,hm,hw⟩
theorem aC {j:Nat} {s:St} (h:Q (.exit j) s):WT P (mT S inv mu x Q) (.done (.exit j) s):=h
theorem bj {s:St} (h:Q .ret s):WT P (mT S inv mu x Q) (.done .ret s):=h
theorem mU {s:St} {d:Dat} (h:Q (.panic d) s):WT P (mT S inv mu x Q) (.done (.panic d) s):=h
end
def oC (ρ:Nat->Nat) (regs:fp) (h h' : Heap):fp->Prop
 | []=>True
 | (i,v')::r=>(∃v,look regs i=some v/\VW ρ h h' v v')/\oC ρ regs h h' r
def Ls (ρ:Nat->Nat) (h h' : Heap) (next:Nat):Heap->Prop
 | []=>True
 | (i,b')::r=>(((∃b,look h (ρ i)=some b/\nD ρ h h' b b')\/(look h (ρ i)=none/\ju b'))/\Nat.blt i next=true)/\Ls ρ h h' next r
def Bv (ρ:Nat->Nat) (h h' : Heap):Nat->Prop
 | 0=>True
 | n+1=>(ρ n=n/\((look h n).isSome=true->(look h' n).isSome=true))/\Bv ρ h h' n
def dh:List (Nat×Nat)->Nat->Nat
 | [],i=>i
 | (a,b)::r,i=>match Nat.beq a i with
  | true=>b
  | false=>dh r i
def Jz:Heap->List Nat
 | []=>[]
 | (i,_)::r=>i::Jz r
def yN (ρ:Nat->Nat):List Nat->Bool
 | []=>true
 | i::r=>(r.all fun j=>!(Nat.beq (ρ i) (ρ j))||Nat.beq i j)&&yN ρ r
theorem mV {ρ:Nat->Nat} {h h' : Heap}:∀{n:Nat},Bv ρ h h' n->∀id,id<n->ρ id=id/\((look h id).isSome=true->(look h' id).isSome=true)
 | 0,_,id,hid=>by omega
 | n+1,⟨h1,h2⟩,id,hid=>by
  by_cases he:id=n
  ·subst he;exact h1
  ·exact mV h2 id (by omega)
theorem kl {ρ:Nat->Nat} {regs:fp} {h h' : Heap}:∀{r:fp},oC ρ regs h h' r->∀i v',look r i=some v'->∃v,look regs i=some v/\VW ρ h h' v v'
 | [],_,i,v,hh=>by simp [look] at hh
 | (j,u)::r,⟨h1,h2⟩,i,v,hh=>by
  rw [ai] at hh;by_cases hj:j=i
  ·rw [if_pos hj] at hh;injection hh with hh;subst hh;subst hj;exact h1
  ·rw [if_neg hj] at hh;exact kl h2 i v hh
theorem km {ρ:Nat->Nat} {h h' : Heap} {next:Nat}:∀{r:Heap},Ls ρ h h' next r->∀i b',look r i=some b'->((∃b,look h (ρ i)=some b/\nD ρ h h' b b')\/(look h (ρ i)=none/\ju b'))/\i<next
 | [],_,i,v,hh=>by simp [look] at hh
 | (j,u)::r,⟨h1,h2⟩,i,v,hh=>by
  rw [ai] at hh;by_cases hj:j=i
  ·rw [if_pos hj] at hh;injection hh with hh;subst hh;subst hj;exact ⟨h1.1,by simpa using h1.2⟩
  ·rw [if_neg hj] at hh;exact km h2 i v hh
theorem ra:∀{h:Heap} {id:Nat},(look h id).isSome=true->id∈Jz h
 | [],id,hh=>by simp [look] at hh
 | (j,u)::r,id,hh=>by
  rw [ai] at hh;by_cases hj:j=id
  ·simp [Jz,hj]
  ·rw [if_neg hj] at hh;simp [Jz,ra hh]
theorem vS {ρ:Nat->Nat}:∀{l:List Nat},yN ρ l=true->∀i∈l,∀j∈l,ρ i=ρ j->i=j
 | [],_,i,hi,_,_,_=>by simp at hi
 | x::l,h,i,hi,j,hj,he=>by
  rw [yN,Bool.and_eq_true] at h;have key:∀y∈l,ρ x=ρ y->x=y:=by
   intro y hy hxy;have:=List.all_eq_true.1 h.1 y hy;rw [hxy] at this;simpa using this
  rw [List.mem_cons] at hi hj
  rcases hi with rfl|hi
  ·rcases hj with rfl|hj
   ·rfl
   ·exact key j hj he
  ·rcases hj with rfl|hj
   ·exact (key i hi he.symm).symm
   ·exact vS h.2 i hi j hj he
theorem Weak.ofR (l:List (Nat×Nat)) {st st' : St} (h1:oC (dh l) st.regs st.heap st'.heap st'.regs) (h2:Ls (dh l) st.heap st'.heap st'.next st'.heap) (h3:st'.base=st.base) (h4:Nat.ble st.base st'.next=true) (h5:Bv (dh l) st.heap st'.heap st.base)
  (h8:yN (dh l) (Jz st'.heap)=true) (h6:cF st'.heap st'.defers=true) (h7:st.defers=fC (dh l) st'.defers):Weak st st':=
 ⟨dh l,fun i v h=>kl h1 i v h,fun i b h=>(km h2 i b h).1,fun i b h=>(km h2 i b h).2,h3,Nat.le_of_ble_eq_true h4,mV h5,fun id id' hi hi' he=>vS h8 id (ra hi) id' (ra hi') he,h6,h7⟩
def Blk.ren (ρ:Nat->Nat):Blk->Blk
 | .var cs=>.var (fC ρ cs)
 | b=>b
def Blk.closed (h:Heap):Blk->Bool
 | .var cs=>cF h cs
 | _=>true
theorem sa {ρ:Nat->Nat} {h h' : Heap}:∀{cs:List V},cF h' cs=true->VWL ρ h h' (fC ρ cs) cs
 | [],_=>trivial
 | v::r,hc=>by
  simp only [cF,Bool.and_eq_true] at hc;exact ⟨.inl ⟨rfl,hc.1⟩,sa hc.2⟩
theorem EZ {ρ:Nat->Nat} {h h' : Heap} {b:Blk} (hc:b.closed h' = true):nD ρ h h' (b.ren ρ) b:=by
 cases b with
 | var cs=>exact sa hc
 | arr k xs=>exact ⟨rfl,rfl⟩
 | mt k v xs=>exact ⟨rfl,rfl,rfl⟩
 | iter s p=>exact ⟨rfl,rfl⟩
 | map kk es=>exact ⟨rfl,rfl⟩
theorem rb {α:Type}:∀{l:List (Nat×α)} {i:Nat} {a:α},look l i=some a->(i,a)∈l
 | [],i,a,h=>by simp [look] at h
 | (j,b)::r,i,a,h=>by
  rw [ai] at h;by_cases hj:j=i
  ·rw [if_pos hj] at h;injection h with h;subst h;subst hj;simp
  ·rw [if_neg hj] at h;simp [rb h]
def Iy (ρ:Nat->Nat) (h h' : Heap):Nat->Bool
 | 0=>true
 | n+1=>Nat.beq (ρ n) n&&(!(look h n).isSome||(look h' n).isSome)&&Iy ρ h h' n
theorem E0 {ρ:Nat->Nat} {h h' : Heap}:∀{n:Nat},Iy ρ h h' n=true->Bv ρ h h' n
 | 0,_=>trivial
 | n+1,hk=>by
  rw [Iy,Bool.and_eq_true,Bool.and_eq_true] at hk;refine ⟨⟨Nat.eq_of_beq_eq_true hk.1.1,fun hs=>?_⟩,E0 hk.2⟩;have:=hk.1.2;rw [hs] at this;simpa using this
theorem tM {α β:Type} {f g:α->β}:∀{l:List α},l.map f=l.map g->∀a∈l,f a=g a
 | [],_,a,ha=>by simp at ha
 | x::l,h,a,ha=>by
  simp only [List.map_cons,List.cons.injEq] at h;rw [List.mem_cons] at ha
  rcases ha with rfl|ha
  ·exact h.1
  ·exact tM h.2 a ha
theorem Weak.eqs (l:List (Nat×Nat)) {st st' : St} (h1:st'.regs.map (fun p=>look st.regs p.1)=st'.regs.map (fun p=>some (p.2.ren (dh l)))) (h1c:(st'.regs.all fun p=>p.2.closed st'.heap)=true)
  (h2:st'.heap.map (fun p=>look st.heap (dh l p.1))=st'.heap.map (fun p=>some (p.2.ren (dh l)))) (h2c:(st'.heap.all fun p=>p.2.closed st'.heap&&Nat.blt p.1 st'.next)=true)
  (h3:st'.base=st.base) (h4:Nat.ble st.base st'.next=true) (h5:Iy (dh l) st.heap st'.heap st.base=true) (h8:yN (dh l) (Jz st'.heap)=true) (h6:cF st'.heap st'.defers=true) (h7:st.defers=fC (dh l) st'.defers):Weak st st':=by
 refine ⟨dh l,?_,?_,?_,h3,Nat.le_of_ble_eq_true h4,mV (E0 h5),fun id id' hi hi' he=>vS h8 id (ra hi) id' (ra hi') he,h6,h7⟩
 ·intro i v' hv
  have hm:=rb hv;exact ⟨v'.ren (dh l),tM h1 (i,v') hm,.inl ⟨rfl,List.all_eq_true.1 h1c (i,v') hm⟩⟩
 ·intro id b' hb
  have hm:=rb hb;have:=List.all_eq_true.1 h2c (id,b') hm;rw [Bool.and_eq_true] at this;exact .inl ⟨b'.ren (dh l),tM h2 (id,b') hm,EZ this.1⟩
 ·intro id b' hb
  have:=List.all_eq_true.1 h2c (id,b') (rb hb);rw [Bool.and_eq_true] at this;simpa using this.2
theorem Weak.of {st st' : St} (h1:oC (dh []) st.regs st.heap st'.heap st'.regs) (h2:Ls (dh []) st.heap st'.heap st'.next st'.heap) (h3:st'.base=st.base) (h4:Nat.ble st.base st'.next=true) (h5:Bv (dh []) st.heap st'.heap st.base)
  (h6:cF st'.heap st'.defers=true) (h7:st.defers=fC (dh []) st'.defers):Weak st st':=
 ⟨dh [],fun i v h=>kl h1 i v h,fun i b h=>(km h2 i b h).1,fun i b h=>(km h2 i b h).2,h3,Nat.le_of_ble_eq_true h4,mV h5,fun id id' _ _ he=>he,h6,h7⟩
end
end Uw
namespace Uw
open Go Go.RowKit
variable [Glob]
structure Lt where
 n:Nat
 pol:Pol
 t:Nat
 ops:List MI
 rest:b9
def isRec (o:Oper):Option Nat:=
 match o.op,o.guard,o.dst with
 | .call c,none,some t=>match c.callee with
  | .builtin .recover=>some t
  | _=>none
 | _,_,_=>none
def QN (P:Program) (f:FuncId) (n:Nat) (pol:Pol):Option (Nat×List MI×b9):=
 match P.funcs[f]? with
 | some fn=>match fn.body,fn.results.toList with
  | some (.seq (.region _ ops false) code),[]=>match ops.toList with
   | o::l=>match !(fn.name == "runtime.NumGoroutine")&&Nat.beq fn.ntmps n,isRec o,dN P n pol ops.toList l,comp P n pol code with
    | true,some t,some mi,some c=>match Nat.blt t n with
     | true=>some (t,mi,c)
     | false=>none
    | _,_,_,_=>none
   | []=>none
  | _,_=>none
 | none=>none
def E1 (P:Program) (f:FuncId) (m:Lt):Prop:=QN P f m.n m.pol=some (m.t,m.ops,m.rest)
def Iz (c:Cx):Option Dat->FrameMode->Prop
 | none,u=>u = .returning
 | some d,u=>∃v,u = .panicking [{ v:=v,recovered:=false }]/\aE c.w (Imm c) d v
def Lu:Option Dat->Dat
 | some d=>d
 | none=>.nilIface
def CX (P:Program) (f:FuncId) (vs:List V) (h:Heap) (nx:Nat) (mode:Option Dat) (Q:Heap->Nat->Prop):Prop:=
 nJ P f/\∀(c:Cx) (w0:World) (F:Fr) (gvs:List Value) (u:FrameMode),c.heap=h->cZ c w0 nx->F.K<=nx->F.p c->ax c vs gvs->Iz c mode u->
  CallsD P f gvs.toArray u c.w fun e u' w'=>∃c' nx' v,c'.B=c.B/\c'.J0=c.J0/\c'.w=w'/\cZ c' w0 nx'/\nx<=nx'/\F.p c'/\e = .returned v/\settle u' = .returning/\Q c'.heap nx'
theorem Lx {P:Program} {o:Oper} {a:Act} {w:World} {K K' : Act->World->Prop} {Q Q' : Exit->Act->World->Prop} (h:∀a w,K a w->K' a w) (hq:∀e a w,Q e a w->Q' e a w) (hh:o.wp P a w K Q):o.wp P a w K' Q':=by
 unfold Oper.wp at *;generalize (execOp a.eval o).run P w=r at *
 cases r with
 | ok n w'=>
  cases n<;>simp only [Oper.upon] at hh ⊢<;>
   first
    | exact h _ _ hh
    | exact Calls.mono hh (fun e w'' he=>by cases e<;>first|exact h _ _ he|exact hq _ _ _ he|(obtain ⟨a1,w1,h1⟩:=he;exact ⟨a1,w1,hq _ _ _ h1⟩))
    | exact Rows.mono hh (fun _ _ he=>h _ _ he)
 | halt x w'=>cases x<;>simp only [Oper.upon] at hh ⊢<;>first|exact hq _ _ _ hh|exact hh
theorem pT {P:Program} {ops:Array Oper} {Q Q' : Exit->Act->World->Prop} (hq:∀e a w,Q e a w->Q' e a w):∀(l:List Oper) (a:Act) (w:World),wpList P ops Q l a w->wpList P ops Q' l a w
 | [],a,w,h=>hq _ _ _ h
 | o::l,a,w,h=>by
  simp only [wpList] at h ⊢
  split at h
  ·rename_i hw
   rw [if_pos hw]
   rcases h with h|⟨h1,a1,w1,h2⟩
   ·exact .inl (Lx (fun a w=>pT hq l a w) hq h)
   ·exact .inr ⟨h1,a1,w1,hq _ _ _ h2⟩
  ·rename_i hw
   rw [if_neg hw];exact pT hq l _ _ h
theorem xC {P:Program} {ops:Array Oper} {Q:Exit->Act->List Frame->World->Prop} {cs:List Frame} (hno:∀a w,¬Q .outgrown a cs w):∀(l:List Nat) (a:Act) (w:World),wpOps P ops (fun e a w=>Q e a cs w) l a w->wpOpsS P ops Q l a cs w:=by
 intro l
 induction l with
 | nil=>intro a w h;exact h
 | cons i l ih=>
  intro a w h;simp only [wpOps] at h;simp only [wpOpsS]
  cases ho:ops[i]? with
  | none=>simp only [ho] at h ⊢;exact ih a w h
  | some o=>
   simp only [ho] at h ⊢
   split
   ·rename_i hw
    simp only [hw,if_true] at h
    rcases h with h|⟨_,a',w',hl⟩
    ·have h':=Oper.wp_mono ih h
     unfold Oper.wp at h'
     split
     ·rename_i w' hr
      rw [hr] at h';exact h'.elim
     ·exact h'
    ·exact (hno _ _ hl).elim
   ·rename_i hw
    simp only [hw] at h;exact ih _ _ h
theorem Ly {P:Program} {f:FuncId} {m:Lt} (h:E1 P f m):∃fn id ops code o l,P.funcs[f]? = some fn/\fn.body=some (.seq (.region id ops false) code)/\fn.results.toList=[]/\ops.toList=o::l/\(fn.name == "runtime.NumGoroutine")=false/\fn.ntmps=m.n/\isRec o=some m.t/\dN P m.n m.pol ops.toList l=some m.ops/\comp P m.n m.pol code=some m.rest/\m.t<m.n:=by
 unfold E1 QN at h
 split at h
 ·rename_i fn hf
  split at h
  ·rename_i id ops code hb hr
   split at h
   ·rename_i o l ho
    split at h
    ·rename_i t mi c h1 h2 h3 h4
     split at h
     ·rename_i h5
      simp only [Option.some.injEq,Prod.mk.injEq] at h;obtain ⟨rfl,rfl,rfl⟩:=h;rw [Bool.and_eq_true] at h1;exact ⟨fn,id,ops,code,o,l,hf,hb,hr,ho,by simpa using h1.1,Nat.eq_of_beq_eq_true h1.2,h2,h3,h4,by simpa using h5⟩
     ·simp at h
    ·simp at h
   ·simp at h
  ·simp at h
 ·simp at h
theorem LA {P:Program} {o:Oper} {t:Nat} (h:isRec o=some t):o.guard=none/\o.dst=some t/\∀(a:Act) (w:World),(execOp a.eval o).run P w = .ok .recover w:=by
 unfold isRec at h
 split at h
 ·rename_i cl t' ho hg hd
  split at h
  ·rename_i hc
   simp at h;subst h;refine ⟨hg,hd,fun a w=>?_⟩;obtain ⟨cal,args,ats⟩:=cl;simp only at hc;subst hc;simp only [execOp,ho,resolve,invoke,builtin];rfl
  ·simp at h
 ·simp at h
def Oz (Q:Heap->Nat->Prop) (e:aH) (s:St):Prop:=(e = .normal\/e = .ret)/\s.defers=[]/\Q s.heap s.next
noncomputable def UD (m:Lt) (st:St) (q:aH->St->Tree):Tree:=
 dc m.ops none st fun e st'=>match e with
  | .normal=>exec m.rest st' q
  | e=>q e st'
theorem uN {P:Program} {f:FuncId} {m:Lt} (hf:E1 P f m) {vs:List V} {h:Heap} {nx:Nat} {mode:Option Dat} {Q:Heap->Nat->Prop} (hn:Nat.ble vs.length m.n=true)
  (hw:WT P (Oz Q) (UD m (put (some m.t) (.d (Lu mode)) ⟨fr 0 vs,h,nx,[],nx⟩) Tree.done)):CX P f vs h nx mode Q:=by
 obtain ⟨fn,id,ops,code,o,l,h1,h2,hres,hol,hname,hnt,hrec,hcl,hcode,htn⟩:=Ly hf;refine ⟨⟨fn,h1,by rw [h2];rfl,hname⟩,?_⟩;rintro c w0 F gvs u rfl hh hF hp hv hmode
 let F' : Fr:=⟨nx,F.p,fun c c' he hc=>F.ok c c' (he.mono hF) hc⟩
 have r0:=Rel.enter (F:=F') (n:=m.n) hh (Nat.le_refl _) hp hv (Nat.le_of_ble_eq_true hn);obtain ⟨hg,hdst,hrun⟩:=LA (P:=P) hrec;refine callsD_of_wpS h1 h2 ?_;intro c₀ cs hu;rw [hnt];have final:∀(v:Value) (u' : FrameMode),settle u' = .returning->aA c (.d (Lu mode)) v->
   wpOpsS P ops (Exit.thenS (code.wpS P (bodyPostS P fn c₀ cs fun e u' w'=>∃c' nx' v,c'.B=c.B/\c'.J0=c.J0/\c'.w=w'/\cZ c' w0 nx'/\nx<=nx'/\F.p c'/\e = .returned v/\settle u' = .returning/\Q c'.heap nx')) (bodyPostS P fn c₀ cs fun e u' w'=>∃c' nx' v,c'.B=c.B/\c'.J0=c.J0/\c'.w=w'/\cZ c' w0 nx'/\nx<=nx'/\F.p c'/\e = .returned v/\settle u' = .returning/\Q c'.heap nx'))
    (List.range' 1 l.length) (({ tmps:=gvs.toArray++Array.replicate (m.n - gvs.toArray.size) undef,defers:=[] }:Act).put o.dst v) ({ c₀ with mode:=u' }::cs) c.w:=by
  intro v u' hset hvr;have r1:=r0.put (dst:=some m.t) (by simpa using htn) hvr;have hend:∀(e:Exit) (a' : Act) (w' : World),Came P (Oz Q) Tree.done c w0 m.n F' e a' w'->bodyPostS P fn c₀ cs (fun e u' w'=>∃c' nx' v,c'.B=c.B/\c'.J0=c.J0/\c'.w=w'/\cZ c' w0 nx'/\nx<=nx'/\F.p c'/\e = .returned v/\settle u' = .returning/\Q c'.heap nx') e a' ({ c₀ with mode:=u' }::cs) w':=by
   intro e a' w' ⟨c',me,st',e1,e2,e3,e4,e5,e6⟩;subst e3;simp only [WT,Oz] at e6;obtain ⟨g1,g2,g3⟩:=e6;have hdef:a'.defers=[]:=by have:=e5.defers;rw [g2] at this;exact this
   have hres' : (results fn a'.tmps).run P c'.w = .ok (.tuple #[]) c'.w:=by
    have:=l7 (P:=P) (fn:=fn) (t:=a'.tmps) (w:=c'.w) (us:=[]) (by rw [hres];simp);simpa using this
   have key:a'.defers=[]/\∃u'',{ c₀ with mode:=u' }::cs={ c₀ with mode:=u'' }::cs/\∃v,(results fn a'.tmps).run P c'.w = .ok v c'.w/\(∃c'' nx' v',c''.B=c.B/\c''.J0=c.J0/\c''.w=c'.w/\cZ c'' w0 nx'/\nx<=nx'/\F.p c''/\Ending.returned v = .returned v'/\settle u'' = .returning/\Q c''.heap nx'):=
    ⟨hdef,u',rfl,_,hres',c',st'.next,_,e1,e2,rfl,e5.hrel,Nat.le_trans e5.mK e5.base,e5.frames,rfl,hset,by rw [e5.heap];exact g3⟩
   cases e with
   | normal=>exact key
   | ret=>exact key
   | exit id=>cases me<;>simp only [bG] at e4;simp at g1
   | goto l=>cases me<;>simp only [bG] at e4
   | panic ch=>cases me<;>simp only [bG] at e4;simp at g1
   | outgrown=>cases me<;>simp only [bG] at e4
  have hlist:=tD (P:=P) (n:=m.n) (pol:=m.pol) (ops:=ops.toList) (Q:=Oz Q) (w0:=w0) (gs:=F') (c0:=c) l m.ops none c _ _ hcl rfl rfl r1 (by intro t w' h' hh;simp at hh) hw;have e:ops.toList.toArray=ops:=by simp
  rw [e] at hlist;rw [hdst];refine xC ?_ _ _ _ ?_
  ·intro a w hq
   simp only [Exit.thenS,bodyPostS] at hq;obtain ⟨u'',c',nx',v',_,_,_,_,_,_,hh,_⟩:=hq
   cases hh
  ·rw [wpOps_eq_wpList l 1 (by intro j;rw [<- Array.getElem?_toList,hol,Nat.add_comm];rfl)]
   refine pT ?_ _ _ _ hlist;intro e' a' w' hq;obtain ⟨c',me,st',e1,e2,e3,e4,e5,e6⟩:=hq;subst e3
   cases e' with
   | normal=>
    cases me<;>simp only [bG] at e4
    simp only [Exit.thenS];refine wpS_of_wp (Code.wp_mono ?_ (kD (plainW P) code m.rest hcode (.inl rfl) Tree.done c' st' a' e5 e6));intro e'' a'' w'' VI;obtain ⟨c'',me',B6,f1,f2,f3,f4,f5,f6⟩:=VI;exact hend _ _ _ ⟨c'',me',B6,f1.trans e1,f2.trans e2,f3,f4,f5,f6⟩
   | exit id=>cases me<;>simp only [bG] at e4;rename_i j;exact hend (.exit id) a' c'.w ⟨c',.exit j,st',e1,e2,rfl,e4,e5,e6⟩
   | goto l=>cases me<;>simp only [bG] at e4
   | ret=>cases me<;>simp only [bG] at e4;exact hend .ret a' c'.w ⟨c',.ret,st',e1,e2,rfl,trivial,e5,e6⟩
   | panic ch=>cases me<;>simp only [bG] at e4;rename_i d;exact hend (.panic ch) a' c'.w ⟨c',.panic d,st',e1,e2,rfl,e4,e5,e6⟩
   | outgrown=>cases me<;>simp only [bG] at e4
 refine wpS_seq (wpS_region ?_);have hsize:ops.size=l.length+1:=by rw [<- Array.length_toList,hol];rfl
 rw [hsize,List.range_eq_range',List.range'_succ];have ho0:ops[0]? = some o:=by rw [<- Array.getElem?_toList,hol];rfl
 simp only [wpOpsS,ho0];have hwant:Region.wanted o (yielded ops (gvs.toArray++Array.replicate (m.n - gvs.toArray.size) undef))=true:=by simp [Region.wanted,hg]
 rw [if_pos hwant];rw [hrun];simp only []
 cases mode with
 | none=>
  have hu' : c₀.mode = .returning:=by rw [hu];exact hmode
  have:recoverD (c₀::cs)=none:=by simp [recoverD,hu']
  simp only [this];have:=final .nilIface .returning rfl (by simp [aA,Lu,aE]);have ec:({ c₀ with mode:=.returning }:Frame)=c₀:=by rw [<- hu']
  rw [ec] at this;simpa using this
 | some d=>
  obtain ⟨v,hu2,hv2⟩:=hmode;have hu' : c₀.mode = .panicking [{ v:=v,recovered:=false }]:=by rw [hu];exact hu2
  have:recoverD (c₀::cs)=some (v,{ c₀ with mode:=.panicking [{ v:=v,recovered:=true }] }::cs):=by simp [recoverD,hu']
  simp only [this];have:=final v (.panicking [{ v:=v,recovered:=true }]) rfl hv2;simpa using this
def UE (P:Program) (res:List jh) (r:Dat) (e:aH) (st:St):Prop:=
 ((e = .normal\/e = .ret)/\st.defers=[]/\∃vs ds,resV st res=some vs/\eI st.heap vs=some ds/\yK st.heap vs=true/\lI ds=r)\/
 ∃mode g fs cs,((e = .normal\/e = .ret)/\mode=none\/∃d,e = .panic d/\mode=some d)/\st.defers=[.func g fs cs]/\
  CX P g (fs++cs) st.heap st.next mode fun h' nx'=>∃vs ds,resV { st with heap:=h',next:=nx' } res=some vs/\eI h' vs=some ds/\yK h' vs=true/\lI ds=r
theorem Hm {P:Program} {f:FuncId} {fs cs:Array Value} {w:World} (hb:nJ P f):(invoke (.fn (.func f) cs) fs).run P w = .ok (.enter f (fs++cs)) w:=by
 obtain ⟨fn,hf,hb,hn⟩:=hb;have hb' : fn.body.isNone=false:=by cases h:fn.body<;>simp [h] at hb ⊢
 simp only [invoke];unfold callFunc;rw [run_bind_ok (s:=program) (x:=P) (w':=w) rfl];simp only [hf,hn,hb',Bool.false_eq_true,if_false];rfl
theorem Came.weak {P:Program} {Q:aH->St->Prop} {c:Cx} {w0:World} {n:Nat} {gs:Fr} {e:Exit} {a:Act} {w:World} (h:Came P (fun e st=>∃st',(st' = st\/Weak st st')/\Q e st') Tree.done c w0 n gs e a w):Came P Q Tree.done c w0 n gs e a w:=by
 obtain ⟨c1,me,st1,e1',e2',e3',e4',e5',e6'⟩:=h;subst e3';simp only [WT] at e6';obtain ⟨st',yJ,e6⟩:=e6';obtain ⟨c',k1,k2,k3,k5,e5⟩:∃c',c'.B=c1.B/\c'.J0=c1.J0/\c'.w=c1.w/\Keeps c1.w c1.w (Imm c1) (Imm c')/\Rel c' w0 n gs st' a:=by
  rcases yJ with rfl|yJ
  ·exact ⟨c1,rfl,rfl,rfl,fun b o h=>⟨h,rfl⟩,e5'⟩
  ·exact e5'.weak yJ
 have e4:bG c' e me:=by
  cases e<;>cases me<;>simp only [bG] at e4' ⊢<;>first|exact e4' | skip
  obtain ⟨v,h1,h2⟩:=e4';exact ⟨v,h1,by rw [k3];exact aE.keep k5 _ _ h2⟩
 exact ⟨c',me,st',k1.trans e1',k2.trans e2',k3,e4,e5,e6⟩
theorem kE {P:Program} {f:FuncId} {m:bJ} (hf:aR P f m) {args:List Dat} {r:Dat} (hn:Nat.ble args.length m.n=true)
  (h:WT P (fun e st=>∃st',(st' = st\/Weak st st')/\UE P m.res r e st') (exec m.code (oz args) Tree.done)):Ret P f args r:=by
 obtain ⟨fn,code,h1,h2,h0,h3,h4,h5⟩:=hf;intro w J vs hG hrel;refine calls_of_wp_defers h1 h2 ?_;rw [h3];refine Code.wp_mono ?_ (kD (plainW P) code m.code h5 (.inl rfl) Tree.done _ _ _ (Rel.init hG hrel (Nat.le_of_ble_eq_true hn)) h);intro e a' w' UF;obtain ⟨c',me,st',e1,e2,e3,e4,e5,e6⟩:=UF.weak;subst e3;simp only [WT] at e6
 rcases e6 with ⟨g1,g2,vs',ds,g3,g4,g5,rfl⟩|⟨mode,g,fs,cs,hmode,hdef,UG⟩
 ·obtain ⟨v,hv1,hv2⟩:=yL (P:=P) (w:=w) (J:=J) e5 h4 e1 e2 g3 g4 g5
  have hbel:Below w.heap.size w c'.w:=by have:=e5.hrel.below;rw [e1] at this;exact this
  have hd:a'.defers=[]:=by have:=e5.defers;rw [g2] at this;exact this
  have key:Leaves P fn a'.tmps (fun e w'=>∃v,e = .returned v/\aE w' (fun b o=>J b o\/(w.heap.size<=b/\b<w'.heap.size)) (lI ds) v/\Below w.heap.size w w') a'.defers .returning c'.w:=by
   rw [hd];exact ⟨v,hv1,v,rfl,hv2,hbel⟩
  cases e with
  | normal=>exact key
  | ret=>exact key
  | exit id=>cases me<;>simp only [bG] at e4;simp at g1
  | goto l=>cases me<;>simp only [bG] at e4
  | panic ch=>cases me<;>simp only [bG] at e4;simp at g1
  | outgrown=>cases me<;>simp only [bG] at e4
 ·have hd:=e5.defers
  rw [hdef] at hd;obtain ⟨dd,ds',f',first,cap,us,ws,hd1,hd2,hd3,hd4,hd5,hd6⟩:=hd;simp only [V.func.injEq] at hd2;obtain ⟨rfl,rfl,rfl⟩:=hd2;simp only [cw] at hd6;subst hd6 hd3;have key:∀u,u≠.run->Iz c' mode u->Leaves P fn a'.tmps (fun e w'=>∃v,e = .returned v/\aE w' (fun b o=>J b o\/(w.heap.size<=b/\b<w'.heap.size)) r v/\Below w.heap.size w w') a'.defers u c'.w:=by
   intro u hur hu;rw [hd1];refine leaves_cons hur (Hm UG.1) ?_;have hs:=UG.2 c' w (yB Fr.none st' a' e5.frK) (us++ws) u e5.heap e5.hrel (Nat.le_refl _) e5.Rx (hd4.append hd5) hu;rw [<- List.append_toArray] at hs;refine hs.mono ?_;rintro e u' w' ⟨c'',nx',v,pB,pJ,rfl,pH,pn,pF,rfl,hset,vs',ds,q1,q2,q3,rfl⟩;have r':=e5.TW pF pH pn;simp only [hset];obtain ⟨v,hv1,hv2⟩:=yL (P:=P) (w:=w) (J:=J) r' h4 (pB.trans e1) (pJ.trans e2) q1 q2 q3;have hbel:Below w.heap.size w c''.w:=by have:=pH.below;rw [pB,e1] at this;exact this
   exact ⟨v,hv1,v,rfl,hv2,hbel⟩
  cases e with
  | normal=>
   cases me<;>simp only [bG] at e4
   rcases hmode with ⟨_,rfl⟩|⟨d,hh,_⟩
   ·exact key .returning (by simp) rfl
   ·cases hh
  | ret=>
   cases me<;>simp only [bG] at e4
   rcases hmode with ⟨_,rfl⟩|⟨d,hh,_⟩
   ·exact key .returning (by simp) rfl
   ·cases hh
  | exit id=>cases me<;>simp only [bG] at e4;rcases hmode with ⟨hh,_⟩|⟨d,hh,_⟩<;>simp at hh
  | goto l=>cases me<;>simp only [bG] at e4
  | panic ch=>
   cases me<;>simp only [bG] at e4
   rename_i d0
   rcases hmode with ⟨hh,_⟩|⟨d,hh,rfl⟩
   ·simp at hh
   ·injection hh with hh;subst hh
    obtain ⟨v,rfl,hv⟩:=e4;exact key _ (by simp) ⟨v,rfl,hv⟩
  | outgrown=>cases me<;>simp only [bG] at e4
theorem CX.mono {P:Program} {f:FuncId} {vs:List V} {h:Heap} {nx:Nat} {mode:Option Dat} {Q Q' : Heap->Nat->Prop} (hs:CX P f vs h nx mode Q) (hq:∀h' nx',Q h' nx'->Q' h' nx'):CX P f vs h nx mode Q':=by
 refine ⟨hs.1,fun c w0 F gvs u h1 h2 h3 h4 h5 h6=>(hs.2 c w0 F gvs u h1 h2 h3 h4 h5 h6).mono ?_⟩;rintro e u' w' ⟨c',nx',v,e1,e2,e3,e4,e5,e6,e7,e8,e9⟩;exact ⟨c',nx',v,e1,e2,e3,e4,e5,e6,e7,e8,hq _ _ e9⟩
end Uw
namespace Uw
open Go Go.RowKit
variable [Glob]
end Uw
