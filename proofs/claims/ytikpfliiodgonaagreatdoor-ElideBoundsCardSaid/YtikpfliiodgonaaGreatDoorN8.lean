/- N8: Ap Aq Ar As At Au Av Aw Bz By Bx Bw Bv Bt Fd Gi Cn Gj Gk Gl Bp Xb Xc Xd Xe Xf Xg Xh Xi Xj Aa Bo Gm Bn (merged by merge2.py from the working texts). -/
import Derived.Test.YtikpfliiodgonaaGreatDoorN7
import Derived.Test.YtikpfliiodgonaaGreatDoorN6
import Derived.Shelf.Slices.Equal
import Derived.Shelf.SlSortCmp.Whole1
import Derived.Shelf.SlSortCmp.NoneTotal
import Derived.Test.YtikpfliiodgonaaGreatDoorN3
import Derived.Test.YtikpfliiodgonaaGreatDoorN5
import Derived.Test.YtikpfliiodgonaaGreatDoorN4
import Derived.Test.YtikpfliiodgonaaGreatDoorNs
import Derived.Lib.AtoiErrMem
set_option maxRecDepth 100000
set_option maxHeartbeats 4000000
set_option linter.unusedSimpArgs false
set_option linter.unnecessarySimpa false
set_option linter.unusedVariables false
set_option linter.unusedSectionVars false
namespace Uw.Tryz.El
open Go Uw Uw.Tryz
theorem PI {c:Cd} {b:Bd} {f g:Vm.Frame} {i:In4} {a:Vm.Ask} (hs:Vm.stepS c b f i=some (g,a)):a.args.length<=f.stack.length:=by
 have fin:∀{op},Vm.aX op f=some (g,a)->a.args.length<=f.stack.length:=by
  intro op hs;simp only [Vm.aX] at hs
  split at hs
  ·simp at hs;obtain ⟨rfl,rfl⟩:=hs;simp [Vm.aJ]
  ·simp at hs
 revert hs
 refine Vm.kp (fun o=>o=some (g,a)->a.args.length<=f.stack.length) ?_ ?_ ?_ ?_ ?_ (fun _=>fin) (fun _=>fin) (fun _=>fin) (fun _=>fin) (fun _=>fin) ?_ ?_ ?_ ?_ ?_ ?_ ?_ ?_ (fun _=>fin) ?_
 all_goals intro ho hs
 ·simp only [Vm.jX] at hs;split at hs<;>simp at hs;obtain ⟨rfl,rfl⟩:=hs;simp [Vm.aJ]
 ·simp only [Vm.fO] at hs;repeat' split at hs
  all_goals first|(simp at hs;done)|(simp at hs;obtain ⟨rfl,rfl⟩:=hs;simp [Vm.aJ])
 ·simp only [Vm.sb] at hs;repeat' split at hs
  all_goals first|(simp at hs;done)|(simp at hs;obtain ⟨rfl,rfl⟩:=hs;simp [Vm.aJ])
 ·simp only [Vm.o8] at hs;split at hs<;>simp at hs;obtain ⟨rfl,rfl⟩:=hs;simp [Vm.aJ]
 ·simp only [Vm.g8] at hs;split at hs<;>simp at hs;obtain ⟨rfl,rfl⟩:=hs;simp [Vm.aJ]
 ·simp only [Vm.fQ] at hs;split at hs<;>simp at hs;obtain ⟨rfl,rfl⟩:=hs;simp [Vm.aJ]
 ·simp only [Vm.o9] at hs;split at hs<;>simp at hs;obtain ⟨rfl,rfl⟩:=hs;simp [Vm.aJ]
 ·simp only [Vm.cQ] at hs;split at hs
  ·simp at hs;obtain ⟨rfl,rfl⟩:=hs;simp [Vm.dQ]
  ·simp at hs
 ·simp only [Vm.jv] at hs;split at hs<;>simp at hs<;>obtain ⟨rfl,rfl⟩:=hs<;>simp [Vm.aJ]
 ·simp only [Vm.pa] at hs;split at hs<;>simp at hs;obtain ⟨rfl,rfl⟩:=hs;simp [Vm.aJ]
 ·simp only [Vm.kb] at hs;repeat' split at hs
  all_goals first|(simp at hs;done)|(simp at hs;obtain ⟨rfl,rfl⟩:=hs;simp [Vm.aJ])
 ·simp only [Vm.uG] at hs;repeat' split at hs
  all_goals first|(simp at hs;done)|(simp at hs;obtain ⟨rfl,rfl⟩:=hs;simp [Vm.aJ])
 ·simp only [Vm.dC] at hs;split at hs<;>simp at hs;obtain ⟨rfl,rfl⟩:=hs;simp [Vm.aJ]
 ·simp at hs
theorem JP (c:Cd) (b:Bd):∀(n:Nat) (f:Vm.Frame),Vm.Good c b f->∀g a,Vm.runN c b n f = .ok g a->a.args.length<=100
 | 0,f,h=>by simp [Vm.runN]
 | n+1,f,h=>by
  intro g a hr;rw [Vm.runN] at hr
  split at hr
  ·simp at hr
  split at hr
  ·simp at hr
  rename_i hsp hpc;have dD : 0<=f.pc/\f.pc<b.ins.length:=by simpa [Vm.below] using hpc
  have hsp' : f.spent<2000:=by have:=h.sp1;omega
  cases hs:Vm.stepS c b f (Vm.cw b f) with
  | none=>rw [hs] at hr;simp at hr
  | some p=>
   obtain ⟨g1,a1⟩:=p;rw [hs] at hr;have hg:=h.step dD.2 hsp' hs;simp only [] at hr;by_cases hk:a1.kind=0
   ·rw [if_pos hk] at hr
    exact JP c b n g1 hg g a hr
   ·rw [if_neg hk] at hr
    simp at hr;obtain ⟨rfl,rfl⟩:=hr;have:=PI hs;have:=h.stack;omega
theorem PK {c:Cd} {f g:Vm.Frame} {a:Vm.Ask} (hr:Vm.right c f=true) (h:Vm.cz c f = .ok g a):a.args.length<=100:=by
 have hn:Vm.runN c (Vm.dp c f) (Vm.cy f) f = .ok g a:=by
  rw [Vm.cz,if_pos hr] at h;exact h
 exact JP c _ _ f (Vm.Good.of hr) g a hn
theorem iN {c:Cd} {fn:Int} {args:List Int} {task:Int} {path:List Int} (h:(Vm.dc c fn args task path).2=0) :
  (Vm.dc c fn args task path).1=Vm.gq c fn args task path/\Vm.right c (Vm.gq c fn args task path)=true:=by
 unfold Vm.dc at h ⊢
 split at h
 ·rename_i ho
  rw [if_pos ho];refine ⟨rfl,?_⟩;unfold Vm.mX at ho;simp only [aa5,abW,decide_eq_true_eq,decide_eq_false_iff_not] at ho;obtain ⟨⟨⟨⟨h1,h2⟩,h3⟩,h4⟩,h5⟩:=ho;have hb:0<=fn/\fn<c.az.length:=by simpa [Vm.below] using h1
  refine Vm.Good.right (b:=Vm.Dw c fn) ⟨by show 1<=task;omega,hb.1,hb.2,rfl,acO 0,by show (0:Int)<=_;omega,?_,by simp [Vm.gq],by simp [Vm.gq],⟨?_,rfl⟩,acO 0,acO 0,by show (0:Int)<=2000;decide⟩
  ·simp only [Vm.gq,abH,ac0];omega
  ·simp only [Vm.gq,adp,h3,abY]
   exact abe.2 (fun x hx=>by rw [abz hx];rfl)
 ·simp at h
theorem rn {g:Vm.Frame} {k b:Int} {v:List Int} (h:(Vm.aV g k b v).2=0):Vm.lG g k b v=true/\(Vm.aV g k b v).1=Vm.kd g k b v:=by
 unfold Vm.aV at h ⊢
 split at h
 ·rename_i ho;rw [if_pos ho];exact ⟨ho,rfl⟩
 ·simp at h
structure WS (c:Cd) (w:Wd):Prop where
 cells:w.cells.length=c.cells.length
 maps:(w.maps.length:Int)=c.maps
 stacks:(w.stacks.length:Int)=c.stacks
 chans:(w.chans.length:Int)=c.chans
 m1:∀x∈w.maps,hZ 1 x
 m2:∀x∈w.stacks,hZ 2 x
 m3:∀x∈w.chans,hZ 3 x
 many:bF w.maps+bF w.stacks+bF w.chans<=1000
 vals:w.values.length<=64
theorem WI.ws {c:Cd} {w:Wd} (h:WI c w):WS c w:=⟨h.cells,h.maps,h.stacks,h.chans,h.m1,h.m2,h.m3,h.many,h.vals⟩
theorem Nz {c:Cd} {w0 w:Wd} {f:Vm.Frame} (h0:WI c w0) (ws:WS c w) (r:Vm.right c f=true) (t0:1<=f.task) (t1:f.task<=w.values.length) (p:f.path.length<=w0.values.length) (m:0<=f.many/\f.many<=(w.values.length:Int))
  (k:∀k∈f.kids,1<=k.1/\k.1<=(w.values.length:Int))
  (V:Nat) (a1:w0.values.length+1+V=w.values.length) (a2:f.kids.length<=V) (a3:w.uses.length<=w0.uses.length+2000 * V+f.spent.toNat) (a4:w.splits.length+(if f.kids=[] then 0 else 1)<=w0.splits.length+4001 * V+2 * f.spent.toNat) (a5:w.fails.length<=w0.fails.length+V) (a6:w0.aB<=w.aB) (a7:w.aB<=w0.aB+3 * (V:Int)) (a8:w0.steps<=w.steps) (a9:w.steps<=w0.steps+2000 * (V:Int)):Lp c w0 w f:=by
 have g:=Vm.Good.of r;have g1:=g.sp0;have g2:=g.sp1;have b1:=h0.uses;have b2:=h0.splits;have b3:=h0.fails;have b4:=h0.LO;have b5:=h0.str1;have b6:=h0.st0;have b7:=h0.st1;exact ⟨⟨ws.cells,ws.maps,ws.stacks,ws.chans,ws.m1,ws.m2,ws.m3,ws.many,ws.vals,by omega,by omega,by omega,by omega,by omega,by omega,by omega⟩,r,t0,t1,p,m,k,V,a1,a2,a3,a4,a5,a6,a7,a8,a9⟩
theorem DK {c:Cd} {w0 w w' : Wd} {f g f' : Vm.Frame} {a:Vm.Ask} (h0:WI c w0) (hl:Lp c w0 w f) (hk:Vm.Kept c (Vm.dp c f) f g a) (ht:g.task=f.task) (k5:a.kind≠5)
  (ws:WS c w') (r:Vm.right c f' = true) (e1:f'.task=g.task) (e2:f'.path=g.path) (e3:f'.many=g.many) (e4:f'.kids=g.kids) (e5:f'.spent=g.spent)
  (w1:w'.values.length=w.values.length) (w2:w'.uses.length=w.uses.length+1) (w3:w'.splits.length=w.splits.length) (w4:w'.fails.length=w.fails.length) (w5:w'.aB=w.aB) (w6:w'.steps=w.steps):Lp c w0 w' f':=by
 obtain ⟨V,a1,a2,a3,a4,a5,a6,a7,a8,a9⟩:=hl.adds;have l1:=hk.lt k5;have g0:=(Vm.Good.of hl.right).sp0;have kk:f'.kids=f.kids:=e4.trans hk.kids;refine Nz h0 ws r (by rw [e1,ht];exact hl.Ny) (by rw [e1,ht,w1];exact hl.task1) (by rw [e2,hk.path];exact hl.path) (by rw [e3,hk.many,w1];exact hl.many) (by rw [kk,w1];exact hl.kids) V (by omega) (by rw [kk];exact a2) (by rw [e5];omega) (by rw [kk,e5,w3];omega) (by omega) (by omega) (by omega) (by omega) (by omega)
theorem Hv {c:Cd} {w0 w:Wd} {f g:Vm.Frame} {a:Vm.Ask} {s:Int} (h0:WI c w0) (hl:Lp c w0 w f) (hn:Vm.cz c f = .ok g a) (k1:a.kind=1) {v:Int} (h:(Vm.aV g 1 a.b [v]).2=0) :
  Lp c w0 (pd w g.path s a.a) (Vm.aV g 1 a.b [v]).1:=by
 obtain ⟨hao,ht,hk⟩:=bX hl.right hn;obtain ⟨o,e⟩:=rn h;rw [e];simp [Vm.lG] at o;refine DK h0 hl hk ht (by omega) ?_ (hk.good.put (by simpa using o.1) o.2).right rfl rfl rfl rfl rfl rfl (by simp [pd]) rfl rfl rfl rfl;have x:=hl.wi;exact ⟨x.cells,x.maps,x.stacks,x.chans,x.m1,x.m2,x.m3,x.many,x.vals⟩
theorem DL {c:Cd} {w0 w:Wd} {f g:Vm.Frame} {a:Vm.Ask} {s:Int} (h0:WI c w0) (hl:Lp c w0 w f) (hn:Vm.cz c f = .ok g a) (k1:a.kind=2) (h:(Vm.aV g 2 a.b []).2=0) :
  Lp c w0 (iM w g.path s a.a a.b) (Vm.aV g 2 a.b []).1:=by
 obtain ⟨hao,ht,hk⟩:=bX hl.right hn;obtain ⟨o,e⟩:=rn h;rw [e];refine DK h0 hl hk ht (by omega) ?_ hk.good.right rfl rfl rfl rfl rfl rfl (by simp [iM]) rfl rfl rfl rfl;have x:=hl.wi;exact ⟨by simp [iM,x.cells],x.maps,x.stacks,x.chans,x.m1,x.m2,x.m3,x.many,x.vals⟩
theorem mem_set {k:Int} {l:List Cont} {i:Nat} {y:Cont} (h:∀x∈l,hZ k x) (hy:i<l.length->hZ k y):∀x∈l.set i y,hZ k x:=by
 intro x hx
 rcases abK hx with h1|h1
 ·exact h x h1
 ·subst h1
  by_cases hi:i<l.length
  ·exact hy hi
  ·rw [List.set_eq_of_length_le (by omega)] at hx;exact h _ hx
theorem Hw {c:Cd} {w0 w:Wd} {f g:Vm.Frame} {a:Vm.Ask} {s:Int} (h0:WI c w0) (hl:Lp c w0 w f) (hn:Vm.cz c f = .ok g a) (k1:a.kind=3) (hf:gU (bG w g.path s (opA a))=false) {v:Int} (h:(Vm.aV g 3 a.b [v]).2=0) :
  Lp c w0 (bG w g.path s (opA a)) (Vm.aV g 3 a.b [v]).1:=by
 obtain ⟨hao,ht,hk⟩:=bX hl.right hn;obtain ⟨o,e⟩:=rn h;rw [e];simp [Vm.lG] at o;have hop:=hao.op k1;have hfu:bF (bG w g.path s (opA a)).maps+bF (bG w g.path s (opA a)).stacks+bF (bG w g.path s (opA a)).chans<=1000:=by
  have:=of_decide_eq_false hf;omega
 have x:=hl.wi;have hkk:ofK (opA a).kind=1\/ofK (opA a).kind=2\/ofK (opA a).kind=3:=by
  show ofK a.op.1=1\/ofK a.op.1=2\/ofK a.op.1=3;unfold ofK
  repeat' split
  all_goals omega
 have gd:∀{k:Int} {l:List Cont},(∀x∈l,hZ k x)->(opA a).obj.toNat<l.length->hZ k (doS (l.getD (opA a).obj.toNat default) (opA a)).1:=by
  intro k l hx hi;have e:l.getD (opA a).obj.toNat default=l[(opA a).obj.toNat]'hi:=by simp [hi]
  rw [e];exact (Nx _ (hx _ (abg _))).1
 rcases hkk with q|q|q
 ·rw [DG w g.path s (opA a) q] at hfu ⊢
  refine DK h0 hl hk ht (by omega) ?_ (hk.good.put (by simpa using o.1) o.2).right rfl rfl rfl rfl rfl rfl (by simp) rfl rfl rfl rfl;exact ⟨x.cells,by simpa using x.maps,x.stacks,x.chans,mem_set x.m1 (gd x.m1),x.m2,x.m3,hfu,x.vals⟩
 ·rw [DI w g.path s (opA a) q] at hfu ⊢
  refine DK h0 hl hk ht (by omega) ?_ (hk.good.put (by simpa using o.1) o.2).right rfl rfl rfl rfl rfl rfl (by simp) rfl rfl rfl rfl;exact ⟨x.cells,x.maps,by simpa using x.stacks,x.chans,x.m1,mem_set x.m2 (gd x.m2),x.m3,hfu,x.vals⟩
 ·rw [DJ w g.path s (opA a) q] at hfu ⊢
  refine DK h0 hl hk ht (by omega) ?_ (hk.good.put (by simpa using o.1) o.2).right rfl rfl rfl rfl rfl rfl (by simp) rfl rfl rfl rfl;exact ⟨x.cells,x.maps,x.stacks,by simpa using x.chans,x.m1,x.m2,mem_set x.m3 (gd x.m3),hfu,x.vals⟩
theorem Hy {c:Cd} {w0 w:Wd} {f g:Vm.Frame} {a:Vm.Ask} {s b:Int} (h0:WI c w0) (hl:Lp c w0 w f) (hn:Vm.cz c f = .ok g a) (k1:a.kind=5) (h:(Vm.aV g 5 a.b (dJ w g.kids)).2=0) :
  Lp c w0 (jQ w g.kids s b).1 (Vm.aV g 5 a.b (dJ w g.kids)).1:=by
 obtain ⟨hao,ht,hk⟩:=bX hl.right hn;obtain ⟨o,e⟩:=rn h;rw [e];simp [Vm.lG] at o;have hne:=hk.wait k1;have hfk:f.kids≠[]:=by rw [<- hk.kids];exact hne
 obtain ⟨V,a1,a2,a3,a4,a5,a6,a7,a8,a9⟩:=hl.adds;rw [if_neg hfk] at a4;have l1:=hk.le;have g0:=(Vm.Good.of hl.right).sp0;have ej:(jQ w g.kids s b).1={ w with splits:=w.splits++[⟨3,s,0,0,b⟩] }:=by simp [jQ,hne]
 rw [ej];have x:=hl.wi;refine Nz h0 ⟨x.cells,x.maps,x.stacks,x.chans,x.m1,x.m2,x.m3,x.many,x.vals⟩ (hk.good.sync (vals:=dJ w g.kids) (by simpa using o.1.2)).right (by show 1<=g.task;rw [ht];exact hl.Ny) (by show g.task<=_;rw [ht];exact hl.task1) (by show g.path.length<=_;rw [hk.path];exact hl.path) (by show 0<=g.many/\g.many<=_;rw [hk.many];exact hl.many) (by intro k hk;simp [Vm.kd] at hk) V a1 (by simp [Vm.kd]) ?_ ?_ a5 a6 a7 a8 a9
 ·show w.uses.length<=w0.uses.length+2000 * V+g.spent.toNat
  omega
 ·simp only [Vm.kd,abH,abp,ab5]
  show w.splits.length+(0+1)+_<=w0.splits.length+4001 * V+2 * g.spent.toNat;simp;omega
theorem NA {c:Cd} {w0 w:Wd} {f g:Vm.Frame} {a:Vm.Ask} {s b:Int} {n:Bool} (h0:WI c w0) (hl:Lp c w0 w f) (hn:Vm.cz c f = .ok g a) (k1:a.kind=4):WI c (cH w s b n):=by
 obtain ⟨hao,ht,hk⟩:=bX hl.right hn;obtain ⟨V,a1,a2,a3,a4,a5,a6,a7,a8,a9⟩:=hl.adds;have x:=hl.wi;have l1:=hk.lt (by omega);have g0:=(Vm.Good.of hl.right).sp0;have g1:=hk.good.sp1;have b1:=h0.uses;have b2:=h0.splits;have b3:=h0.fails;have b4:=h0.LO;have b5:=h0.str1;have b6:=h0.st0;have b7:=h0.st1;have e1:(cH w s b n).splits.length=w.splits.length+1:=by simp [cH]
 have e2:w.aB<=(cH w s b n).aB/\(cH w s b n).aB<=w.aB+3:=by
  simp only [cH];split<;>omega
 have x1:=x.LO;have e3:(cH w s b n).values.length=w.values.length:=rfl;exact ⟨x.cells,x.maps,x.stacks,x.chans,x.m1,x.m2,x.m3,x.many,x.vals,x.uses,by omega,x.fails,by omega,by omega,x.st0,x.st1⟩
theorem DN {c:Cd} {w0 w W:Wd} {f g:Vm.Frame} {a:Vm.Ask} {s b:Int} {n:Bool} {t:Int} (h0:WI c w0) (hl:Lp c w0 w f) (hn:Vm.cz c f = .ok g a) (k1:a.kind=4) (hd:Done c (cH w s b n) W) (htk:t=(w.values.length:Int)+1) (h:(Vm.aV g 4 a.b [t]).2=0) :
  Lp c w0 W (Vm.aV g 4 a.b [t]).1:=by
 obtain ⟨hao,ht,hk⟩:=bX hl.right hn;obtain ⟨o,e⟩:=rn h;rw [e];simp [Vm.lG] at o;obtain ⟨V,a1,a2,a3,a4,a5,a6,a7,a8,a9⟩:=hl.adds;obtain ⟨U,d1,d2,d3,d4,d5,d6,d7,d8⟩:=hd.adds;have l1:=hk.lt (by omega);have g0:=(Vm.Good.of hl.right).sp0;have g1:=hk.good.sp1;have e1:(cH w s b n).splits.length=w.splits.length+1:=by simp [cH]
 have e2:w.aB<=(cH w s b n).aB/\(cH w s b n).aB<=w.aB+3:=by
  simp only [cH];split<;>omega
 have e3:(cH w s b n).values.length=w.values.length:=rfl;have e4:(cH w s b n).uses.length=w.uses.length:=rfl;have e5:(cH w s b n).fails.length=w.fails.length:=rfl;have e6:(cH w s b n).steps=w.steps:=rfl;have hm:=hl.many;have t1:=hl.task1;have hfk:(if f.kids=[] then 0 else 1)<=1:=by split<;>omega
 have ek:g.kids=f.kids:=hk.kids;have em:g.many=f.many:=hk.many;have ekl:g.kids.length=f.kids.length:=by rw [ek]
 refine Nz h0 hd.wi.ws (hk.good.kid (v:=t) (d:=a.b) (by omega) o.2).right (by show 1<=g.task;rw [ht];exact hl.Ny) (by show g.task<=_;rw [ht];omega) (by show g.path.length<=_;rw [hk.path];exact hl.path) (by show 0<=g.many+1/\g.many+1<=_;rw [em];omega) ?_ (V+1+U) (by omega) ?_ ?_ ?_ (by omega) (by omega) (by omega) (by omega) (by omega)
 ·intro k hk
  have hk:k∈g.kids++[(t,a.b)]:=hk
  rcases abr.1 hk with hk|hk
  ·rw [ek] at hk
   have:=hl.kids k hk;omega
  ·simp at hk;subst hk;simp only;omega
 ·show (g.kids++[(t,a.b)]).length<=_
  simp;omega
 ·show W.uses.length<=w0.uses.length+2000 * (V+1+U)+g.spent.toNat
  omega
 ·show W.splits.length+(if g.kids++[(t,a.b)]=[] then 0 else 1)<=w0.splits.length+4001 * (V+1+U)+2 * g.spent.toNat
  rw [if_neg (by simp)];omega
theorem SS {c:Cd} {w0 w:Wd} {f g:Vm.Frame} {a:Vm.Ask} {s v ab:Int} (h0:WI c w0) (hl:Lp c w0 w f) (hn:Vm.cz c f = .ok g a) (k1:a.kind=6):Done c w0 (endW w g v s ab):=by
 obtain ⟨hao,ht,hk⟩:=bX hl.right hn;obtain ⟨V,a1,a2,a3,a4,a5,a6,a7,a8,a9⟩:=hl.adds;have x:=hl.wi;have l1:=hk.lt (by omega);have g0:=(Vm.Good.of hl.right).sp0;have g1:=hk.good.sp1;have b1:=h0.uses;have b2:=h0.splits;have b3:=h0.fails;have b4:=h0.LO;have b5:=h0.str1;have b6:=h0.st0;have b7:=h0.st1;have e1:(endW w g v s ab).splits.length<=w.splits.length+1:=by simp only [endW];split<;>simp
 have e2:(endW w g v s ab).values.length=w.values.length:=by simp [endW]
 have e3:(endW w g v s ab).uses.length=w.uses.length:=rfl;have e4:(endW w g v s ab).fails.length<=w.fails.length+1:=by simp only [endW];split<;>simp
 have e5:(endW w g v s ab).aB=w.aB:=rfl;have e6:(endW w g v s ab).steps=w.steps+g.spent:=rfl;have hfk:0<=(if f.kids=[] then 0 else 1):=by split<;>omega
 have x1:=x.LO;have x2:=x.vals;refine ⟨⟨x.cells,x.maps,x.stacks,x.chans,x.m1,x.m2,x.m3,x.many,by omega,by omega,by omega,by omega,by omega,by omega,by omega,by omega⟩,V,by omega,by omega,by omega,by omega,by omega,by omega,by omega,by omega⟩
theorem JQ {c:Cd} {w:Wd} {f:Vm.Frame} (h0:WI c w) (h64:w.values.length<64) (r:Vm.right c f=true) (t:f.task=(w.values.length:Int)+1) (p:f.path.length<=w.values.length) (m:f.many=0) (k:f.kids=[]) (s:f.spent=0):Lp c w { w with values:=w.values++[0] } f:=by
 refine Nz h0 ⟨h0.cells,h0.maps,h0.stacks,h0.chans,h0.m1,h0.m2,h0.m3,h0.many,by simp;omega⟩ r (by omega) (by simp;omega) p (by rw [m];simp;omega) (by rw [k];simp) 0 (by simp) (by rw [k];simp) (by simp) (by rw [k];simp) (by simp) (by simp) (by simp) (by simp) (by simp)
theorem fuel_lt {c:Cd} {f g f' : Vm.Frame} {a:Vm.Ask} (hr:Vm.right c f=true) (hk:Vm.Kept c (Vm.dp c f) f g a) (h:f'.spent=g.spent) (h5:a.kind=5->f'.kids=[]):jR f' < jR f:=by
 have g0:=(Vm.Good.of hr).sp0;have g1:=(Vm.Good.of hr).sp1;have g2:=hk.good.sp1;have l1:=hk.le;unfold jR;rw [h];by_cases k5:a.kind=5
 ·have h1:=hk.wait k5
  rw [hk.kids] at h1;rw [if_pos (h5 k5),if_neg h1];omega
 ·have l2:=hk.lt k5
  have q1:(if f'.kids=[] then 0 else 1)<=1:=by split<;>omega
  have q2:0<=(if f.kids=[] then 0 else 1):=by split<;>omega
  omega
theorem DO {c:Cd} {f:Vm.Frame} (hr:Vm.right c f=true):0<jR f:=by
 have g1:=(Vm.Good.of hr).sp1;unfold jR;omega
end Uw.Tryz.El
namespace Uw.Tryz.El
open Go Uw Uw.Tryz
theorem PL {P:Program} {m:bP} {st:St} {Q:ay->St->Prop} (h:Kv P m st fun e s=>∃s',Weak s s'/\Q e s'):Kv P m st Q:=by
 intro S n pol code hc hdf c w0 gs a r;refine S.mono (h S n pol code hc hdf c w0 gs a r) ?_;intro e a' w' ⟨c',me,st',e1,e2,e3,e4,e5,e6⟩;obtain ⟨s',hw,hq⟩:=e6;subst e3;obtain ⟨c3,k1,k2,k3,k5,k4⟩:=e5.weak hw;refine ⟨c3,me,s',k1.trans e1,k2.trans e2,k3,?_,k4,hq⟩
 cases e<;>cases me<;>simp only [bC] at e4 ⊢<;>first|exact e4|skip
 obtain ⟨v,h1,h2⟩:=e4;refine ⟨v,h1,?_⟩;rw [k3];exact aH.keep k5 _ _ h2
theorem SU {P:Program} {Q:ay->St->Prop} {α:Type} (S:α->St) (inv:α->Prop) (mu:α->Nat) (x0:α) (E:St) {m:bP} {st:St} {k:ay->St->Tree} (hw:Weak st (S x0)) (h0:inv x0)
  (round:∀x,inv x->WT P (cP S inv mu x fun e s=>e = .exit 0/\Weak s E) (exec m (S x) Tree.done)) (hE:WT P Q (k (.exit 0) E)):WT P Q (.code (.loop m) st k):=by
 refine qN (PL (EX (fun n s=>∃x,n=mu x/\inv x/\s=S x) (mu x0) (S x0) hw ⟨x0,rfl,h0,rfl⟩ ?_));rintro n s ⟨x,rfl,hx,rfl⟩;refine WT.mono ?_ _ (round x hx);intro e s hq;have hX:e = .exit 0/\Weak s E->∃s',Weak s s'/\WT P Q (k e s'):=by rintro ⟨rfl,h⟩;exact ⟨E,h,hE⟩
 cases e with
 | normal=>obtain ⟨y,h1,h2,h3⟩:=hq;exact ⟨mu y,S y,h2,h3,y,rfl,h1,rfl⟩
 | exit j=>exact hX hq
 | ret=>exact hX hq
 | panic d=>exact hX hq
variable {C1 C2 C3 C4 C5 C6 : Dat} {xc : Nat} {rc : List (List Dat)} {gm xm : Nat} {rm : List (List Dat)} {gs xs : Nat} {rs : List (List Dat)} {gc xh : Nat} {rh : List (List Dat)} {xu : Nat} {ru : List (List Dat)} {xp : Nat} {rp : List (List Dat)} {st : Int} {gv xv : Nat} {rv : List (List Dat)} {sp : Int} {gf xf : Nat} {rf : List (List Dat)}
theorem X9 {c:Cd} {W:Wd} {er:Int} (f:Vm.Frame) (s ab:Int) (hrv:rv.length=xv) (hx:xv<1000000) {α:Type} (S:α->St) (inv:α->Prop) (mu:α->Nat) (x0:α)
  (hw:∀st',Weak st' (lpS (wH [.d C1,.d C2,.d C3,.d C4,.d C5,.d C6] xc rc gm xm rm gs xs rs gc xh rh xu ru xp rp st (gv+1) (xv+1) (rv.take xv++[[I 0]]) sp gf xf rf) (frC f) s 0 ab)->Weak st' (S x0)) (h0:inv x0)
  (round:∀x,inv x->WT P0 (cP S inv mu x fun e s=>e = .exit 0/\Weak s (exS (hB c W) er)) (exec ruB (S x) Tree.done)) :
  eP P0 ed [.agg (frC f),.d (I s),.d (I ab),.ptr 0 0,.ptr 1 0,.ptr 2 0] (wH [.d C1,.d C2,.d C3,.d C4,.d C5,.d C6] xc rc gm xm rm gs xs rs gc xh rh xu ru xp rp st gv xv rv sp gf xf rf) (.d (I er)) (hB c W):=by
 refine dB CV rfl ?_;refine bq ⟨[(9,.d (I 0)),(6,.ptr 12 0),(5,.ptr 2 0),(4,.ptr 1 0),(3,.ptr 0 0),(2,.d (I ab)),(1,.d (I s))],bk 0 (wH [.d C1,.d C2,.d C3,.d C4,.d C5,.d C6] xc rc gm xm rm gs xs rs gc xh rh xu ru xp rp st (gv+1) (xv+1) (rv.take xv++[[I 0]]) sp gf xf rf++[.var (frC f)]),13,[],12⟩ ?_ ?_
 ·repeat refine aw ?_
  exact aj (.inl ⟨rfl,by exact Uw.wM⟩)
 ·repeat refine aw ?_
  refine SU S inv mu x0 (exS (hB c W) er) (hw _ (by exact Uw.wM)) h0 round ?_
  repeat refine aw ?_
  refine dh 12 rfl rfl ?_;exact Uw.wM
end Uw.Tryz.El
namespace Uw.Tryz.El
open Go Uw Uw.Tryz
def QR (c:Cd) (R:Wd×Int):ay->St->Prop:=fun e s=>e = .exit 0/\Weak s (exS (hB c R.1) R.2)
theorem LR {c:Cd} {X R:Wd×Int} (h:X=R):sc c X (QR c R):=by subst h;exact fun s h=>⟨rfl,h⟩
def VH (c:Cd) (rec:Rec) (ab:Int) (R:Wd×Int) (w0:Wd):Wd×Vm.Frame×Int×Int->Prop:=fun (w,f,s,b)=>Lp c w0 w f/\∃n,jR f<=n/\jc c rec n w f s b ab=R
def muR:Wd×Vm.Frame×Int×Int->Nat:=fun (_,f,_,_)=>jR f
theorem Bi {c:Cd} {rec:Rec} {m:Nat} {w w' : Wd} {f g:Vm.Frame} {a:Vm.Ask} {s b s' b' ab:Int} {told:List Int} (hn:Vm.cz c f = .ok g a) (hr:bz c rec w g a s b ab = .go w' told s' b') :
  jc c rec (m+1) w f s b ab=if (Vm.aV g a.kind a.b told).2≠0 then (w',(Vm.aV g a.kind a.b told).2) else jc c rec m w' (Vm.aV g a.kind a.b told).1 s' b' ab:=by
 rw [jc,hn];simp only [hr]
theorem eu {c:Cd} {rec:Rec} {m:Nat} {w w' : Wd} {f g:Vm.Frame} {a:Vm.Ask} {s b ab e:Int} (hn:Vm.cz c f = .ok g a) (hr:bz c rec w g a s b ab = .done w' e) :
  jc c rec (m+1) w f s b ab=(w',e):=by
 rw [jc,hn];simp only [hr]
theorem DR {c:Cd} {rec:Rec} {m:Nat} {w:Wd} {f:Vm.Frame} {s b ab e:Int} (hn:Vm.cz c f = .err e) :
  jc c rec (m+1) w f s b ab=(w,e):=by
 rw [jc,hn]
theorem vV (g:Vm.Frame) (k b:Int) (v:List Int):(Vm.aV g k b v).1.spent=g.spent:=by
 unfold Vm.aV Vm.kd
 repeat' split
 all_goals rfl
theorem ze {g:Vm.Frame} {b:Int} {v:List Int} (h:(Vm.aV g 5 b v).2=0):(Vm.aV g 5 b v).1.kids=[]:=by
 rw [(rn h).2];rfl
theorem DT {c:Cd} {rec:Rec} {m:Nat} {w0 w w' : Wd} {f g:Vm.Frame} {a:Vm.Ask} {s b s' b' ab:Int} {told:List Int} {R:Wd×Int} (k:Int) (hl:Lp c w0 w f) (hn:Vm.cz c f = .ok g a) (hk:a.kind=k) (hr:bz c rec w g a s b ab = .go w' told s' b') (hf:jR f<=m+1) (hR:jc c rec (m+1) w f s b ab=R)
  (hlp:(Vm.aV g k a.b told).2=0->Lp c w0 w' (Vm.aV g k a.b told).1) (h0:(Vm.aV g k a.b told).2=0) :
  VH c rec ab R w0 (w',(Vm.aV g k a.b told).1,s',b')/\muR (w',(Vm.aV g k a.b told).1,s',b')<muR (w,f,s,b):=by
 have hkp:=(bX hl.right hn).2.2;subst hk;have hlt:jR (Vm.aV g a.kind a.b told).1<jR f:=fuel_lt hl.right hkp (vV _ _ _ _) (fun h5=>by rw [h5] at h0 ⊢;exact ze h0);rw [Bi hn hr,if_neg (by simp [h0])] at hR;exact ⟨⟨hlp h0,m,by omega,hR⟩,hlt⟩
theorem DU {c:Cd} {rec:Rec} {m:Nat} {w w' : Wd} {f g:Vm.Frame} {a:Vm.Ask} {s b s' b' ab:Int} {told:List Int} {R:Wd×Int} (k:Int) (hn:Vm.cz c f = .ok g a) (hk:a.kind=k) (hr:bz c rec w g a s b ab = .go w' told s' b') (hR:jc c rec (m+1) w f s b ab=R)
  (h0:(Vm.aV g k a.b told).2≠0):sc c (w',(Vm.aV g k a.b told).2) (QR c R):=by
 subst hk;rw [Bi hn hr,if_pos h0] at hR;exact LR hR
def JR (c:Cd) (d:Nat) (rec:Rec):Prop:=∀(w:Wd) (f:Vm.Frame) (s ab:Int),WI c w->64<=w.values.length+d->w.values.length<64->Vm.right c f=true->f.task=(w.values.length:Int)+1->f.path.length<=w.values.length->f.many=0->f.kids=[]->f.spent=0->
 eP P0 ed [.agg (frC f),.d (I s),.d (I ab),.ptr 0 0,.ptr 1 0,.ptr 2 0] (hB c w) (.d (I (rec w f s ab).2)) (hB c (rec w f s ab).1)/\((rec w f s ab).2=0->Done c w (rec w f s ab).1)
theorem LU {c:Cd} {d:Nat} {rec:Rec} (hrec:JR c d rec) {w0 w:Wd} {f g:Vm.Frame} {a:Vm.Ask} {s b:Int} (h0:WI c w0) (hd:64<=w0.values.length+(d+1)) (hl:Lp c w0 w f) (hn:Vm.cz c f = .ok g a) (k1:a.kind=4) (h64:w.values.length<64) (hk:(dU c w g a).2=0) :
  eP P0 ed [.agg (frC (dU c w g a).1),.d (I w.aB),.d (I (if isNamed g then b else w.aB+2)),.ptr 0 0,.ptr 1 0,.ptr 2 0] (hB c (cH w s b (isNamed g))) (.d (I (rec (cH w s b (isNamed g)) (dU c w g a).1 w.aB (if isNamed g then b else w.aB+2)).2)) (hB c (rec (cH w s b (isNamed g)) (dU c w g a).1 w.aB (if isNamed g then b else w.aB+2)).1)
  /\((rec (cH w s b (isNamed g)) (dU c w g a).1 w.aB (if isNamed g then b else w.aB+2)).2=0->Done c (cH w s b (isNamed g)) (rec (cH w s b (isNamed g)) (dU c w g a).1 w.aB (if isNamed g then b else w.aB+2)).1):=by
 obtain ⟨e1,e2⟩:=iN hk;obtain ⟨V,a1,_⟩:=hl.adds;have hkp:=(bX hl.right hn).2.2;have hp:=hl.path;refine hrec _ _ _ _ (NA h0 hl hn k1) ?_ h64 ?_ ?_ ?_ ?_ ?_ ?_
 ·show 64<=w.values.length+d
  omega
 ·rw [e1];exact e2
 ·rw [e1];rfl
 ·rw [e1]
  show (g.path++[g.many]).length<=w.values.length;rw [hkp.path];simp;omega
 ·rw [e1];rfl
 ·rw [e1];rfl
 ·rw [e1];rfl
theorem PN {c:Cd} (hc:CO c) {d:Nat} {rec:Rec} (hrec:JR c d rec) (ab:Int) (R:Wd×Int) {w0:Wd} (h0:WI c w0) (hd:64<=w0.values.length+(d+1)) (x:Wd×Vm.Frame×Int×Int) (hx:VH c rec ab R w0 x) :
  WT P0 (cP (SL c ab) (VH c rec ab R w0) muR x (QR c R)) (exec ruB (SL c ab x) Tree.done):=by
 obtain ⟨w,f,s,b⟩:=x;obtain ⟨hl,n,hf,hR⟩:=hx;have hp:=DO hl.right;obtain ⟨m,rfl⟩:∃m,n=m+1:=⟨n - 1,by omega⟩
 cases hn:Vm.cz c f with
 | err e=>
  rw [DR hn] at hR;exact PG c hc ab w0 w f e s b hl hn _ _ (LR hR)
 | ok g a=>
  obtain ⟨hao,ht,hkp⟩:=bX hl.right hn;have q1:=hkp.k1;have q6:=hkp.k6;have hk:a.kind=1\/a.kind=2\/a.kind=3\/a.kind=4\/a.kind=5\/a.kind=6:=by omega
  rcases hk with k|k|k|k|k|k
  ·have hr:bz c rec w g a s b ab = .go (pd w g.path s a.a) [w.cells.getD a.a.toNat 0] s b:=by simp [bz,k]
   exact LP c hc rec ab R w0 w f g a s b hl hn k _ _ (DT 1 hl hn k hr hf hR (Hv h0 hl hn k)) (DU 1 hn k hr hR)
  ·have hr:bz c rec w g a s b ab = .go (iM w g.path s a.a a.b) [] s b:=by simp [bz,k]
   exact JJ c hc ab w0 w f g a s b hl hn k _ _ (DT 2 hl hn k hr hf hR (DL h0 hl hn k)) (DU 2 hn k hr hR)
  ·have hr0:gU (bG w g.path s (opA a))=false->bz c rec w g a s b ab = .go (bG w g.path s (opA a)) [eA w (opA a)] s b:=by intro h;simp [bz,k,h]
   have hr1:gU (bG w g.path s (opA a))=true->bz c rec w g a s b ab = .done (bG w g.path s (opA a)) 8:=by intro h;simp [bz,k,h]
   have g1:=fun h=>DT 3 hl hn k (hr0 h) hf hR (Hw h0 hl hn k h);have g2:=fun h=>DU 3 hn k (hr0 h) hR;have g3:gU (bG w g.path s (opA a))=true->sc c (bG w g.path s (opA a),8) (QR c R):=fun h=>by
    rw [eu hn (hr1 h)] at hR;exact LR hR
   have hop:=hao.op k;have hkk:ofK a.op.1=1\/ofK a.op.1=2\/ofK a.op.1=3:=by
    unfold ofK
    repeat' split
    all_goals omega
   rcases hkk with q|q|q
   ·exact JK c hc ab w0 w f g a s b hl hn k q _ _ g1 g2 g3
   ·exact JL c hc ab w0 w f g a s b hl hn k q _ _ g1 g2 g3
   ·exact JM c hc ab w0 w f g a s b hl hn k q _ _ g1 g2 g3
  ·have hr:bz c rec w g a s b ab=g9 c rec w g a s b:=by simp [bz,k]
   have ha:=PK hl.right hn;have ko:=fun h64 hk=>LU (s:=s) (b:=b) hrec h0 hd hl hn k h64 hk;have s0:64<=w.values.length->bz c rec w g a s b ab = .done w 10:=by intro h;rw [hr,g9,if_pos h]
   have s1:w.values.length<64->(dU c w g a).2≠0->bz c rec w g a s b ab = .done w (dU c w g a).2:=by
    intro h h1;rw [hr,g9,if_neg (by omega)];exact if_pos h1
   have s2:w.values.length<64->(dU c w g a).2=0->(rec (cH w s b (isNamed g)) (dU c w g a).1 w.aB (if isNamed g then b else w.aB+2)).2≠0->bz c rec w g a s b ab = .done (rec (cH w s b (isNamed g)) (dU c w g a).1 w.aB (if isNamed g then b else w.aB+2)).1 (rec (cH w s b (isNamed g)) (dU c w g a).1 w.aB (if isNamed g then b else w.aB+2)).2:=by
    intro h h1 h2;rw [hr,g9,if_neg (by omega)];exact (if_neg (by simpa using h1)).trans (if_pos h2)
   have s3:w.values.length<64->(dU c w g a).2=0->(rec (cH w s b (isNamed g)) (dU c w g a).1 w.aB (if isNamed g then b else w.aB+2)).2=0->bz c rec w g a s b ab = .go (rec (cH w s b (isNamed g)) (dU c w g a).1 w.aB (if isNamed g then b else w.aB+2)).1 [(dU c w g a).1.task] (w.aB+1) (if isNamed g then b else w.aB+2):=by
    intro h h1 h2;rw [hr,g9,if_neg (by omega)];exact (if_neg (by simpa using h1)).trans (if_neg (fun hh=>hh h2))
   refine JO c hc ab w0 w f g a s b hl hn k (by omega) (rec (cH w s b (isNamed g)) (dU c w g a).1 w.aB (if isNamed g then b else w.aB+2)) _ _ ?_ ?_ ?_ ?_ ?_ ?_
   ·intro h;rw [eu hn (s0 h)] at hR;exact LR hR
   ·intro h h1;rw [eu hn (s1 h h1)] at hR;exact LR hR
   ·intro h h1;exact (ko h h1).1
   ·intro h h1 h2;rw [eu hn (s2 h h1 h2)] at hR;exact LR hR
   ·intro h h1 h2
    refine DT 4 hl hn k (s3 h h1 h2) hf hR (fun hz=>?_);refine DN h0 hl hn k ((ko h h1).2 h2) ?_ hz;rw [(iN h1).1];rfl
   ·intro h h1 h2
    exact DU 4 hn k (s3 h h1 h2) hR
  ·have hr:bz c rec w g a s b ab = .go (jQ w g.kids s b).1 (dJ w g.kids) b b:=by
    have hne:=hkp.wait k;simp [bz,k,jQ,hne]
   exact LQ c hc ab w0 w f g a s b hl hn k _ _ (DT 5 hl hn k hr hf hR (Hy h0 hl hn k)) (DU 5 hn k hr hR)
  ·have hr:bz c rec w g a s b ab = .done (endW w g a.a s ab) 0:=by simp [bz,k]
   rw [eu hn hr] at hR;exact PH c hc ab w0 w f g a s b hl hn k _ _ (LR hR)
theorem FY {c:Cd} {d:Nat} {rec:Rec} (hrec:JR c d rec) (ab:Int) {w0:Wd} (h0:WI c w0) (hd:64<=w0.values.length+(d+1)):∀(n:Nat) (w:Wd) (f:Vm.Frame) (s b:Int),Lp c w0 w f->jR f<=n->(jc c rec n w f s b ab).2=0->Done c w0 (jc c rec n w f s b ab).1
 | 0,w,f,s,b,hl,hf,_=>by have:=DO hl.right;omega
 | n+1,w,f,s,b,hl,hf,hz=>by
  have IH:=fun w' f' s' b' hl' hf' hz'=>FY hrec ab h0 hd n w' f' s' b' hl' hf' hz'
  cases hn:Vm.cz c f with
  | err e=>
   rw [DR hn] at hz
   rcases Vm.uc hl.right with ⟨e',h1,h2⟩|⟨g,a,h1,_⟩
   ·rw [hn] at h1;injection h1 with h1;subst h1;simp only at hz;omega
   ·rw [hn] at h1;cases h1
  | ok g a=>
   obtain ⟨hao,ht,hkp⟩:=bX hl.right hn;have q1:=hkp.k1;have q6:=hkp.k6;have key:∀{w' told s' b'} (k:Int),a.kind=k->bz c rec w g a s b ab = .go w' told s' b'->((Vm.aV g k a.b told).2=0->Lp c w0 w' (Vm.aV g k a.b told).1)->Done c w0 (jc c rec (n+1) w f s b ab).1:=by
    intro w' told s' b' k hk hr hlp;subst hk;rw [Bi hn hr] at hz ⊢;by_cases ht0:(Vm.aV g a.kind a.b told).2=0
    ·rw [if_neg (by simp [ht0])] at hz ⊢
     have hlt:jR (Vm.aV g a.kind a.b told).1<jR f:=fuel_lt hl.right hkp (vV _ _ _ _) (fun h5=>by rw [h5] at ht0 ⊢;exact ze ht0);exact IH _ _ _ _ (hlp ht0) (by omega) hz
    ·rw [if_pos ht0] at hz;exact absurd hz ht0
   have hk:a.kind=1\/a.kind=2\/a.kind=3\/a.kind=4\/a.kind=5\/a.kind=6:=by omega
   rcases hk with k|k|k|k|k|k
   ·exact key (w':=pd w g.path s a.a) (told:=[w.cells.getD a.a.toNat 0]) (s':=s) (b':=b) 1 k (by simp [bz,k]) (Hv h0 hl hn k)
   ·exact key (w':=iM w g.path s a.a a.b) (told:=[]) (s':=s) (b':=b) 2 k (by simp [bz,k]) (DL h0 hl hn k)
   ·cases hfu:gU (bG w g.path s (opA a)) with
    | true=>
     have hr:bz c rec w g a s b ab = .done (bG w g.path s (opA a)) 8:=by simp [bz,k,hfu]
     rw [eu hn hr] at hz;simp at hz
    | false=>exact key (w':=bG w g.path s (opA a)) (told:=[eA w (opA a)]) (s':=s) (b':=b) 3 k (by simp [bz,k,hfu]) (Hw h0 hl hn k hfu)
   ·have hr:bz c rec w g a s b ab=g9 c rec w g a s b:=by simp [bz,k]
    by_cases h64:64<=w.values.length
    ·have s0:bz c rec w g a s b ab = .done w 10:=by rw [hr,g9,if_pos h64]
     rw [eu hn s0] at hz;simp at hz
    have h64:w.values.length<64:=by omega
    by_cases h1:(dU c w g a).2=0
    ·have ko:=LU (s:=s) (b:=b) hrec h0 hd hl hn k h64 h1
     by_cases h2:(rec (cH w s b (isNamed g)) (dU c w g a).1 w.aB (if isNamed g then b else w.aB+2)).2=0
     ·have s3:bz c rec w g a s b ab = .go (rec (cH w s b (isNamed g)) (dU c w g a).1 w.aB (if isNamed g then b else w.aB+2)).1 [(dU c w g a).1.task] (w.aB+1) (if isNamed g then b else w.aB+2):=by
       rw [hr,g9,if_neg (by omega)];exact (if_neg (by simpa using h1)).trans (if_neg (fun hh=>hh h2))
      refine key 4 k s3 (fun hz'=>DN h0 hl hn k (ko.2 h2) ?_ hz');rw [(iN h1).1];rfl
     ·have s2:bz c rec w g a s b ab = .done (rec (cH w s b (isNamed g)) (dU c w g a).1 w.aB (if isNamed g then b else w.aB+2)).1 (rec (cH w s b (isNamed g)) (dU c w g a).1 w.aB (if isNamed g then b else w.aB+2)).2:=by
       rw [hr,g9,if_neg (by omega)];exact (if_neg (by simpa using h1)).trans (if_pos h2)
      rw [eu hn s2] at hz;exact absurd hz h2
    ·have s1:bz c rec w g a s b ab = .done w (dU c w g a).2:=by
      rw [hr,g9,if_neg (by omega)];exact if_pos h1
     rw [eu hn s1] at hz;exact absurd hz h1
   ·have hne:=hkp.wait k
    exact key (w':=(jQ w g.kids s b).1) (told:=dJ w g.kids) (s':=b) (b':=b) 5 k (by simp [bz,k,jQ,hne]) (Hy h0 hl hn k)
   ·have hr:bz c rec w g a s b ab = .done (endW w g a.a s ab) 0:=by simp [bz,k]
    rw [eu hn hr];exact SS h0 hl hn k
theorem Hz (c:Cd) (hc:CO c):∀d,JR c d (JG c d)
 | 0=>fun w f s ab _ h1 h2=>by omega
 | d+1=>by
  have ih:=Hz c hc d;intro w f s ab hw h1 h2 hr ht hp hm hk hs;have hl:=JQ hw h2 hr ht hp hm hk hs;have e:JG c (d+1) w f s ab=jc c (JG c d) (jR f) { w with values:=w.values++[0] } f s 0 ab:=rfl;rw [e];refine ⟨?_,fun hz=>FY ih ab hw h1 _ _ _ _ _ hl (aa8 _) hz⟩;have hB' : hB c { w with values:=w.values++[0] }=wH [.d (.slice 3 (c.az.map bdC) false),.d (ae c.cells),.d (I c.maps),.d (I c.stacks),.d (I c.chans),.d (I c.main)] w.cells.length (bu w.cells) w.maps.length w.maps.length (w.maps.map aR) w.stacks.length w.stacks.length (w.stacks.map aR) w.chans.length w.chans.length (w.chans.map aR) w.uses.length (w.uses.map eS) w.splits.length (w.splits.map ix) w.aB (w.values.length+1) (w.values.length+1) ((bu w.values).take w.values.length++[[I 0]]) w.steps w.fails.length w.fails.length (cN w.fails):=by
   have e3:(bu w.values).take w.values.length=bu w.values:=aa7 (by simp [bu]);rw [e3];simp [bu]
  refine X9 f s ab (by simp [bu]) (by omega) (SL c ab) (VH c (JG c d) ab (jc c (JG c d) (jR f) { w with values:=w.values++[0] } f s 0 ab) w) muR ({ w with values:=w.values++[0] },f,s,0) ?_ ⟨hl,_,aa8 _,rfl⟩ (fun x hx=>PN hc ih ab _ hw h1 x hx);intro st' hs';show Weak st' (lpS (hB c { w with values:=w.values++[0] }) (frC f) s 0 ab);rw [hB'];exact hs'
end Uw.Tryz.El
namespace Uw.Tryz.El
open Go Uw Uw.Tryz
theorem HA (C1:Dat) (cells:List Int) (m s h:Int) (C6:Dat) (m0:0<=m) (m1:m<1000) (s0:0<=s) (s1:s<1000) (h0:0<=h) (h1:h<1000) (hc:cells.length<1000) :
  eP P0 uV [.agg [.d C1,.d (ae cells),.d (I m),.d (I s),.d (I h),.d C6]] [] (.ptr 0 0)
   (wG [.d C1,.d (ae cells),.d (I m),.d (I s),.d (I h),.d C6] cells.length (bu cells) m.toNat m.toNat (List.replicate m.toNat [I 1,ae [],ae []]) s.toNat s.toNat (List.replicate s.toNat [I 2,ae [],ae []]) h.toNat h.toNat (List.replicate h.toNat [I 3,ae [],ae []]) 0 [] 0 [] 1 0 0 [] 0 0 0 []):=by
 have hmn:((m.toNat:Nat):Int)=m:=by omega
 have hsn:((s.toNat:Nat):Int)=s:=by omega
 have hhn:((h.toNat:Nat):Int)=h:=by omega
 have N1:Ret P0 nA [I 1] (.agg [I 1,ae [],ae []]):=(vR 1).res (.agg (.cons (.refl _) (.cons (.nil _) (.cons (.nil _) (.refl _)))));have N2:Ret P0 nA [I 2] (.agg [I 2,ae [],ae []]):=(vR 2).res (.agg (.cons (.refl _) (.cons (.nil _) (.cons (.nil _) (.refl _)))));have N3:Ret P0 nA [I 3] (.agg [I 3,ae [],ae []]):=(vR 3).res (.agg (.cons (.refl _) (.cons (.nil _) (.cons (.nil _) (.refl _)))));refine dB CU rfl ?_;refine bq ⟨[(1,.ptr 0 0),(3,.ptr 2 0)],bk 0 [.var [.d C1,.d (ae cells),.d (I m),.d (I s),.d (I h),.d C6],.mt 1 1 (bu cells),.var [.d C1,.d (ae cells),.d (I m),.d (I s),.d (I h),.d C6,.ref 1 1 0 cells.length,.d .nil,.ref 3 0 0 0,.ref 4 0 0 0,.ref 5 0 0 0,.ref 6 0 0 0,.ref 7 0 0 0,.d (I 1),.ref 8 0 0 0,.d (I 0),.ref 9 0 0 0],.mt 3 0 [],.mt 3 0 [],.mt 3 0 [],.arr 10 [],.arr 5 [],.mt 1 0 [],.mt 1 0 []],10,[],0⟩ ?_ ?_
 ·repeat refine aw ?_
  refine au (Vm.cA cells hc _ _) ?_;rintro _ _ _ ⟨rfl,rfl,rfl⟩
  repeat refine aw ?_
  refine aj (.inl ⟨rfl,?_⟩);exact Uw.wM
 repeat refine aw ?_
 refine fK 5 ?_;show WT P0 _ _
 repeat refine aw ?_
 refine fK 1 ?_;show WT P0 _ _
 repeat refine aw ?_
 refine pT ?_
 repeat refine aw ?_
 refine eI ?_
 repeat refine aw ?_
 refine eU m.toNat (fun j=>⟨[(26,.d (I j)),(25,.d (I m)),(5,.d (I 1)),(21,.d (I 1)),(20,.agg [.d (I 0),.d (I m),.d (I s),.d (I h)]),(3,.ptr 2 0)],bk 0 [.var [.d C1,.d (ae cells),.d (I m),.d (I s),.d (I h),.d C6],.mt 1 1 (bu cells),.var [.d C1,.d (ae cells),.d (I m),.d (I s),.d (I h),.d C6,.ref 1 1 0 cells.length,.d .nil,.ref 3 j 0 j,.ref 4 0 0 0,.ref 5 0 0 0,.ref 6 0 0 0,.ref 7 0 0 0,.d (I 1),.ref 8 0 0 0,.d (I 0),.ref 9 0 0 0],.mt 3 j (List.replicate j [I 1,ae [],ae []]),.mt 3 0 [],.mt 3 0 [],.arr 10 [],.arr 5 [],.mt 1 0 [],.mt 1 0 []],10,[],0⟩) (fun j=>True) ?_ (fun _=>?_) (fun j hj _=>?_)
 ·exact Uw.wM
 rotate_left 1
 ·have hj2:(j:Int)<m:=by omega
  have ej:(List.replicate j [I 1,ae [],ae []]).take j++[[I 1,ae [],ae []]]=List.replicate (j+1) [I 1,ae [],ae []]:=by rw [aa7 (by simp),acC]
  have ej2:(List.replicate j [I 1,ae [],ae []]).length=j:=by simp
  repeat refine aw ?_
  refine bq ⟨[(26,.d (I j)),(25,.d (I m)),(5,.d (I 1)),(21,.d (I 1)),(20,.agg [.d (I 0),.d (I m),.d (I s),.d (I h)]),(3,.ptr 2 0)],bk 0 [.var [.d C1,.d (ae cells),.d (I m),.d (I s),.d (I h),.d C6],.mt 1 1 (bu cells),.var [.d C1,.d (ae cells),.d (I m),.d (I s),.d (I h),.d C6,.ref 1 1 0 cells.length,.d .nil,.ref 3 (j+1) 0 (j+1),.ref 4 0 0 0,.ref 5 0 0 0,.ref 6 0 0 0,.ref 7 0 0 0,.d (I 1),.ref 8 0 0 0,.d (I 0),.ref 9 0 0 0],.mt 3 (j+1) (List.replicate (j+1) [I 1,ae [],ae []]),.mt 3 0 [],.mt 3 0 [],.arr 10 [],.arr 5 [],.mt 1 0 [],.mt 1 0 []],10,[],0⟩ ?_ ?_
  ·repeat refine aw ?_
   exact aj (.inl ⟨rfl,by exact Uw.wM⟩)
  repeat refine aw ?_
  exact eK j trivial (by exact Uw.wM)
 repeat refine aw ?_
 refine aZ ?_
 repeat refine aw ?_
 refine eI ?_
 repeat refine aw ?_
 refine eU s.toNat (fun j=>⟨[(26,.d (I j)),(25,.d (I s)),(5,.d (I 2)),(21,.d (I 2)),(20,.agg [.d (I 0),.d (I m),.d (I s),.d (I h)]),(3,.ptr 2 0)],bk 0 [.var [.d C1,.d (ae cells),.d (I m),.d (I s),.d (I h),.d C6],.mt 1 1 (bu cells),.var [.d C1,.d (ae cells),.d (I m),.d (I s),.d (I h),.d C6,.ref 1 1 0 cells.length,.d .nil,.ref 3 m.toNat 0 m.toNat,.ref 4 j 0 j,.ref 5 0 0 0,.ref 6 0 0 0,.ref 7 0 0 0,.d (I 1),.ref 8 0 0 0,.d (I 0),.ref 9 0 0 0],.mt 3 m.toNat (List.replicate m.toNat [I 1,ae [],ae []]),.mt 3 j (List.replicate j [I 2,ae [],ae []]),.mt 3 0 [],.arr 10 [],.arr 5 [],.mt 1 0 [],.mt 1 0 []],10,[],0⟩) (fun j=>True) ?_ (fun _=>?_) (fun j hj _=>?_)
 ·exact Uw.wM
 rotate_left 1
 ·have hj2:(j:Int)<s:=by omega
  have ej:(List.replicate j [I 2,ae [],ae []]).take j++[[I 2,ae [],ae []]]=List.replicate (j+1) [I 2,ae [],ae []]:=by rw [aa7 (by simp),acC]
  have ej2:(List.replicate j [I 2,ae [],ae []]).length=j:=by simp
  repeat refine aw ?_
  refine bq ⟨[(26,.d (I j)),(25,.d (I s)),(5,.d (I 2)),(21,.d (I 2)),(20,.agg [.d (I 0),.d (I m),.d (I s),.d (I h)]),(3,.ptr 2 0)],bk 0 [.var [.d C1,.d (ae cells),.d (I m),.d (I s),.d (I h),.d C6],.mt 1 1 (bu cells),.var [.d C1,.d (ae cells),.d (I m),.d (I s),.d (I h),.d C6,.ref 1 1 0 cells.length,.d .nil,.ref 3 m.toNat 0 m.toNat,.ref 4 (j+1) 0 (j+1),.ref 5 0 0 0,.ref 6 0 0 0,.ref 7 0 0 0,.d (I 1),.ref 8 0 0 0,.d (I 0),.ref 9 0 0 0],.mt 3 m.toNat (List.replicate m.toNat [I 1,ae [],ae []]),.mt 3 (j+1) (List.replicate (j+1) [I 2,ae [],ae []]),.mt 3 0 [],.arr 10 [],.arr 5 [],.mt 1 0 [],.mt 1 0 []],10,[],0⟩ ?_ ?_
  ·repeat refine aw ?_
   exact aj (.inl ⟨rfl,by exact Uw.wM⟩)
  repeat refine aw ?_
  exact eK j trivial (by exact Uw.wM)
 repeat refine aw ?_
 refine aZ ?_
 repeat refine aw ?_
 refine eI ?_
 repeat refine aw ?_
 refine eU h.toNat (fun j=>⟨[(26,.d (I j)),(25,.d (I h)),(5,.d (I 3)),(21,.d (I 3)),(20,.agg [.d (I 0),.d (I m),.d (I s),.d (I h)]),(3,.ptr 2 0)],bk 0 [.var [.d C1,.d (ae cells),.d (I m),.d (I s),.d (I h),.d C6],.mt 1 1 (bu cells),.var [.d C1,.d (ae cells),.d (I m),.d (I s),.d (I h),.d C6,.ref 1 1 0 cells.length,.d .nil,.ref 3 m.toNat 0 m.toNat,.ref 4 s.toNat 0 s.toNat,.ref 5 j 0 j,.ref 6 0 0 0,.ref 7 0 0 0,.d (I 1),.ref 8 0 0 0,.d (I 0),.ref 9 0 0 0],.mt 3 m.toNat (List.replicate m.toNat [I 1,ae [],ae []]),.mt 3 s.toNat (List.replicate s.toNat [I 2,ae [],ae []]),.mt 3 j (List.replicate j [I 3,ae [],ae []]),.arr 10 [],.arr 5 [],.mt 1 0 [],.mt 1 0 []],10,[],0⟩) (fun j=>True) ?_ (fun _=>?_) (fun j hj _=>?_)
 ·exact Uw.wM
 rotate_left 1
 ·have hj2:(j:Int)<h:=by omega
  have ej:(List.replicate j [I 3,ae [],ae []]).take j++[[I 3,ae [],ae []]]=List.replicate (j+1) [I 3,ae [],ae []]:=by rw [aa7 (by simp),acC]
  have ej2:(List.replicate j [I 3,ae [],ae []]).length=j:=by simp
  repeat refine aw ?_
  refine bq ⟨[(26,.d (I j)),(25,.d (I h)),(5,.d (I 3)),(21,.d (I 3)),(20,.agg [.d (I 0),.d (I m),.d (I s),.d (I h)]),(3,.ptr 2 0)],bk 0 [.var [.d C1,.d (ae cells),.d (I m),.d (I s),.d (I h),.d C6],.mt 1 1 (bu cells),.var [.d C1,.d (ae cells),.d (I m),.d (I s),.d (I h),.d C6,.ref 1 1 0 cells.length,.d .nil,.ref 3 m.toNat 0 m.toNat,.ref 4 s.toNat 0 s.toNat,.ref 5 (j+1) 0 (j+1),.ref 6 0 0 0,.ref 7 0 0 0,.d (I 1),.ref 8 0 0 0,.d (I 0),.ref 9 0 0 0],.mt 3 m.toNat (List.replicate m.toNat [I 1,ae [],ae []]),.mt 3 s.toNat (List.replicate s.toNat [I 2,ae [],ae []]),.mt 3 (j+1) (List.replicate (j+1) [I 3,ae [],ae []]),.arr 10 [],.arr 5 [],.mt 1 0 [],.mt 1 0 []],10,[],0⟩ ?_ ?_
  ·repeat refine aw ?_
   exact aj (.inl ⟨rfl,by exact Uw.wM⟩)
  repeat refine aw ?_
  exact eK j trivial (by exact Uw.wM)
 repeat refine aw ?_
 refine aZ ?_
 repeat refine aw ?_
 refine eI ?_
 repeat refine aw ?_
 refine pT ?_
 repeat refine aw ?_
 refine dh 0 rfl rfl (Weak.ofR [(0,2),(1,1),(2,3),(3,4),(4,5),(5,6),(6,7),(7,8),(8,9)] ?_ ?_ rfl rfl ?_ rfl rfl rfl)
 ·exact ⟨⟨_,rfl,.inl ⟨rfl,rfl⟩⟩,trivial⟩
 ·refine ⟨⟨.inl ⟨_,rfl,qQ rfl rfl⟩,rfl⟩,⟨.inl ⟨_,rfl,⟨rfl,rfl,rfl⟩⟩,rfl⟩,⟨.inl ⟨_,rfl,⟨rfl,rfl,rfl⟩⟩,rfl⟩,⟨.inl ⟨_,rfl,⟨rfl,rfl,rfl⟩⟩,rfl⟩,⟨.inl ⟨_,rfl,⟨rfl,rfl,rfl⟩⟩,rfl⟩,⟨.inl ⟨_,rfl,⟨rfl,rfl⟩⟩,rfl⟩,⟨.inl ⟨_,rfl,⟨rfl,rfl⟩⟩,rfl⟩,⟨.inl ⟨_,rfl,⟨rfl,rfl,rfl⟩⟩,rfl⟩,⟨.inl ⟨_,rfl,⟨rfl,rfl,rfl⟩⟩,rfl⟩,trivial⟩
 ·trivial
end Uw.Tryz.El
namespace Uw.Tryz.El
open Go Uw Uw.Tryz
variable {C1 C2 C3 C4 C5 C6 : Dat} {xc : Nat} {rc : List (List Dat)} {gm xm : Nat} {rm : List (List Dat)} {gs xs : Nat} {rs : List (List Dat)} {gc xh : Nat} {rh : List (List Dat)} {xu : Nat} {ru : List (List Dat)} {xp : Nat} {rp : List (List Dat)} {st : Int} {gv xv : Nat} {rv : List (List Dat)} {sp : Int} {gf xf : Nat} {rf rf' : List (List Dat)}
abbrev LV (gf xf:Nat) (rf rf' : List (List Dat)):Prop:=eP P0 oH [.ref 0 gf 0 xf,.d (.func cD)] [.mt 1 gf rf] (.tuple []) [.mt 1 gf rf']
theorem Ya (v:Int) (hv:0<xv) (hrv:rv.length=xv) (e1:rv[0]? = some [I v]) (hs:LV gf xf rf rf') :
  eP P0 nB [.ptr 0 0] (wG [.d C1,.d C2,.d C3,.d C4,.d C5,.d C6] xc rc gm xm rm gs xs rs gc xh rh xu ru xp rp st gv xv rv sp gf xf rf)
   (.agg [.d (I 0),.d (I v),.ref 1 1 0 xc,.ref 2 gm 0 xm,.ref 3 gs 0 xs,.ref 4 gc 0 xh,.ref 5 0 0 xu,.ref 6 0 0 xp,.d (I sp),.d (I (xv:Nat)),.ref 8 gf 0 xf])
   (wG [.d C1,.d C2,.d C3,.d C4,.d C5,.d C6] xc rc gm xm rm gs xs rs gc xh rh xu ru xp rp st gv xv rv sp gf xf rf'):=by
 refine dB ux rfl ?_;refine eC 10 [8] hs ?_
 repeat refine aw ?_
 refine dh 9 rfl rfl ?_;exact Uw.wM
end Uw.Tryz.El
namespace Uw.Tryz.El
open Go Uw Uw.Tryz
def de (c:Cd):Wd:=⟨c.cells,List.replicate c.maps.toNat ⟨1,[],[]⟩,List.replicate c.stacks.toNat ⟨2,[],[]⟩,List.replicate c.chans.toNat ⟨3,[],[]⟩,[],[],1,[],0,[]⟩
def Ey (e:Int):Dat:=.agg [I e,I 0,.nil,.nil,.nil,.nil,.nil,.nil,I 0,I 0,.nil]
def FZ (w:Wd) (fails:List (List Int)):Dat:=.agg [I 0,I (w.values.getD 0 0),ae w.cells,.slice 3 (w.maps.map aR) false,.slice 3 (w.stacks.map aR) false,.slice 3 (w.chans.map aR) false,.slice 10 (w.uses.map eS) false,.slice 5 (w.splits.map ix) false,I w.steps,I (w.values.length:Nat),.slice 1 (cN fails) false]
theorem yn (c:Cd) (hright:Ret P0 dT [cdD c] (.bool false)):Ret P0 dH [cdD c] (Ey 1):=by
 refine yh mR rfl ?_
 repeat refine aw ?_
 exact aj ⟨_,.inl rfl,.inr rfl,rfl,_,_,rfl,rfl,rfl,rfl⟩
theorem HB (c:Cd) (hc:CO c) (hright:Ret P0 dT [cdD c] (.bool true)) (he:(Vm.dc c c.main [] 1 []).2≠0):Ret P0 dH [cdD c] (Ey (Vm.dc c c.main [] 1 []).2):=by
 have hSt:=(Vm.s12 c c.main [] 1 [] hc.az hc.pA (by simp) (by simp)).args (ds:=[cdD c,I c.main,.nil,I 1,.nil]) (.cons (.refl _) (.cons (.refl _) (.cons (.nil 1) (.cons (.refl _) (.cons (.nil 1) (.refl _))))));have hB:=HA (.slice 3 (c.az.map bdC) false) c.cells c.maps c.stacks c.chans (I c.main) hc.maps.1 (by have:=hc.maps;omega) hc.stacks.1 (by have:=hc.stacks;omega) hc.chans.1 (by have:=hc.chans;omega) hc.cells;generalize Vm.dc c c.main [] 1 []=K at *;obtain ⟨K1,K2⟩:=K;simp only at he;refine yh mR rfl ?_
 repeat refine aw ?_
 refine eC 2 [] hB ?_
 repeat refine aw ?_
 exact aj ⟨_,.inl rfl,.inr rfl,rfl,_,_,rfl,rfl,rfl,rfl⟩
theorem JS {c:Cd} (hc:CO c):WI c (de c):=by
 have h1:=hc.maps;have h2:=hc.stacks;have h3:=hc.chans;have mz:∀(n:Nat) (x:Cont),x.vals=[]->bF (List.replicate n x)=0:=by
  intro n x hx;unfold bF;rw [List.map_replicate,hx]
  induction n with
  | zero=>rfl
  | succ n ih=>rw [ab9,List.sum_cons,ih];rfl
 have rk:∀(n:Nat) (k:Int),(k=1\/k=2\/k=3)->∀x∈List.replicate n (⟨k,[],[]⟩:Cont),hZ k x:=by
  intro n k hk x hx;rw [abz hx]
  rcases hk with rfl|rfl|rfl<;>exact ⟨by rfl,rfl⟩
 refine ⟨rfl,?_,?_,?_,rk _ 1 (.inl rfl),rk _ 2 (.inr (.inl rfl)),rk _ 3 (.inr (.inr rfl)),?_,by simp [de],by simp [de],by simp [de],by simp [de],by simp [de],by simp [de],by simp [de],by simp [de]⟩
 ·simp [de];omega
 ·simp [de];omega
 ·simp [de];omega
 ·simp only [de]
  rw [mz _ _ rfl,mz _ _ rfl,mz _ _ rfl];omega
abbrev dE (c:Cd):Wd×Int:=JG c 64 (de c) (Vm.dc c c.main [] 1 []).1 0 0
theorem ue (c:Cd) (hc:CO c) (he:(Vm.dc c c.main [] 1 []).2=0) :
  eP P0 ed [.agg (frC (Vm.dc c c.main [] 1 []).1),.d (I 0),.d (I 0),.ptr 0 0,.ptr 1 0,.ptr 2 0] (hB c (de c)) (.d (I (dE c).2)) (hB c (dE c).1)/\((dE c).2=0->Done c (de c) (dE c).1):=by
 obtain ⟨e1,e2⟩:=iN he;refine Hz c hc 64 (de c) _ 0 0 (JS hc) (by simp [de]) (by simp [de]) ?_ ?_ ?_ ?_ ?_ ?_
 ·rw [e1];exact e2
 ·rw [e1];rfl
 ·rw [e1];simp [Vm.gq]
 ·rw [e1];rfl
 ·rw [e1];rfl
 ·rw [e1];rfl
theorem JU (c:Cd):hB c (de c)=wH [.d (.slice 3 (c.az.map bdC) false),.d (ae c.cells),.d (I c.maps),.d (I c.stacks),.d (I c.chans),.d (I c.main)] c.cells.length (bu c.cells) c.maps.toNat c.maps.toNat (List.replicate c.maps.toNat [I 1,ae [],ae []]) c.stacks.toNat c.stacks.toNat (List.replicate c.stacks.toNat [I 2,ae [],ae []]) c.chans.toNat c.chans.toNat (List.replicate c.chans.toNat [I 3,ae [],ae []]) 0 [] 0 [] 1 0 0 [] 0 0 0 []:=by
 simp [de,bu,cN,aR]
theorem HC (c:Cd) (hc:CO c) (hright:Ret P0 dT [cdD c] (.bool true)) (he:(Vm.dc c c.main [] 1 []).2=0) (hr:(dE c).2≠0):Ret P0 dH [cdD c] (Ey (dE c).2):=by
 have hSt:=(Vm.s12 c c.main [] 1 [] hc.az hc.pA (by simp) (by simp)).args (ds:=[cdD c,I c.main,.nil,I 1,.nil]) (.cons (.refl _) (.cons (.refl _) (.cons (.nil 1) (.cons (.refl _) (.cons (.nil 1) (.refl _))))));have hB0:=HA (.slice 3 (c.az.map bdC) false) c.cells c.maps c.stacks c.chans (I c.main) hc.maps.1 (by have:=hc.maps;omega) hc.stacks.1 (by have:=hc.stacks;omega) hc.chans.1 (by have:=hc.chans;omega) hc.cells;have hrun:=(ue c hc he).1;rw [JU c] at hrun;generalize dE c=R at *;obtain ⟨W,e⟩:=R;simp only at hrun hr;generalize Vm.dc c c.main [] 1 []=K at *;obtain ⟨K1,K2⟩:=K;simp only at he hrun;subst he;refine yh mR rfl ?_
 repeat refine aw ?_
 refine eC 2 [] hB0 ?_
 repeat refine aw ?_
 refine eC 14 [11,0,12,2,3,4,5,6,7,8,9,10] hrun ?_
 repeat refine aw ?_
 exact aj ⟨_,.inl rfl,.inr rfl,rfl,_,_,rfl,rfl,rfl,rfl⟩
theorem nX {α:Type} {l:List α} {n:Nat} (h:l.length=n):(l.drop 0).take n=l:=by
 subst h;rw [abk];exact abZ
theorem yo (c:Cd) (hc:CO c) (hright:Ret P0 dT [cdD c] (.bool true)) (he:(Vm.dc c c.main [] 1 []).2=0) (hr:(dE c).2=0) (fails:List (List Int)) (hfl:fails.length=(dE c).1.fails.length) (hsort:LV (dE c).1.fails.length (dE c).1.fails.length (cN (dE c).1.fails) (cN fails)):Ret P0 dH [cdD c] (FZ (dE c).1 fails):=by
 have hSt:=(Vm.s12 c c.main [] 1 [] hc.az hc.pA (by simp) (by simp)).args (ds:=[cdD c,I c.main,.nil,I 1,.nil]) (.cons (.refl _) (.cons (.refl _) (.cons (.nil 1) (.cons (.refl _) (.cons (.nil 1) (.refl _))))));have hB0:=HA (.slice 3 (c.az.map bdC) false) c.cells c.maps c.stacks c.chans (I c.main) hc.maps.1 (by have:=hc.maps;omega) hc.stacks.1 (by have:=hc.stacks;omega) hc.chans.1 (by have:=hc.chans;omega) hc.cells;have hrun:=(ue c hc he).1;have hdone:=(ue c hc he).2 hr;rw [JU c] at hrun;generalize dE c=R at *;obtain ⟨W,e⟩:=R;simp only at hrun hr hdone hsort hfl;subst hr;generalize Vm.dc c c.main [] 1 []=K at *;obtain ⟨K1,K2⟩:=K;simp only at he hrun;subst he;obtain ⟨n0,hV,_⟩:=hdone.adds;have hv0:0<W.values.length:=by omega
 have e1:(bu W.values)[0]? = some [I (W.values.getD 0 0)]:=by simp [bu,hv0]
 have hT:=Ya (C1:=.slice 3 (c.az.map bdC) false) (C2:=ae c.cells) (C3:=I c.maps) (C4:=I c.stacks) (C5:=I c.chans) (C6:=I c.main) (xc:=W.cells.length) (rc:=bu W.cells) (gm:=W.maps.length) (xm:=W.maps.length) (rm:=W.maps.map aR) (gs:=W.stacks.length) (xs:=W.stacks.length) (rs:=W.stacks.map aR) (gc:=W.chans.length) (xh:=W.chans.length) (rh:=W.chans.map aR) (xu:=W.uses.length) (ru:=W.uses.map eS) (xp:=W.splits.length) (rp:=W.splits.map ix) (st:=W.aB) (gv:=W.values.length) (sp:=W.steps) (W.values.getD 0 0) hv0 (by simp [bu]) e1 hsort;have d1:((bu W.cells).drop 0).take W.cells.length=bu W.cells:=nX (by simp [bu]);have d2:((W.maps.map aR).drop 0).take W.maps.length=W.maps.map aR:=nX (by simp);have d3:((W.stacks.map aR).drop 0).take W.stacks.length=W.stacks.map aR:=nX (by simp);have d4:((W.chans.map aR).drop 0).take W.chans.length=W.chans.map aR:=nX (by simp);have d5:((W.uses.map eS).drop 0).take W.uses.length=W.uses.map eS:=nX (by simp);have d6:((W.splits.map ix).drop 0).take W.splits.length=W.splits.map ix:=nX (by simp);have d7:((cN fails).drop 0).take W.fails.length=cN fails:=nX (by simp [cN,hfl]);refine yh mR rfl ?_
 repeat refine aw ?_
 refine eC 2 [] hB0 ?_
 repeat refine aw ?_
 refine eC 14 [11,0,12,2,3,4,5,6,7,8,9,10] hrun ?_
 repeat refine aw ?_
 refine eC 14 [2,3,4,5,6,7,8,9,10] hT ?_
 repeat refine aw ?_
 refine aj ⟨⟨[(2,.ptr 1 0)],[(1,.var [.d (I 0),.d (I (W.values.getD 0 0)),.ref 3 1 0 W.cells.length,.ref 4 W.maps.length 0 W.maps.length,.ref 5 W.stacks.length 0 W.stacks.length,.ref 6 W.chans.length 0 W.chans.length,.ref 7 0 0 W.uses.length,.ref 8 0 0 W.splits.length,.d (I W.steps),.d (I (W.values.length:Nat)),.ref 10 W.fails.length 0 W.fails.length]),(3,.mt 1 1 (bu W.cells)),(4,.mt 3 W.maps.length (W.maps.map aR)),(5,.mt 3 W.stacks.length (W.stacks.map aR)),(6,.mt 3 W.chans.length (W.chans.map aR)),(7,.arr 10 (W.uses.map eS)),(8,.arr 5 (W.splits.map ix)),(10,.mt 1 W.fails.length (cN fails))],14,[],0⟩,.inr (by exact Uw.wM),.inr rfl,rfl,_,_,rfl,rfl,?_,?_⟩
 ·simp [vu,V.cur,V.cur.go,look]
 ·show Dat.agg [I 0,I (W.values.getD 0 0),.slice 1 (((bu W.cells).drop 0).take W.cells.length) false,.slice 3 (((W.maps.map aR).drop 0).take W.maps.length) false,.slice 3 (((W.stacks.map aR).drop 0).take W.stacks.length) false,.slice 3 (((W.chans.map aR).drop 0).take W.chans.length) false,.slice 10 (((W.uses.map eS).drop 0).take W.uses.length) false,.slice 5 (((W.splits.map ix).drop 0).take W.splits.length) false,I W.steps,I (W.values.length:Nat),.slice 1 (((cN fails).drop 0).take W.fails.length) false]=FZ W fails
  rw [d1,d2,d3,d4,d5,d6,d7];rfl
end Uw.Tryz.El
namespace Go.Proofs
open Go.Shelf Go.RowKit Go.Lib
def bQ:List Int->List Int->Bool
 | [],[]=>false
 | [],_::_=>true
 | _::_,[]=>false
 | x::xs,y::ys=>if x≠y then decide (x<y) else bQ xs ys
theorem drop_at {l:List Int} {k:Nat} (h:k<l.length):l.drop k=l.getD k 0::l.drop (k+1):=by
 rw [List.drop_eq_getElem_cons h,List.getD_eq_getElem?_getD,List.getElem?_eq_getElem h];rfl
theorem vW {xs ys:List Int} {k:Nat} (h1:k<xs.length) (h2:k<ys.length) (h:xs.getD k 0=ys.getD k 0):bQ (xs.drop k) (ys.drop k)=bQ (xs.drop (k+1)) (ys.drop (k+1)):=by
 rw [drop_at h1,drop_at h2,bQ,if_neg (fun e=>e h)]
theorem JV {xs ys:List Int} {k:Nat} (h1:k<xs.length) (h2:k<ys.length) (h:xs.getD k 0≠ys.getD k 0):bQ (xs.drop k) (ys.drop k)=decide (xs.getD k 0<ys.getD k 0):=by
 rw [drop_at h1,drop_at h2,bQ,if_pos h]
theorem zf {xs ys:List Int} {k:Nat} (h1:k<=xs.length) (h2:k<=ys.length) (h:¬(k<xs.length/\k<ys.length)):bQ (xs.drop k) (ys.drop k)=decide (xs.length<ys.length):=by
 by_cases hx:k<xs.length
 ·have hy:¬k<ys.length:=fun e=>h ⟨hx,e⟩
  rw [drop_at hx,List.drop_eq_nil_of_le (by omega:ys.length<=k)];simp [bQ];omega
 ·rw [List.drop_eq_nil_of_le (by omega:xs.length<=k)]
  by_cases hy:k<ys.length
  ·rw [drop_at hy];simp [bQ];omega
  ·rw [List.drop_eq_nil_of_le (by omega:ys.length<=k)];simp [bQ];omega
theorem Tryz.PO (b1 o1 c1 b2 o2 c2:Nat) (xs ys:List Int) (w:World) (hbig:xs.length<1000000) (hbig2:ys.length<1000000) (hc1:∀j,j<xs.length->w.cell? ⟨b1,o1+j,none⟩=some (.int .i64 (xs.getD j 0))) (hc2:∀j,j<ys.length->w.cell? ⟨b2,o2+j,none⟩=some (.int .i64 (ys.getD j 0))) :
  Calls Tryz.prog Uw.Tryz.eL #[.slice (some ⟨b1,o1,none⟩) xs.length c1,.slice (some ⟨b2,o2,none⟩) ys.length c2] w fun e w'=>e = .returned (.bool (bQ xs ys))/\∃q,w' = w.drewN q:=by
 go_enter Tryz.func16,Tryz.ntmps16
 go_wp2
 go_loopg [11] (min xs.length ys.length) (fun g s11 wr=>∃k q:Nat,k<=xs.length/\k<=ys.length/\min xs.length ys.length - k<=g/\s11 = .int .i64 k/\wr=w.drewN q/\bQ xs ys=bQ (xs.drop k) (ys.drop k))
 case atStart=>exact ⟨0,0,Nat.zero_le _,Nat.zero_le _,by omega,rfl,rfl,rfl⟩
 case round=>
  obtain ⟨k,q,hk1,hk2,hg,rfl,rfl,heq⟩:=hrel;by_cases hlt:k<xs.length/\k<ys.length
  ·have g1:w.cell? ⟨b1,o1+k,none⟩=some (.int .i64 (xs.getD k 0)):=hc1 k hlt.1
   have g2:w.cell? ⟨b2,o2+k,none⟩=some (.int .i64 (ys.getD k 0)):=hc2 k hlt.2;have A:Aside (bQ xs ys=bQ (xs.drop k) (ys.drop k)):=heq;clear heq hc1 hc2;generalize hxk:xs.getD k 0=x at g1;generalize hyk:ys.getD k 0=y at g2;have B:Aside (xs.getD k 0=x/\ys.getD k 0=y):=⟨hxk,hyk⟩
   clear hxk hyk;obtain ⟨hl1,hl2⟩:=hlt;have hm:(k:Int)<min (xs.length:Int) (ys.length:Int):=by omega
   have i1:(k:Int)<xs.length:=by omega
   have i2:(k:Int)<ys.length:=by omega
   by_cases hxy:x=y
   ·subst hxy
    go_wp2_with fail
    go_region
    go_wp2
    go_roundg (min xs.length ys.length - (k+1))
    case measure=>omega
    case rel=>
     refine ⟨k+1,q+1,by omega,by omega,by omega,by go_num,rfl,?_⟩;rw [A.out];exact vW hl1 hl2 (by rw [B.out.1,B.out.2])
   ·go_wp2_with fail
    go_region
    go_wp2_with fail
    go_region
    go_wp2
    go_ret
    refine ⟨?_,q+2,rfl⟩;rw [A.out,JV hl1 hl2 (by rw [B.out.1,B.out.2];exact hxy),B.out.1,B.out.2];rfl
  ·clear hc1 hc2
   go_wp2
   go_ret
   refine ⟨?_,q,rfl⟩;rw [heq,zf hk1 hk2 hlt];rfl
theorem Tryz.SV (a1 a2:Option Addr) (n c1 m c2:Nat) (w:World) (hbig:n<1000000) (hbig2:m<1000000) (h:n=0\/m=0) :
  Calls Tryz.prog Uw.Tryz.eL #[.slice a1 n c1,.slice a2 m c2] w fun e w'=>e = .returned (.bool (decide (n<m)))/\∃q,w' = w.drewN q:=by
 have hm:¬(0:Int)<min (n:Int) (m:Int):=by omega
 go_enter Tryz.func16,Tryz.ntmps16
 go_wp2
 go_loopg [11] 0 (fun _ s11 wr=>s11 = .int .i64 0/\wr=w)
 case atStart=>exact ⟨rfl,rfl⟩
 case round=>
  obtain ⟨rfl,rfl⟩:=hrel
  go_wp2
  go_ret
  exact ⟨rfl,0,rfl⟩
def nY (w:World) (v:Value) (xs:List Int):Prop:=
 (∃a c,v = .slice a 0 c/\xs=[])\/∃b o c,v = .slice (some ⟨b,o,none⟩) xs.length c/\∀j,j<xs.length->w.cell? ⟨b,o+j,none⟩=some (.int .i64 (xs.getD j 0))
theorem nY.drew {w:World} {v:Value} {xs:List Int} (h:nY w v xs) (q:Nat):nY (w.drewN q) v xs:=h
theorem nY.sl {w:World} {v:Value} {xs:List Int} (h:nY w v xs):∃a c,v = .slice a xs.length c:=by
 rcases h with ⟨a,c,rfl,rfl⟩|⟨b,o,c,rfl,_⟩
 ·exact ⟨_,_,rfl⟩
 ·exact ⟨_,_,rfl⟩
theorem PP {xs ys:List Int} (h:xs.length=0\/ys.length=0):bQ xs ys=decide (xs.length<ys.length):=by
 have:=zf (xs:=xs) (ys:=ys) (k:=0) (Nat.zero_le _) (Nat.zero_le _) (by omega);simpa using this
theorem Tryz.JW (w:World) (v u:Value) (xs ys:List Int) (h1:nY w v xs) (h2:nY w u ys) (hbig:xs.length<1000000) (hbig2:ys.length<1000000) :
  Calls Tryz.prog Uw.Tryz.eL #[v,u] w fun e w'=>e = .returned (.bool (bQ xs ys))/\∃q,w' = w.drewN q:=by
 by_cases hz:xs.length=0\/ys.length=0
 ·obtain ⟨a,c,rfl⟩:=h1.sl
  obtain ⟨a',c',rfl⟩:=h2.sl;rw [PP hz];exact Tryz.SV a a' _ c _ c' w hbig hbig2 hz
 ·rcases h1 with ⟨a,c,rfl,rfl⟩|⟨b,o,c,rfl,e1⟩
  ·simp at hz
  rcases h2 with ⟨a,c,rfl,rfl⟩|⟨b',o',c',rfl,e2⟩
  ·simp at hz
  exact Tryz.PO b o c b' o' c' xs ys w hbig hbig2 e1 e2
def Ez (xs ys:List Int):Int:=if bQ xs ys then -1 else if bQ ys xs then 1 else 0
theorem Tryz.SA (w:World) (v u:Value) (xs ys:List Int) (h1:nY w v xs) (h2:nY w u ys) (hbig:xs.length<1000000) (hbig2:ys.length<1000000) :
  Calls Tryz.prog Uw.Tryz.cD #[v,u] w fun e w'=>e = .returned (.int .i64 (Ez xs ys))/\∃q,w' = w.drewN q:=by
 have hA:=Tryz.JW w v u xs ys h1 h2 hbig hbig2;have hB:=fun q=>Tryz.JW (w.drewN q) u v ys xs (h2.drew q) (h1.drew q) hbig2 hbig;clear h1 h2;unfold Ez;generalize bQ xs ys=p at hA ⊢;generalize bQ ys xs=p' at hB ⊢
 go_enter Tryz.func63,Tryz.ntmps63
 have eg:Uw.Tryz.eL=16:=rfl;rw [eg] at hA hB
 cases p
 ·go_wp2_with fail
  go_at_call 16
  refine hA.mono ?_;clear hA;rintro e w' ⟨rfl,q,rfl⟩;have hB:=hB q
  go_wp2_with fail
  go_at_call 16
  refine hB.mono ?_;clear hB;rintro e w' ⟨rfl,q2,rfl⟩
  cases p'
  ·go_wp2
   go_ret
   exact ⟨rfl,q+q2,rfl⟩
  ·go_wp2
   go_ret
   exact ⟨rfl,q+q2,rfl⟩
 ·go_wp2_with fail
  go_at_call 16
  refine hA.mono ?_;clear hA hB;rintro e w' ⟨rfl,q,rfl⟩
  go_wp2
  go_ret
  exact ⟨rfl,q,rfl⟩
end Go.Proofs
namespace Go.Proofs
open Go.Shelf
def Tryz.PQ:Go.Shelf.Ren:=⟨fun|6=>62|15=>108|14=>107|28=>154|29=>155|20=>146|21=>147|22=>148|23=>149|24=>150|25=>151|26=>152|27=>153|46=>178|47=>179|48=>180|49=>181|50=>182|57=>200|n=>n,fun|22=>32|24=>23|25=>127|3=>3|39=>152|0=>0|53=>205|55=>207|4=>4|46=>199|45=>198|50=>153|5=>5|9=>9|66=>227|70=>231|76=>243|77=>192|n=>n,fun|n=>n⟩
theorem Tryz.sortF:Go.Proofs.SlLaysF.n6 Tryz.prog Tryz.PQ:={
 mixed:=by kernel_rfl
 f6:=⟨Tryz.f62.name,by decide,Tryz.func62.trans (congrArg some (by kernel_rfl))⟩
 f14:=⟨Tryz.f107.name,by decide,Tryz.func107.trans (congrArg some (by kernel_rfl))⟩
 f15:=Tryz.func108.trans (congrArg some (by kernel_rfl))
 f20:=⟨Tryz.f146.name,by decide,Tryz.func146.trans (congrArg some (by kernel_rfl))⟩
 f21:=⟨Tryz.f147.name,by decide,Tryz.func147.trans (congrArg some (by kernel_rfl))⟩
 f22:=⟨Tryz.f148.name,by decide,Tryz.func148.trans (congrArg some (by kernel_rfl))⟩
 f23:=⟨Tryz.f149.name,by decide,Tryz.func149.trans (congrArg some (by kernel_rfl))⟩
 f24:=⟨Tryz.f150.name,by decide,Tryz.func150.trans (congrArg some (by kernel_rfl))⟩
 f25:=⟨Tryz.f151.name,by decide,Tryz.func151.trans (congrArg some (by kernel_rfl))⟩
 f26:=⟨Tryz.f152.name,by decide,Tryz.func152.trans (congrArg some (by kernel_rfl))⟩
 f27:=⟨Tryz.f153.name,by decide,Tryz.func153.trans (congrArg some (by kernel_rfl))⟩
 f28:=Tryz.func154.trans (congrArg some (by kernel_rfl))
 f29:=Tryz.func155.trans (congrArg some (by kernel_rfl))
 f46:=⟨Tryz.f178.name,by decide,Tryz.func178.trans (congrArg some (by kernel_rfl))⟩
 f47:=Tryz.func179.trans (congrArg some (by kernel_rfl))
 f48:=Tryz.func180.trans (congrArg some (by kernel_rfl))
 f49:=⟨Tryz.f181.name,by decide,Tryz.func181.trans (congrArg some (by kernel_rfl))⟩
 f50:=⟨Tryz.f182.name,by decide,Tryz.func182.trans (congrArg some (by kernel_rfl))⟩
 f57:=⟨Tryz.f200.name,by decide,Tryz.func200.trans (congrArg some (by kernel_rfl))⟩
 t0:=Tryz.underlying0
 a0:=Tryz.isAgg0
 z0:=Tryz.sizeOf0
 v0:=Tryz.zeroValue0
 t3:=Tryz.underlying3
 a3:=Tryz.isAgg3
 z3:=Tryz.sizeOf3
 v3:=Tryz.zeroValue3
 t4:=Tryz.underlying4
 a4:=Tryz.isAgg4
 z4:=Tryz.sizeOf4
 v4:=Tryz.zeroValue4
 t5:=Tryz.underlying5
 a5:=Tryz.isAgg5
 z5:=Tryz.sizeOf5
 v5:=Tryz.zeroValue5
 t9:=Tryz.underlying9
 a9:=Tryz.isAgg9
 z9:=Tryz.sizeOf9
 v9:=Tryz.zeroValue9
 t22:=Tryz.underlying32
 a22:=Tryz.isAgg32
 z22:=Tryz.sizeOf32
 v22:=Tryz.zeroValue32
 a24:=Tryz.isAgg23
 z24:=Tryz.sizeOf23
 t25:=Tryz.underlying127
 a25:=Tryz.isAgg127
 z25:=Tryz.sizeOf127
 v25:=Tryz.zeroValue127
 t39:=Tryz.underlying152
 a39:=Tryz.isAgg152
 z39:=Tryz.sizeOf152
 v39:=Tryz.zeroValue152
 t45:=Tryz.underlying198
 a45:=Tryz.isAgg198
 z45:=Tryz.sizeOf198
 v45:=Tryz.zeroValue198
 t46:=Tryz.underlying199
 a46:=Tryz.isAgg199
 z46:=Tryz.sizeOf199
 v46:=Tryz.zeroValue199
 t50:=Tryz.underlying153
 a50:=Tryz.isAgg153
 z50:=Tryz.sizeOf153
 v50:=Tryz.zeroValue153
 t53:=Tryz.underlying205
 a53:=Tryz.isAgg205
 z53:=Tryz.sizeOf205
 v53:=Tryz.zeroValue205
 t55:=Tryz.underlying207
 a55:=Tryz.isAgg207
 z55:=Tryz.sizeOf207
 v55:=Tryz.zeroValue207
 t66:=Tryz.underlying227
 a66:=Tryz.isAgg227
 z66:=Tryz.sizeOf227
 v66:=Tryz.zeroValue227
 t70:=Tryz.underlying231
 a70:=Tryz.isAgg231
 z70:=Tryz.sizeOf231
 v70:=Tryz.zeroValue231
 t76:=Tryz.underlying243
 a76:=Tryz.isAgg243
 z76:=Tryz.sizeOf243
 v76:=Tryz.zeroValue243
 t77:=Tryz.underlying192
 a77:=Tryz.isAgg192
 z77:=Tryz.sizeOf192
 v77:=Tryz.zeroValue192 }
end Go.Proofs
namespace Go.Proofs
open Go.Sort
theorem rq:∀xs,bQ xs xs=false
 | []=>rfl
 | x::xs=>by rw [bQ,if_neg (by simp)];exact rq xs
theorem pg:∀xs ys zs,bQ xs ys=true->bQ ys zs=true->bQ xs zs=true
 | [],[],_,h,_=>by simp [bQ] at h
 | [],y::ys,[],_,h=>by simp [bQ] at h
 | [],y::ys,z::zs,_,_=>rfl
 | x::xs,[],_,h,_=>by simp [bQ] at h
 | x::xs,y::ys,[],_,h=>by simp [bQ] at h
 | x::xs,y::ys,z::zs,h1,h2=>by
  have ih:=pg xs ys zs;simp only [bQ] at h1 h2 ⊢;by_cases e1:x=y
  ·subst e1
   simp only [ne_eq,not_true_eq_false,if_false] at h1;by_cases e2:x=z
   ·subst e2
    simp only [ne_eq,not_true_eq_false,if_false] at h2 ⊢;exact ih h1 h2
   ·simp only [ne_eq,e2,not_false_eq_true,if_true] at h2 ⊢;exact h2
  ·simp only [ne_eq,e1,not_false_eq_true,if_true,decide_eq_true_eq] at h1
   by_cases e2:y=z
   ·subst e2
    simp only [ne_eq,e1,not_false_eq_true,if_true,decide_eq_true_eq];exact h1
   ·simp only [ne_eq,e2,not_false_eq_true,if_true,decide_eq_true_eq] at h2
    have e3:¬x=z:=by omega
    simp only [ne_eq,e3,not_false_eq_true,if_true,decide_eq_true_eq];omega
theorem uf:∀xs ys,bQ xs ys=false->bQ ys xs=false->xs=ys
 | [],[],_,_=>rfl
 | [],y::ys,h,_=>by simp [bQ] at h
 | x::xs,[],_,h=>by simp [bQ] at h
 | x::xs,y::ys,h1,h2=>by
  have ih:=uf xs ys;simp only [bQ] at h1 h2;by_cases e1:x=y
  ·subst e1
   simp only [ne_eq,not_true_eq_false,if_false] at h1 h2;rw [ih h1 h2]
  ·have e2:¬y=x:=fun e=>e1 e.symm
   simp only [ne_eq,e1,e2,not_false_eq_true,if_true,decide_eq_false_iff_not] at h1 h2;omega
theorem kr (xs ys:List Int):ltOf Ez xs ys=bQ xs ys:=by
 unfold ltOf Ez
 cases h:bQ xs ys with
 | true=>rfl
 | false=>cases bQ ys xs<;>rfl
theorem yp:SWO (ltOf Ez) where
 irrefl x:=by rw [kr];exact rq x
 trans x y z h1 h2:=by rw [kr] at *;exact pg x y z h1 h2
 ntrans x y z h1 h2:=by
  rw [kr] at *
  cases h:bQ x z with
  | false=>rfl
  | true=>
   cases h3:bQ y x with
   | true=>rw [pg y x z h3 h] at h2;cases h2
   | false=>rw [uf x y h1 h3] at h;rw [h] at h2;cases h2
end Go.Proofs
namespace Uw.Tryz.El
open Go Uw Uw.Tryz Go.Proofs
theorem zg {w:World} {J:Nat->Nat->Prop} {b:Nat}:∀(xs:List Int) (o:Nat),bY w J b 1 o (xs.map fun i=>[I i])->∀j,j<xs.length->w.cell? ⟨b,o+j,none⟩=some (.int .i64 (xs.getD j 0))
 | [],o,_,j,h=>by simp at h
 | x::xs,o,hr,j,h=>by
  rw [abX,bY] at hr;obtain ⟨_,hc,hr⟩:=hr
  cases j with
  | zero=>
   rw [du] at hc;obtain ⟨⟨v,h1,_,_,h2⟩,_⟩:=hc;rw [aH] at h2;subst h2;exact h1
  | succ j=>
   have:=zg xs (o+1) hr j (by simpa using h);have e:o+(j+1)=o+1+j:=by omega
   rw [e];exact this
theorem PR {w:World} {J:Nat->Nat->Prop} {xs:List Int} {v:Value} (h:aH w J (ae xs) v):nY w v xs:=by
 unfold ae at h;rw [aH] at h
 rcases h with ⟨⟨x,rfl,_⟩,h⟩|⟨b,o,cap,rfl,_,_,hr⟩
 ·exact .inl ⟨x,0,rfl,by simpa using h⟩
 ·exact .inr ⟨b,o,cap,by simp,zg xs o hr⟩
end Uw.Tryz.El
namespace Uw.Tryz.El
open Go Uw Uw.Tryz Go.Proofs Go.Sort Go.Lib
theorem DV {α:Type} [Inhabited α] (enc:α->Value) (w:World) (blk off m:Nat) (dk:Array α) (os:Array Obj) (a:Addr) (h:a.block≠blk) (hb:a.block<w.heap.size):(sortWorld enc w blk off m dk os).cell? a=w.cell? a:=by
 unfold sortWorld;rw [cell?_grow _ _ _ (by rw [Go.Sort.size_putRow];exact hb),cell?_putRow_other _ _ _ _ _ _ (.inl h)];rfl
def Bj (w:World) (blk:Nat) (v:Value) (xs:List Int):Prop:=
 (∃a c,v = .slice a 0 c/\xs=[])\/∃b o c,v = .slice (some ⟨b,o,none⟩) xs.length c/\b≠blk/\b<w.heap.size/\∀j,j<xs.length->w.cell? ⟨b,o+j,none⟩=some (.int .i64 (xs.getD j 0))
theorem Bj.at {α:Type} [Inhabited α] {enc:α->Value} {w:World} {blk off m:Nat} {dk:Array α} {os:Array Obj} {v:Value} {xs:List Int} (h:Bj w blk v xs):nY (sortWorld enc w blk off m dk os) v xs:=by
 rcases h with h|⟨b,o,c,h1,h2,h3,h4⟩
 ·exact .inl h
 ·exact .inr ⟨b,o,c,h1,fun j hj=>by rw [DV _ _ _ _ _ _ _ _ h2 h3];exact h4 j hj⟩
theorem PT {α:Type} [Inhabited α] (enc:α->Value) (l:α->List Int) (w:World) (blk off size:Nat) (h:∀x,Bj w blk (enc x) (l x)/\(l x).length<1000000) :
  CmpReads Tryz.prog cD #[] enc (fun x y=>Ez (l x) (l y)) blk off size w:=by
 intro m os dk hs x y;exact Tryz.SA _ _ _ (l x) (l y) (h x).1.at (h y).1.at (h x).2 (h y).2
end Uw.Tryz.El
namespace Uw.Tryz.El
open Go Uw Uw.Tryz Go.Proofs Go.Sort Go.Lib
def dN (l:List (List Int)):List (List Int):=l.mergeSort fun x y=>!bQ y x
theorem JY {x y:List Int} (h:bQ x y=true):bQ y x=false:=by
 cases h2:bQ y x with
 | false=>rfl
 | true=>have:=pg x y x h h2;rw [rq] at this;cases this
theorem HD {x y z:List Int} (h1:bQ x y=false) (h2:bQ y z=false):bQ x z=false:=by
 have:=yp.ntrans x y z;rw [kr,kr,kr] at this;exact this h1 h2
theorem JZ (l:List (List Int)):(dN l).Pairwise fun x y=>bQ y x=false:=by
 have h:=List.pairwise_mergeSort (le:=fun x y=>!bQ y x) (fun a b c h1 h2=>by
  simp only [abW] at h1 h2 ⊢;exact HD h2 h1) (fun a b=>by
  cases h:bQ b a with
  | false=>simp
  | true=>simp [JY h]) l
 exact h.imp fun h=>by simpa using h
theorem nZ (l:List (List Int)):(dN l).Perm l:=List.mergeSort_perm _ _
theorem HE {l l' : List (List Int)} (hp:l'.Perm l) (hs:l'.Pairwise fun x y=>bQ y x=false):l' = dN l:=by
 refine List.Perm.eq_of_pairwise (le:=fun x y=>bQ y x=false) ?_ hs (JZ l) (hp.trans (nZ l).symm);intro a b _ _ h1 h2;exact uf a b h2 h1
abbrev Sb (w:World) (J:Nat->Nat->Prop):={p:List Int×Value // aH w J (ae p.1) p.2/\p.1.length<1000000}
theorem Zt {w:World} {J:Nat->Nat->Prop}:∀(l:List (List Int)) (vs:List Value),aT w J (l.map ae) vs->(∀x∈l,x.length<1000000)->∃d:List (Sb w J),d.map (fun p=>p.1.1)=l/\d.map (fun p=>p.1.2)=vs
 | [],vs,h,_=>by rw [List.map_nil,aT] at h;exact ⟨[],rfl,h.symm⟩
 | x::l,vs,h,hb=>by
  rw [abX,aT] at h;obtain ⟨v,vs',rfl,h1,h2⟩:=h;obtain ⟨d,e1,e2⟩:=Zt l vs' h2 fun y hy=>hb y (by simp [hy]);exact ⟨⟨(x,v),h1,hb x (by simp)⟩::d,by simp [e1],by simp [e2]⟩
theorem Zu {w:World} {J:Nat->Nat->Prop}:∀(d:List (Sb w J)),aT w J ((d.map fun p=>p.1.1).map ae) (d.map fun p=>p.1.2)
 | []=>by simp [aT]
 | x::d=>by
  simp only [abX,aT];exact ⟨_,_,rfl,x.2.1,Zu d⟩
theorem F2 (l:List (List Int)):(cN l).flatten=l.map ae:=by
 induction l with
 | nil=>rfl
 | cons x l ih=>simp only [cN,abX,abA] at ih ⊢;rw [ih];rfl
theorem VI {c:Cx} {w0:World} {nx:Nat} (hr:cF c w0 nx) {id k ver:Nat} {ys:List (List Dat)} (hl:look c.heap id=some (.mt k ver ys)) (hcap:0<(c.pl id).cap) {xs:List Int} {v:Value} (h:aH c.w (Imm c) (ae xs) v):Bj c.w (c.pl id).gb v xs:=by
 have h0:=PR h;unfold ae at h;rw [aH] at h
 rcases h with ⟨⟨x,rfl,_⟩,h⟩|⟨b,o,cap,rfl,_,_,hr1⟩
 ·exact .inl ⟨x,0,rfl,by simpa using h⟩
 ·cases xs with
  | nil=>exact .inl ⟨_,_,rfl,rfl⟩
  | cons x xs=>
   have hrr:=hr1;rw [abX,bY] at hr1;obtain ⟨_,hc,_⟩:=hr1;rw [du] at hc;obtain ⟨⟨u,_,hJ,_,_⟩,_⟩:=hc;refine .inr ⟨b,o,cap,by simp,?_,hr.BK hJ,zg _ _ hrr⟩;intro e;subst e
   rcases hJ with hJ|⟨_,_,g⟩
   ·exact hr.ge id _ hl hcap hJ.1
   ·obtain ⟨_,_,hh,_⟩:=g id _ hl hcap rfl;cases hh
section
variable {α : Type} [Inhabited α]
theorem F3 (enc:α->Value) (w:World) (blk off n:Nat) (d:Array α) (os:Array Obj) (k:Nat) (hk:k<w.heap.size) (hne:k≠blk):(sortWorld enc w blk off n d os).heap[k]? = w.heap[k]?:=by
 unfold sortWorld;rw [heap_grow_old _ _ (by rw [Go.Sort.size_putRow];exact hk)];simp only [putRow,mapBlock,ac1];rw [if_neg fun e=>hne e.symm];rfl
theorem HF (enc:α->Value) (w:World) (blk off n:Nat) (d:Array α) (os:Array Obj) {cs:Array Value} {e:TypeId} {fr:Nat×Nat} (hb:w.heap[blk]? = some (.cells cs e fr)):(sortWorld enc w blk off n d os).heap[blk]? = some (.cells (putCells enc off d cs) e fr):=by
 have hk:blk<w.heap.size:=by
  rcases ab2 blk w.heap.size with h|h
  ·exact h
  ·rw [ab4 h] at hb;cases hb
 unfold sortWorld;rw [heap_grow_old _ _ (by rw [Go.Sort.size_putRow];exact hk)];simp only [putRow,mapBlock,ac1,if_true];show (w.heap[blk]?).map _=_;rw [hb];rfl
theorem LW (enc:α->Value) (w:World) (blk off n:Nat) (d:Array α) (os:Array Obj) (B:Nat) (h:B<=blk) (hB:B<=w.heap.size):Go.RowKit.Below B w (sortWorld enc w blk off n d os):=by
 refine ⟨rfl,rfl,rfl,?_,fun k hk=>F3 enc w blk off n d os k (by omega) (by omega)⟩;simp [sortWorld,grow,putRow,mapBlock,Go.Sort.ahead]
end
theorem J1 {P:Program} {f:FuncId} (h:mJ P f):∀args w,(callFunc f args).run P w = .ok (.enter f args) w:=by
 obtain ⟨fn,hf,hb,hn⟩:=h;obtain ⟨c,hc⟩:=adA.1 hb;exact Go.Proofs.enters_of hf hn hc
theorem Sb.swo (w:World) (J:Nat->Nat->Prop):SWO (ltOf fun (x y:Sb w J)=>Ez x.1.1 y.1.1):=
 ⟨fun x=>yp.irrefl x.1.1,fun x y z=>yp.trans x.1.1 y.1.1 z.1.1,fun x y z=>yp.ntrans x.1.1 y.1.1 z.1.1⟩
theorem Ws {v:Value} {w:World} {J:Nat->Nat->Prop} {xs:List Int} (h:aH w J (ae xs) v):v.oneCell' = true/\one v=true:=by
 unfold ae at h;rw [aH] at h
 rcases h with ⟨⟨x,rfl,_⟩,h⟩|⟨b,o,cap,rfl,_,_,hr1⟩<;>exact ⟨rfl,rfl⟩
theorem NB (fails:List (List Int)) (hl:∀x∈fails,x.length<1000000) (hn:fails.length<1000000):LV fails.length fails.length (cN fails) (cN (dN fails)):=by
 refine ⟨vI.body,?_⟩;intro c w0 F gvs hh hr hK hp hv;obtain ⟨v1,aaG,rfl,hv1,hv2⟩:=hv;obtain ⟨v2,aao,rfl,hv2,hv3⟩:=hv2;have hv3:aao=[]:=hv3;subst hv3;have hv2:v2 = .func (.func cD) #[] #[]:=hv2;subst hv2;have hlk:look c.heap 0=some (.mt 1 fails.length (cN fails)):=by rw [hh];rfl
 have hrl:(cN fails).length=fails.length:=by simp [cN]
 simp only [aD,hlk] at hv1;obtain ⟨_,_,hv1⟩:=hv1;obtain ⟨hlen,hv1⟩:=hv1 rfl;obtain ⟨b1,b2,b3⟩:=hr.blk 0 _ hlk;rw [hrl] at b1;by_cases h0:fails=[]
 ·subst h0
  have hx:∃x cp,v1 = .slice x 0 cp:=by
   rcases hv1 with ⟨e,_⟩|⟨b,o,e,_⟩
   ·exact ⟨_,_,e⟩
   ·exact ⟨_,_,e⟩
  obtain ⟨x,cp,rfl⟩:=hx;refine (AnyF.slices_SortFunc_none { Tryz.sortF with } x cp _ c.w).mono ?_;rintro e w' ⟨rfl,rfl⟩;exact ⟨c,.val (.tuple []),_,rfl,rfl,rfl,hr,aa8 _,hp,⟨[],rfl,rfl⟩,rfl,by rw [hh];simp [dN],rfl⟩
 have hpos:0<fails.length:=ac6.2 h0;have hcap:0<(c.pl 0).cap:=by omega
 obtain ⟨vs,e0,g1,g2,g3,g4⟩:=b3 hcap
 rcases hv1 with ⟨_,e,_⟩|⟨b,o,rfl,hbo⟩
 ·omega
 obtain ⟨rfl,rfl⟩:=hbo (by omega);rw [hrl,Nat.mul_one] at g3 g4;rw [F2] at g3;obtain ⟨d,d1,d2⟩:=Zt fails _ g3 hl;have hdl:d.length=fails.length:=by rw [<- d1,acv]
 have hge:=hr.ge 0 _ hlk hcap;have hgb:=hr.geB hlk hcap;have hlt:(c.pl 0).gb<c.w.heap.size:=hr.iQ hlk hcap
 letI:Inhabited (Sb c.w (Imm c)):=⟨d[0]'(by omega)⟩
 have hds:d.toArray.size=fails.length:=by simp [hdl]
 have hcell:∀j,j<fails.length->vs[j]? = some (d.toArray[j]!).1.2:=by
  intro j hj;have h1:(vs.toList.take fails.length)[j]? = (d.map fun p=>p.1.2)[j]?:=by rw [d2]
  rw [abb,if_pos hj,abE] at h1;rw [<- abO,h1,getElem!_pos d.toArray j (by omega)];simp [show j<d.length by omega]
 have hH:Holds (fun p:Sb c.w (Imm c)=>p.1.2) c.w (c.pl 0).gb 0 d.toArray:=by
  intro j hj;rw [hds] at hj;refine ⟨?_,?_⟩
  ·show c.w.cell? ⟨(c.pl 0).gb,0+j,none⟩=_
   rw [<- hcell j hj,abt];simp [World.cell?,g1]
  ·simp [World.frozen?,g1]
 have hcmp:CmpReads Tryz.prog cD #[] (fun p:Sb c.w (Imm c)=>p.1.2) (fun x y=>Ez x.1.1 y.1.1) (c.pl 0).gb 0 d.toArray.size c.w:=
  PT _ (fun p:Sb c.w (Imm c)=>p.1.1) c.w _ _ _ fun x=>⟨VI hr hlk hcap x.2.1,x.2.2⟩
 have hS:=Any.slices_SortFunc Tryz.sortF (fun p:Sb c.w (Imm c)=>p.1.2) (fun x=>(Ws x.2.1).1) (fun x y=>Ez x.1.1 y.1.1) (Sb.swo _ _) cD #[] (c.pl 0).gb 0 ((c.pl 0).cap - 0) d.toArray c.w (J1 rQ.body) hcmp.lays hH hlt (by omega);rw [hds] at hS;refine Calls.mono hS ?_;rintro e w' ⟨rfl,d',n,os,hP,hSo,rfl⟩;obtain ⟨p1,_,p3⟩:=hP;rw [hds] at p1;have ex1:d'.extract 0 fails.length=d':=by rw [<- p1];exact Array.extract_size
 have ex2:d.toArray.extract 0 fails.length=d.toArray:=by rw [<- hds];exact Array.extract_size
 rw [ex1,ex2] at p3;have hfl:d'.toList.map (fun p=>p.1.1)=dN fails:=by
  refine HE ?_ ?_
  ·rw [<- d1];exact p3.map _
  ·rw [abT]
   intro i j hi hj hij;have hi' : i<d'.size:=by simpa using hi
   have hj' : j<d'.size:=by simpa using hj
   have:=hSo i j (acj _) hij (by omega);rw [getElem!_pos d' j hj',getElem!_pos d' i hi'] at this;have h2:ltOf Ez d'[j].1.1 d'[i].1.1=false:=this;rw [kr] at h2;simpa using h2
 have hother:∀k,k<c.w.heap.size->(Ph (c.pl 0) (.mt 1 fails.length (cN fails))->k≠(c.pl 0).gb)->(sortWorld (fun p:Sb c.w (Imm c)=>p.1.2) c.w (c.pl 0).gb 0 n d' os).heap[k]? = c.w.heap[k]?:=
  fun k hk hne=>F3 _ _ _ _ _ _ _ k hk (hne hcap)
 have hbel:=LW (fun p:Sb c.w (Imm c)=>p.1.2) c.w (c.pl 0).gb 0 n d' os c.B hgb (by omega);have hat:=HF (fun p:Sb c.w (Imm c)=>p.1.2) c.w (c.pl 0).gb 0 n d' os g1;generalize sortWorld (fun p:Sb c.w (Imm c)=>p.1.2) c.w (c.pl 0).gb 0 n d' os=w' at *;have hrl2:(cN (dN fails)).length=fails.length:=by rw [<- hfl];simp [cN,p1]
 have hev:Evo c (c.aI 0 (.mt 1 fails.length (cN (dN fails))) (c.pl 0) w'):=by
  refine Evo.aI hr hlk hother hbel.size (.inl ⟨rfl,fun _=>hcap⟩) ?_ ⟨rfl,aa8 _,fun _=>⟨rfl,by rw [hrl2,hrl]⟩⟩;intro _ o' hi;exfalso
  rcases hi with hi|⟨_,_,g3⟩
  ·exact hge hi.1
  ·obtain ⟨_,_,hh,_⟩:=g3 0 _ hlk hcap rfl;cases hh
 have htk:(putCells (fun p:Sb c.w (Imm c)=>p.1.2) 0 d' vs).toList.take fails.length=d'.toList.map fun p=>p.1.2:=by
  apply acg;intro k;rw [abb,abE]
  split
  ·rename_i hk
   rw [abO];simp only [putCells,Array.getElem?_mapIdx];obtain ⟨v,hv⟩:∃v,vs[k]? = some v:=⟨_,hcell k hk⟩
   rw [hv,acX,if_pos ⟨acj _,by omega⟩];simp only [adb];rw [getElem!_pos d' k (by omega),abO,adz (by omega)];rfl
  ·rename_i hk
   rw [abO,ab4 (by omega)];rfl
 have hH:cF (c.aI 0 (.mt 1 fails.length (cN (dN fails))) (c.pl 0) w') w0 1:=by
  refine hr.aI hlk hev hother hbel (.inl ⟨rfl,fun _=>hcap⟩) ?_;refine ⟨by rw [af.2,hrl2];exact b1,?_,fun _=>⟨_,e0,by rw [af.2];exact hat,?_,?_,?_⟩⟩
  ·intro x hx
   simp only [cN,adg] at hx;obtain ⟨y,_,rfl⟩:=hx;rfl
  ·rw [af.2];simpa [putCells] using g2
  ·refine aT.keep hev.keeps _ _ ?_
   rw [hrl2,Nat.mul_one,htk,F2,<- hfl];exact Zu _
  ·intro u hu
   rw [hrl2,Nat.mul_one,htk,adg] at hu;obtain ⟨p,_,rfl⟩:=hu;exact (Ws p.2.1).2
 have hhq:∀i,look (bk 0 [.mt 1 fails.length (cN (dN fails))]) i=look (c.aI 0 (.mt 1 fails.length (cN (dN fails))) (c.pl 0) w').heap i:=by
  intro i;simp only [Cx.aI,hh,bk,aE]
  split<;>rfl
 have hev2:=Evo.heq hhq;exact ⟨{ c.aI 0 (.mt 1 fails.length (cN (dN fails))) (c.pl 0) w' with heap:=bk 0 [.mt 1 fails.length (cN (dN fails))] },.val (.tuple []),1,rfl,rfl,rfl,hH.heq hhq,aa8 _,F.ok _ _ (hev2.toK _) (F.ok _ _ (hev.toK _) hp),⟨[],rfl,rfl⟩,rfl,rfl,rfl⟩
end Uw.Tryz.El
namespace Uw.Tryz.El
open Go Uw Uw.Tryz
abbrev bD (w:Wd) (g:Vm.Frame) (b:Int):Int:=if isNamed g then b else w.aB+2
structure Ind (c:Cd) (pre:Wd->Vm.Frame->Int->Int->Prop) (lp:Wd->Vm.Frame->Int->Int->Wd->Vm.Frame->Int->Int->Prop) (dn:Wd->Vm.Frame->Int->Int->Wd->Prop):Prop where
 start:∀{w f s ab},WI c w->Vm.right c f=true->f.task=(w.values.length:Int)+1->f.many=0->f.kids=[]->f.spent=0->pre w f s ab->lp w f s ab { w with values:=w.values++[0] } f s 0
 load:∀{w0 f0 s0 ab w f s b g a},WI c w0->Lp c w0 w f->lp w0 f0 s0 ab w f s b->Vm.cz c f = .ok g a->a.kind=1->(Vm.aV g 1 a.b [w.cells.getD a.a.toNat 0]).2=0->lp w0 f0 s0 ab (pd w g.path s a.a) (Vm.kd g 1 a.b [w.cells.getD a.a.toNat 0]) s b
 store:∀{w0 f0 s0 ab w f s b g a},WI c w0->Lp c w0 w f->lp w0 f0 s0 ab w f s b->Vm.cz c f = .ok g a->a.kind=2->(Vm.aV g 2 a.b []).2=0->lp w0 f0 s0 ab (iM w g.path s a.a a.b) (Vm.kd g 2 a.b []) s b
 call:∀{w0 f0 s0 ab w f s b g a},WI c w0->Lp c w0 w f->lp w0 f0 s0 ab w f s b->Vm.cz c f = .ok g a->a.kind=3->(Vm.aV g 3 a.b [eA w (opA a)]).2=0->lp w0 f0 s0 ab (bG w g.path s (opA a)) (Vm.kd g 3 a.b [eA w (opA a)]) s b
 kid:∀{w0 f0 s0 ab w f s b g a},WI c w0->Lp c w0 w f->lp w0 f0 s0 ab w f s b->Vm.cz c f = .ok g a->a.kind=4->(dU c w g a).2=0->pre (cH w s b (isNamed g)) (dU c w g a).1 w.aB (bD w g b)
 spawn:∀{w0 f0 s0 ab w f s b g a W},WI c w0->Lp c w0 w f->lp w0 f0 s0 ab w f s b->Vm.cz c f = .ok g a->a.kind=4->(dU c w g a).2=0->Done c (cH w s b (isNamed g)) W->dn (cH w s b (isNamed g)) (dU c w g a).1 w.aB (bD w g b) W->lp w0 f0 s0 ab W (Vm.kd g 4 a.b [(w.values.length:Int)+1]) (w.aB+1) (bD w g b)
 sync:∀{w0 f0 s0 ab w f s b g a},WI c w0->Lp c w0 w f->lp w0 f0 s0 ab w f s b->Vm.cz c f = .ok g a->a.kind=5->(Vm.aV g 5 a.b (dJ w g.kids)).2=0->lp w0 f0 s0 ab { w with splits:=w.splits++[⟨3,s,0,0,b⟩] } (Vm.kd g 5 a.b (dJ w g.kids)) b b
 fin:∀{w0 f0 s0 ab w f s b g a},WI c w0->Lp c w0 w f->lp w0 f0 s0 ab w f s b->Vm.cz c f = .ok g a->a.kind=6->dn w0 f0 s0 ab (endW w g a.a s ab)
section
variable {c : Cd} {pre : Wd -> Vm.Frame -> Int -> Int -> Prop} {lp : Wd -> Vm.Frame -> Int -> Int -> Wd -> Vm.Frame -> Int -> Int -> Prop} {dn : Wd -> Vm.Frame -> Int -> Int -> Wd -> Prop}
def Zv (c:Cd) (pre:Wd->Vm.Frame->Int->Int->Prop) (dn:Wd->Vm.Frame->Int->Int->Wd->Prop) (d:Nat) (rec:Rec):Prop:=∀(w:Wd) (f:Vm.Frame) (s ab:Int),WI c w->64<=w.values.length+d->w.values.length<64->Vm.right c f=true->f.task=(w.values.length:Int)+1->f.path.length<=w.values.length->f.many=0->f.kids=[]->f.spent=0->pre w f s ab->(rec w f s ab).2=0->dn w f s ab (rec w f s ab).1
theorem Ind.loop (I:Ind c pre lp dn) {d:Nat} {rec:Rec} (hrec:JR c d rec) (hp:Zv c pre dn d rec) (ab:Int) {w0:Wd} {f0:Vm.Frame} {s0:Int} (h0:WI c w0) (hd:64<=w0.values.length+(d+1)):∀(n:Nat) (w:Wd) (f:Vm.Frame) (s b:Int),Lp c w0 w f->lp w0 f0 s0 ab w f s b->jR f<=n->(jc c rec n w f s b ab).2=0->dn w0 f0 s0 ab (jc c rec n w f s b ab).1
 | 0,w,f,s,b,hl,hi,hf,_=>by have:=DO hl.right;omega
 | n+1,w,f,s,b,hl,hi,hf,hz=>by
  have IH:=fun w' f' s' b' hl' hi' hf' hz'=>Ind.loop (f0:=f0) (s0:=s0) I hrec hp ab h0 hd n w' f' s' b' hl' hi' hf' hz'
  cases hn:Vm.cz c f with
  | err e=>
   rw [DR hn] at hz
   rcases Vm.uc hl.right with ⟨e',h1,h2⟩|⟨g,a,h1,_⟩
   ·rw [hn] at h1;injection h1 with h1;subst h1;simp only at hz;omega
   ·rw [hn] at h1;cases h1
  | ok g a=>
   obtain ⟨hao,ht,hkp⟩:=bX hl.right hn;have q1:=hkp.k1;have q6:=hkp.k6;have key:∀{w' told s' b'} (k:Int),a.kind=k->bz c rec w g a s b ab = .go w' told s' b'->((Vm.aV g k a.b told).2=0->Lp c w0 w' (Vm.aV g k a.b told).1/\lp w0 f0 s0 ab w' (Vm.kd g k a.b told) s' b')->dn w0 f0 s0 ab (jc c rec (n+1) w f s b ab).1:=by
    intro w' told s' b' k hk hr hlp;subst hk;rw [Bi hn hr] at hz ⊢;by_cases ht0:(Vm.aV g a.kind a.b told).2=0
    ·rw [if_neg (by simp [ht0])] at hz ⊢
     have hlt:jR (Vm.aV g a.kind a.b told).1<jR f:=fuel_lt hl.right hkp (vV _ _ _ _) (fun h5=>by rw [h5] at ht0 ⊢;exact ze ht0);have e:=(rn ht0).2;exact IH _ _ _ _ (hlp ht0).1 (by rw [e];exact (hlp ht0).2) (by omega) hz
    ·rw [if_pos ht0] at hz;exact absurd hz ht0
   have hk:a.kind=1\/a.kind=2\/a.kind=3\/a.kind=4\/a.kind=5\/a.kind=6:=by omega
   rcases hk with k|k|k|k|k|k
   ·exact key (w':=pd w g.path s a.a) (told:=[w.cells.getD a.a.toNat 0]) (s':=s) (b':=b) 1 k (by simp [bz,k]) (fun h=>⟨Hv h0 hl hn k h,I.load h0 hl hi hn k h⟩)
   ·exact key (w':=iM w g.path s a.a a.b) (told:=[]) (s':=s) (b':=b) 2 k (by simp [bz,k]) (fun h=>⟨DL h0 hl hn k h,I.store h0 hl hi hn k h⟩)
   ·cases hfu:gU (bG w g.path s (opA a)) with
    | true=>
     have hr:bz c rec w g a s b ab = .done (bG w g.path s (opA a)) 8:=by simp [bz,k,hfu]
     rw [eu hn hr] at hz;simp at hz
    | false=>exact key (w':=bG w g.path s (opA a)) (told:=[eA w (opA a)]) (s':=s) (b':=b) 3 k (by simp [bz,k,hfu]) (fun h=>⟨Hw h0 hl hn k hfu h,I.call h0 hl hi hn k h⟩)
   ·have hr:bz c rec w g a s b ab=g9 c rec w g a s b:=by simp [bz,k]
    by_cases h64:64<=w.values.length
    ·have s0:bz c rec w g a s b ab = .done w 10:=by rw [hr,g9,if_pos h64]
     rw [eu hn s0] at hz;simp at hz
    have h64:w.values.length<64:=by omega
    by_cases h1:(dU c w g a).2=0
    ·have ko:=LU (s:=s) (b:=b) hrec h0 hd hl hn k h64 h1
     by_cases h2:(rec (cH w s b (isNamed g)) (dU c w g a).1 w.aB (bD w g b)).2=0
     ·have s3:bz c rec w g a s b ab = .go (rec (cH w s b (isNamed g)) (dU c w g a).1 w.aB (bD w g b)).1 [(dU c w g a).1.task] (w.aB+1) (bD w g b):=by
       rw [hr,g9,if_neg (by omega)];exact (if_neg (by simpa using h1)).trans (if_neg (fun hh=>hh h2))
      obtain ⟨e1,e2⟩:=iN h1;have et:(dU c w g a).1.task=(w.values.length:Int)+1:=by rw [e1];rfl
      obtain ⟨V,a1,_⟩:=hl.adds;have hpt:=hl.path;have hdn:=hp _ _ _ _ (NA (b:=b) (s:=s) (n:=isNamed g) h0 hl hn k) (by show 64<=w.values.length+d;omega) h64 (by rw [e1];exact e2) et (by
       rw [e1];show (g.path++[g.many]).length<=w.values.length;rw [hkp.path];simp;omega) (by rw [e1];rfl) (by rw [e1];rfl) (by rw [e1];rfl) (I.kid h0 hl hi hn k h1) h2
      have hdone:=ko.2 h2;refine key 4 k s3 (fun hz'=>⟨DN h0 hl hn k hdone et hz',?_⟩);rw [et];exact I.spawn h0 hl hi hn k h1 hdone hdn
     ·have s2:bz c rec w g a s b ab = .done (rec (cH w s b (isNamed g)) (dU c w g a).1 w.aB (bD w g b)).1 (rec (cH w s b (isNamed g)) (dU c w g a).1 w.aB (bD w g b)).2:=by
       rw [hr,g9,if_neg (by omega)];exact (if_neg (by simpa using h1)).trans (if_pos h2)
      rw [eu hn s2] at hz;exact absurd hz h2
    ·have s1:bz c rec w g a s b ab = .done w (dU c w g a).2:=by
      rw [hr,g9,if_neg (by omega)];exact if_pos h1
     rw [eu hn s1] at hz;exact absurd hz h1
   ·have hne:=hkp.wait k
    have ej:(jQ w g.kids s b).1={ w with splits:=w.splits++[⟨3,s,0,0,b⟩] }:=by simp [jQ,hne]
    exact key (w':=(jQ w g.kids s b).1) (told:=dJ w g.kids) (s':=b) (b':=b) 5 k (by simp [bz,k,jQ,hne]) (fun h=>⟨Hy h0 hl hn k h,by rw [ej];exact I.sync h0 hl hi hn k h⟩)
   ·have hr:bz c rec w g a s b ab = .done (endW w g a.a s ab) 0:=by simp [bz,k]
    rw [eu hn hr];exact I.fin h0 hl hi hn k
theorem Ind.run (hc:CO c) (I:Ind c pre lp dn):∀d,Zv c pre dn d (JG c d)
 | 0=>fun w f s ab _ h1 h2=>by omega
 | d+1=>fun w f s ab hw h1 h2 hr ht hp hm hk hs hpre hz=>
  Ind.loop I (Hz c hc d) (Ind.run hc I d) ab hw h1 _ _ _ _ _ (JQ hw h2 hr ht hp hm hk hs) (I.start hw hr ht hm hk hs hpre) (aa8 _) hz
end
end Uw.Tryz.El
namespace Uw.Tryz.El
open Go Uw Uw.Tryz
theorem step_ret {c:Cd} {b:Bd} {f g:Vm.Frame} {i:In4} {a:Vm.Ask} (hv:Vm.dW f) (hs:Vm.stepS c b f i=some (g,a)):a.kind=6->g.kids=[]/\Vm.isVal a.a=true:=by
 have fin:∀{op},Vm.aX op f=some (g,a)->a.kind=6->g.kids=[]/\Vm.isVal a.a=true:=by
  intro op hs;simp only [Vm.aX] at hs
  split at hs
  ·simp at hs;obtain ⟨rfl,rfl⟩:=hs;simp [Vm.aJ]
  ·simp at hs
 revert hs
 refine Vm.kp (fun o=>o=some (g,a)->a.kind=6->g.kids=[]/\Vm.isVal a.a=true) ?_ ?_ ?_ ?_ ?_ (fun _=>fin) (fun _=>fin) (fun _=>fin) (fun _=>fin) (fun _=>fin) ?_ ?_ ?_ ?_ ?_ ?_ ?_ ?_ (fun _=>fin) ?_
 all_goals intro ho hs
 ·simp only [Vm.jX] at hs;split at hs<;>simp at hs;obtain ⟨rfl,rfl⟩:=hs;simp [Vm.aJ]
 ·simp only [Vm.fO] at hs;repeat' split at hs
  all_goals first|(simp at hs;done)|(simp at hs;obtain ⟨rfl,rfl⟩:=hs;simp [Vm.aJ])
 ·simp only [Vm.sb] at hs;repeat' split at hs
  all_goals first|(simp at hs;done)|(simp at hs;obtain ⟨rfl,rfl⟩:=hs;simp [Vm.aJ])
 ·simp only [Vm.o8] at hs;split at hs<;>simp at hs;obtain ⟨rfl,rfl⟩:=hs;simp [Vm.aJ]
 ·simp only [Vm.g8] at hs;split at hs<;>simp at hs;obtain ⟨rfl,rfl⟩:=hs;simp [Vm.aJ]
 ·simp only [Vm.fQ] at hs;split at hs<;>simp at hs;obtain ⟨rfl,rfl⟩:=hs;simp [Vm.aJ]
 ·simp only [Vm.o9] at hs;split at hs<;>simp at hs;obtain ⟨rfl,rfl⟩:=hs;simp [Vm.aJ]
 ·simp only [Vm.cQ] at hs;split at hs
  ·simp at hs;obtain ⟨rfl,rfl⟩:=hs;simp [Vm.aJ]
  ·simp at hs
 ·simp only [Vm.jv] at hs;split at hs<;>simp at hs<;>obtain ⟨rfl,rfl⟩:=hs<;>simp [Vm.aJ]
 ·simp only [Vm.pa] at hs;split at hs<;>simp at hs;obtain ⟨rfl,rfl⟩:=hs;simp [Vm.aJ]
 ·simp only [Vm.kb] at hs;repeat' split at hs
  all_goals first|(simp at hs;done)|(simp at hs;obtain ⟨rfl,rfl⟩:=hs;simp [Vm.aJ])
 ·simp only [Vm.uG] at hs
  split at hs
  ·rename_i hk
   split at hs
   ·simp at hs
   ·rename_i hst
    simp at hs;obtain ⟨rfl,rfl⟩:=hs;intro _;refine ⟨hk,?_⟩;show Vm.isVal (f.stack.getLastD 0)=true;have hm:f.stack.getLastD 0∈f.stack:=by
     rw [adx,List.getLast?_eq_some_getLast hst];exact List.getLast_mem hst
    exact abe.1 hv.stack _ hm
  ·simp at hs;obtain ⟨rfl,rfl⟩:=hs;simp [Vm.aJ]
 ·simp only [Vm.dC] at hs;split at hs<;>simp at hs;obtain ⟨rfl,rfl⟩:=hs;simp [Vm.aJ]
 ·simp at hs
theorem NC (c:Cd) (b:Bd):∀(n:Nat) (f:Vm.Frame),Vm.Good c b f->∀g a,Vm.runN c b n f = .ok g a->a.kind=6->g.kids=[]/\Vm.isVal a.a=true
 | 0,f,h=>by simp [Vm.runN]
 | n+1,f,h=>by
  intro g a hr;rw [Vm.runN] at hr
  split at hr
  ·simp at hr
  split at hr
  ·simp at hr
  rename_i hsp hpc;have dD : 0<=f.pc/\f.pc<b.ins.length:=by simpa [Vm.below] using hpc
  have hsp' : f.spent<2000:=by have:=h.sp1;omega
  cases hs:Vm.stepS c b f (Vm.cw b f) with
  | none=>rw [hs] at hr;simp at hr
  | some p=>
   obtain ⟨g1,a1⟩:=p;rw [hs] at hr;have hg:=h.step dD.2 hsp' hs;simp only [] at hr;by_cases hk:a1.kind=0
   ·rw [if_pos hk] at hr
    exact NC c b n g1 hg g a hr
   ·rw [if_neg hk] at hr
    simp at hr;obtain ⟨rfl,rfl⟩:=hr;exact step_ret h.vals hs
theorem SX {c:Cd} {f g:Vm.Frame} {a:Vm.Ask} (hr:Vm.right c f=true) (h:Vm.cz c f = .ok g a) (k:a.kind=6):g.kids=[]/\Vm.isVal a.a=true:=by
 have hn:Vm.runN c (Vm.dp c f) (Vm.cy f) f = .ok g a:=by
  rw [Vm.cz,if_pos hr] at h;exact h
 exact NC c _ _ f (Vm.Good.of hr) g a hn k
structure aap (w:Wd):Prop where
 vals:∀v∈w.values,Vm.isVal v=true
 short:∀p∈w.fails,p.length<=64
structure LpB (w0:Wd) (f0:Vm.Frame) (w:Wd) (f:Vm.Frame):Prop where
 vals:∀v∈w.values,Vm.isVal v=true
 short:∀p∈w.fails,p.length<=64
 path:f.path=f0.path
 fails:∃L,w.fails=w0.fails++L/\L.Nodup/\∀p∈L,∃m,f0.path++[m] <+: p/\m<f.many
 uses:(w.uses.length:Int)<=w0.uses.length+(w.steps - w0.steps)+f.spent
 steps:w0.steps<=w.steps
structure DnB (w0:Wd) (f0:Vm.Frame) (w:Wd):Prop where
 vals:∀v∈w.values,Vm.isVal v=true
 short:∀p∈w.fails,p.length<=64
 fails:∃L,w.fails=w0.fails++L/\L.Nodup/\∀p∈L,f0.path <+: p
 uses:(w.uses.length:Int)<=w0.uses.length+(w.steps - w0.steps)
 steps:w0.steps+1<=w.steps
theorem LpB.one {w0 w w' : Wd} {f0 f g f' : Vm.Frame} (h:LpB w0 f0 w f) (e1:w'.values=w.values) (e2:w'.fails=w.fails) (e3:f'.path=f.path) (e4:f'.many=f.many) (e5:w'.steps=w.steps) (e6:w'.uses.length<=w.uses.length+1) (e7:f.spent<f'.spent):LpB w0 f0 w' f':=by
 obtain ⟨a1,a2,a3,a4,a5,a6⟩:=h;refine ⟨by rw [e1];exact a1,by rw [e2];exact a2,e3.trans a3,by rw [e2,e4];exact a4,by rw [e5];omega,by rw [e5];exact a6⟩
theorem LY (w:Wd) (p:List Int) (s:Int) (o:Op4):(bG w p s o).values=w.values/\(bG w p s o).fails=w.fails/\(bG w p s o).steps=w.steps/\(bG w p s o).splits=w.splits/\(bG w p s o).aB=w.aB/\(bG w p s o).cells=w.cells:=by
 unfold bG qy
 repeat' split
 all_goals exact ⟨rfl,rfl,rfl,rfl,rfl,rfl⟩
theorem pre_eq {α:Type} {l l' p:List α} {a b:α} (h1:l++[a] <+: p) (h2:l++[b] <+: p):a=b:=by
 have:=List.prefix_of_prefix_length_le h1 h2 (by simp);have:=this.eq_of_length (by simp);simpa using this
theorem LZ (c:Cd):Ind c (fun w f s ab=>aap w) (fun w0 f0 s0 ab w f s b=>LpB w0 f0 w f) (fun w0 f0 s0 ab w=>DnB w0 f0 w) where
 start {w f s ab} hw hr ht hm hk hs hp:=by
  refine ⟨?_,hp.short,rfl,⟨[],by simp,adt,by simp⟩,?_,acO _⟩
  ·intro v hv
   rcases abr.1 hv with h|h
   ·exact hp.vals v h
   ·simp at h;subst h;rfl
  ·show (w.uses.length:Int)<=w.uses.length+(w.steps - w.steps)+f.spent
   omega
 load {w0 f0 s0 ab w f s b g a} h0 hl hi hn k ht:=by
  obtain ⟨_,_,hk⟩:=bX hl.right hn;exact hi.one (g:=g) rfl rfl hk.path hk.many rfl (by simp [pd]) (hk.lt (by omega))
 store {w0 f0 s0 ab w f s b g a} h0 hl hi hn k ht:=by
  obtain ⟨_,_,hk⟩:=bX hl.right hn;exact hi.one (g:=g) rfl rfl hk.path hk.many rfl (by simp [iM]) (hk.lt (by omega))
 call {w0 f0 s0 ab w f s b g a} h0 hl hi hn k ht:=by
  obtain ⟨_,_,hk⟩:=bX hl.right hn;obtain ⟨c1,c2,c3,_⟩:=LY w g.path s (opA a);exact hi.one (g:=g) c1 c2 hk.path hk.many c3 (by simp [bG]) (hk.lt (by omega))
 kid {w0 f0 s0 ab w f s b g a} h0 hl hi hn k hz:=⟨hi.vals,hi.short⟩
 spawn {w0 f0 s0 ab w f s b g a W} h0 hl hi hn k hz hD hd:=by
  obtain ⟨_,_,hk⟩:=bX hl.right hn;obtain ⟨L,l1,l2,l3⟩:=hi.fails;obtain ⟨M,m1,m2,m3⟩:=hd.fails;have hp:(dU c w g a).1.path=f0.path++[f.many]:=by
   rw [(iN hz).1];show g.path++[g.many]=_;rw [hk.path,hk.many,hi.path]
  rw [hp] at m3;have u1:=hd.uses;have u2:=hi.uses;have s1:=hd.steps;have s2:=hi.steps;have hl2:=hk.lt (by omega);refine ⟨hd.vals,hd.short,hk.path.trans hi.path,⟨L++M,?_,?_,?_⟩,?_,?_⟩
  ·rw [m1];show w.fails++M=_;rw [l1,ab8]
  ·rw [adf]
   refine ⟨l2,m2,fun x hx y hy e=>?_⟩;subst e;obtain ⟨m,q1,q2⟩:=l3 x hx;have:=pre_eq (l':=[]) q1 (m3 x hy);omega
  ·intro p hp
   show ∃m,_/\m<g.many+1;rw [hk.many]
   rcases abr.1 hp with h|h
   ·obtain ⟨m,q1,q2⟩:=l3 p h
    exact ⟨m,q1,by omega⟩
   ·exact ⟨f.many,m3 p h,by omega⟩
  ·show (W.uses.length:Int)<=w0.uses.length+(W.steps - w0.steps)+g.spent
   have u1:(W.uses.length:Int)<=w.uses.length+(W.steps - w.steps):=u1;omega
  ·have s1:w.steps+1<=W.steps:=s1
   omega
 sync {w0 f0 s0 ab w f s b g a} h0 hl hi hn k ht:=by
  obtain ⟨_,_,hk⟩:=bX hl.right hn;have h1:=hk.le;have h2:=hi.uses;refine ⟨hi.vals,hi.short,hk.path.trans hi.path,?_,?_,hi.steps⟩
  ·show ∃L,w.fails=_/\_/\∀p∈L,∃m,_/\m<g.many
   rw [hk.many];exact hi.fails
  ·show (w.uses.length:Int)<=w0.uses.length+(w.steps - w0.steps)+g.spent
   omega
 fin {w0 f0 s0 ab w f s b g a} h0 hl hi hn k:=by
  obtain ⟨_,_,hk⟩:=bX hl.right hn;obtain ⟨r1,r2⟩:=SX hl.right hn k;have h1:=hk.lt (by omega);have h2:=hi.uses;have h3:=(Vm.Good.of hl.right).sp0;have h4:=hi.steps;have hpl:f.path.length<=64:=by have:=hl.path;have:=h0.vals;omega
  obtain ⟨L,l1,l2,l3⟩:=hi.fails;refine ⟨?_,?_,?_,?_,?_⟩
  ·intro v hv
   rcases abK hv with h|h
   ·exact hi.vals v h
   ·rw [h];exact r2
  ·show ∀p∈(if g.fail then w.fails++[g.path] else w.fails),_
   intro p hp
   split at hp
   ·rcases abr.1 hp with h|h
    ·exact hi.short p h
    ·simp at h;rw [h,hk.path];exact hpl
   ·exact hi.short p hp
  ·show ∃L,(if g.fail then w.fails++[g.path] else w.fails)=_/\_
   split
   ·refine ⟨L++[g.path],by rw [l1,ab8],?_,?_⟩
    ·rw [adf]
     refine ⟨l2,by simp,fun x hx y hy e=>?_⟩;simp at hy;subst e hy;obtain ⟨m,q1,_⟩:=l3 _ hx;have:=q1.length_le;rw [hk.path,hi.path] at this;simp at this;omega
    ·intro p hp
     rcases abr.1 hp with h|h
     ·obtain ⟨m,q1,_⟩:=l3 p h
      exact (List.prefix_append _ _).trans q1
     ·simp at h;rw [h,hk.path,hi.path];exact List.prefix_refl _
   ·refine ⟨L,l1,l2,fun p hp=>?_⟩
    obtain ⟨m,q1,_⟩:=l3 p hp;exact (List.prefix_append _ _).trans q1
  ·show (w.uses.length:Int)<=w0.uses.length+(w.steps+g.spent - w0.steps)
   omega
  ·show w0.steps+1<=w.steps+g.spent
   omega
end Uw.Tryz.El
namespace Uw.Tryz
open Go Uw
def oe (i:In4):Int×Int:=
 if i.op=1\/i.op=2\/i.op=4 then (0,1)
 else if i.op=3\/i.op=5\/i.op=12\/i.op=16\/i.op=17\/i.op=18 then (1,0)
 else if (6<=i.op/\i.op<=10)\/i.op=19 then (2,1)
 else if i.op=11 then (i.c,1)
 else if i.op=13 then (i.b,0)
 else (0,0)
def onI (i:In4) (k:Int):List Int:=if i.op=15 then [i.a] else if i.op=16 then [k+1,i.a] else if i.op=17 then [] else [k+1]
def hTo (n:Nat) (v:Int):List Int->List Int->List Int->Option (List Int×List Int)
 | [],hi,td=>some (hi,td)
 | t::r,hi,td=>
  if t<0\/(n:Int)<=t then none
  else if hi.getD t.toNat 0 = -1 then hTo n v r (hi.set t.toNat v) (td++[t])
  else if hi.getD t.toNat 0=v then hTo n v r hi td
  else none
def tN (ins:List In4):Nat->List Int->List Int->Option (List Int)
 | 0,_,_=>none
 | f+1,hi,td=>match td.getLast? with
  | none=>some hi
  | some k=>
   let i:=ins.getD k.toNat default
   if (oe i).1<0\/hi.getD k.toNat 0<(oe i).1 then none
   else match hTo ins.length (hi.getD k.toNat 0 - (oe i).1+(oe i).2) (onI i k) hi td.dropLast with
    | none=>none
    | some s=>tN ins f s.1 s.2
def tO (ins:List In4):List Int:=
 if ins=[] then [] else if ins.any fun i=>decide (i.op<1)||decide (19<i.op) then []
 else (tN ins (2 * ins.length+2) (0::List.replicate (ins.length - 1) (-1)) [0]).getD []
def jS (c:Cd) (f:Int):List Int:=if f<0\/(c.az.length:Int)<=f then [] else tO (c.az.getD f.toNat default).ins
def bN (n m:Int):Bool:=decide (0<=n)&&decide (n<m)
def iD (c:Cd) (i:In4):Bool:=
 let o:=if i.a=1\/i.a=3\/i.a=2 then c.maps else if i.a=4\/i.a=5 then c.stacks else if i.a=6\/i.a=7 then c.chans else 0
 let t:=if i.a=2 then 2 else if i.a=5\/i.a=7 then 0 else 1
 bN i.b o&&decide (i.c=t)
def gw (c:Cd) (f:Bd) (i:In4):Bool:=
 if i.op=1 then bN i.a 4294967296
 else if i.op=2\/i.op=3 then bN i.a f.locals
 else if i.op=4\/i.op=5 then bN i.a (c.cells.length:Nat)
 else if i.op=11 then iD c i
 else if i.op=13 then bN i.a (c.az.length:Nat)&&decide (i.b=(c.az.getD i.a.toNat default).args)&&(decide (i.c = -1)||bN i.c f.locals)
 else true
def jT (c:Cd) (f:Bd):Bool:=
 !(decide (f.args<0)||decide (f.locals<f.args)||decide (16<f.locals))&&!(decide (f.ins.length<1)||decide (400<f.ins.length)||decide ((tO f.ins).length=0))&&f.ins.all (gw c f)
def tP (c:Cd):Bool:=
 !(decide (c.az.length<1)||decide (32<c.az.length)||!bN c.main (c.az.length:Nat))&&!(!decide ((c.az.getD c.main.toNat default).args=0)||decide (16<c.cells.length))&&(c.cells.all fun v=>bN v 4294967296)
 &&bN c.maps 9&&bN c.stacks 9&&bN c.chans 9&&c.az.all (jT c)
structure aaH (ins:List In4) (H:Nat->Int):Prop where
 ops:∀i∈ins,1<=i.op/\i.op<=19
 zero:H 0=0
 pos:∀k,0<=H k
 step:∀(k:Nat) (h:k<ins.length),0<=(oe ins[k]).1/\(oe ins[k]).1<=H k/\∀t∈onI ins[k] (k:Int),0<=t/\t<ins.length/\H t.toNat=H k - (oe ins[k]).1+(oe ins[k]).2
structure aaI (n:Nat) (H:Nat->Int) (hi td:List Int):Prop where
 len:hi.length=n
 val:∀(k:Nat),k<n->hi.getD k 0 = -1\/hi.getD k 0=H k
 todo:∀t∈td,0<=t/\t<n/\hi.getD t.toNat 0=H t.toNat
end Uw.Tryz
namespace Uw.Tryz
open Go Uw
theorem zh (i:In4):Ret P0 eX [.agg (in4 i)] (.tuple [I (oe i).1,I (oe i).2]):=by
 obtain ⟨o,a,b,c⟩:=i;show Ret P0 eX [.agg [I o,I a,I b,I c]] (.tuple [I (oe ⟨o,a,b,c⟩).1,I (oe ⟨o,a,b,c⟩).2]);by_cases k1:o=1
 ·subst k1;refine ao aY rfl ?_;repeat refine aw ?_
  exact ai rfl rfl rfl rfl rfl
 by_cases k2:o=2
 ·subst k2;refine ao aY rfl ?_;repeat refine aw ?_
  exact ai rfl rfl rfl rfl rfl
 by_cases k4:o=4
 ·subst k4;refine ao aY rfl ?_;repeat refine aw ?_
  exact ai rfl rfl rfl rfl rfl
 by_cases k3:o=3
 ·subst k3;refine ao aY rfl ?_;repeat refine aw ?_
  exact ai rfl rfl rfl rfl rfl
 by_cases k5:o=5
 ·subst k5;refine ao aY rfl ?_;repeat refine aw ?_
  exact ai rfl rfl rfl rfl rfl
 by_cases k12:o=12
 ·subst k12;refine ao aY rfl ?_;repeat refine aw ?_
  exact ai rfl rfl rfl rfl rfl
 by_cases k16:o=16
 ·subst k16;refine ao aY rfl ?_;repeat refine aw ?_
  exact ai rfl rfl rfl rfl rfl
 by_cases k17:o=17
 ·subst k17;refine ao aY rfl ?_;repeat refine aw ?_
  exact ai rfl rfl rfl rfl rfl
 by_cases k18:o=18
 ·subst k18;refine ao aY rfl ?_;repeat refine aw ?_
  exact ai rfl rfl rfl rfl rfl
 by_cases k6:o=6
 ·subst k6;refine ao aY rfl ?_;repeat refine aw ?_
  exact ai rfl rfl rfl rfl rfl
 by_cases k7:o=7
 ·subst k7;refine ao aY rfl ?_;repeat refine aw ?_
  exact ai rfl rfl rfl rfl rfl
 by_cases k8:o=8
 ·subst k8;refine ao aY rfl ?_;repeat refine aw ?_
  exact ai rfl rfl rfl rfl rfl
 by_cases k9:o=9
 ·subst k9;refine ao aY rfl ?_;repeat refine aw ?_
  exact ai rfl rfl rfl rfl rfl
 by_cases k10:o=10
 ·subst k10;refine ao aY rfl ?_;repeat refine aw ?_
  exact ai rfl rfl rfl rfl rfl
 by_cases k19:o=19
 ·subst k19;refine ao aY rfl ?_;repeat refine aw ?_
  exact ai rfl rfl rfl rfl rfl
 by_cases k11:o=11
 ·subst k11;refine ao aY rfl ?_;repeat refine aw ?_
  exact ai rfl rfl rfl rfl rfl
 by_cases k13:o=13
 ·subst k13;refine ao aY rfl ?_;repeat refine aw ?_
  exact ai rfl rfl rfl rfl rfl
 have e:oe ⟨o,a,b,c⟩=(0,0):=by
  rw [oe,if_neg (by simp only;omega),if_neg (by simp only;omega),if_neg (by simp only;omega),if_neg (by simp only;omega),if_neg (by simp only;omega)]
 rw [e];refine ao aY rfl ?_;repeat refine aw ?_
 exact ai rfl rfl rfl rfl rfl
theorem zi (i:In4) (k:Int) (hk:0<=k/\k<1000000):Ret P0 eY [.agg (in4 i),I k] (ae (onI i k)):=by
 obtain ⟨o,a,b,c⟩:=i;show Ret P0 eY [.agg [I o,I a,I b,I c],I k] (ae (onI ⟨o,a,b,c⟩ k));by_cases k15:o=15
 ·subst k15
  refine Ret.res (r:=.slice 1 [[I a]] true) ?_ (.slice (.refl _));refine ao eO rfl ?_;repeat refine aw ?_
  exact ai rfl rfl rfl rfl rfl
 by_cases k16:o=16
 ·subst k16
  refine Ret.res (r:=.slice 1 [[I (k+1)],[I a]] true) ?_ (.slice (.refl _));refine ao eO rfl ?_;repeat refine aw ?_
  exact ai rfl rfl rfl rfl rfl
 by_cases k17:o=17
 ·subst k17
  refine Ret.res (r:=.nil) ?_ (.nil 1);refine ao eO rfl ?_;repeat refine aw ?_
  exact ai rfl rfl rfl rfl rfl
 have e:onI ⟨o,a,b,c⟩ k=[k+1]:=by rw [onI,if_neg k15,if_neg k16,if_neg k17]
 rw [e];refine Ret.res (r:=.slice 1 [[I (k+1)]] true) ?_ (.slice (.refl _));refine ao eO rfl ?_;repeat refine aw ?_
 exact ai rfl rfl rfl rfl rfl
theorem bL (n m:Int):Ret P0 iC [I n,I m] (.bool (bN n m)):=by
 by_cases h:0<=n
 ·have e:bN n m=decide (n<m):=by rw [bN,decide_eq_true h,abY]
  rw [e];refine ao km rfl ?_;repeat refine aw ?_
  exact ai rfl rfl rfl rfl rfl
 ·have e:bN n m=false:=by rw [bN,decide_eq_false h,abu]
  rw [e];refine ao km rfl ?_;repeat refine aw ?_
  exact ai rfl rfl rfl rfl rfl
end Uw.Tryz
namespace Uw.Tryz
open Go Uw
theorem ND {st S S' : St} [Glob] (h:S=S') (hw:Weak st S'):Weak st S:=by rw [h];exact hw
end Uw.Tryz
namespace Uw.Tryz
open Go Uw
abbrev rw1 (l:List Int):List (List Dat):=l.map fun i=>[I i]
abbrev PU (c:Cd):Blk:=.var [.d (.slice 3 (c.az.map bdC) false),.d (ae c.cells),.d (I c.maps),.d (I c.stacks),.d (I c.chans),.d (I c.main)]
abbrev Zw (c:Cd) (f:Int) (ins:List (List Dat)) (n:Nat) (R:Nat->List (List Dat)) (j:Nat):St:=⟨[(46,.d (I j)),(45,.d (I (ins.length:Nat))),(44,.d (.slice 4 ins false)),(6,.ref 1 0 0 n),(5,.d (.slice 4 ins false)),(4,.d .nil),(2,.ptr 0 0)],[(1,.mt 1 0 (R j)),(0,PU c)],2,[],0⟩
structure HtX where
 hi:List Int
 td:List Int
 v:Nat
 jk:List (List Dat)
def Zx (c:Cd) (ins:List (List Dat)) (n:Nat):HtX->St
 | ⟨hi,td,v,jk⟩=>⟨[(9,.ref 2 v 0 (rw1 td).length),(6,.ref 1 0 0 n),(5,.d (.slice 4 ins false)),(4,.d .nil),(2,.ptr 0 0)],[(2,.mt 1 v (rw1 td++jk)),(1,.mt 1 0 (rw1 hi)),(0,PU c)],3,[],0⟩
def Yb (c:Cd) (ins:List (List Dat)) (n:Nat) (k w:Int) (on:List Int):Nat×HtX->St
 | (j,⟨hi,td,v,jk⟩)=>⟨[(113,.d (I j)),(112,.d (I ((rw1 on).length:Nat))),(111,.d (ae on)),(13,.d (I w)),(10,.d (I k)),(9,.ref 2 v 0 (rw1 td).length),(6,.ref 1 0 0 n),(5,.d (.slice 4 ins false)),(4,.d .nil),(2,.ptr 0 0)],[(2,.mt 1 v (rw1 td++jk)),(1,.mt 1 0 (rw1 hi)),(0,PU c)],3,[],0⟩
structure HtI (n:Nat) (x:HtX):Prop where
 len:x.hi.length=n
 val:∀h∈x.hi,-1<=h/\h+(x.hi.count (-1):Nat)<=(n:Int)
 td:∀t∈x.td,0<=t/\t<(n:Int)/\0<=x.hi.getD t.toNat 0
def lw (x:HtX):Nat:=2 * x.hi.count (-1)+x.td.length
theorem L0 {l:List Int} {i:Nat} (h:i<l.length) (e:l.getD i 0 = -1) {v:Int} (hv:v≠-1):(l.set i v).count (-1)+1=l.count (-1):=by
 have hg:l[i] = -1:=by simpa [List.getD,h] using e
 have hpos:0<l.count (-1):=List.count_pos_iff.2 (hg ▸ abg h);rw [List.count_set h];simp [hg,hv];omega
theorem L1 {l:List Int} {t:Int} (h0:0<=t) (h:t<(l.length:Int)):(rw1 l)[0+t.toNat]? = some [I (l.getD t.toNat 0)]:=by
 have hl:t.toNat<l.length:=by omega
 rw [abt,abE,aa9 hl,List.getD,aa9 hl];rfl
theorem HG (l:List Int) (t:Nat) (v w:Int):(rw1 l).set (0+t) (setAt [I w] 0 [I v])=rw1 (l.set t v):=by
 simp [rw1,abI,setAt]
theorem HtI.push {n:Nat} {x:HtX} (h:HtI n x) {t v:Int} (h1:0<=t) (h2:t<(n:Int)) (e:x.hi.getD t.toNat 0 = -1) (hv:0<=v) (hc:v+(x.hi.count (-1):Nat)<=(n:Int)+1) (w:Nat) :
  HtI n ⟨x.hi.set t.toNat v,x.td++[t],w,[]⟩/\lw ⟨x.hi.set t.toNat v,x.td++[t],w,[]⟩<lw x/\((x.hi.set t.toNat v).count (-1):Nat)<=(x.hi.count (-1):Nat):=by
 have hl:t.toNat<x.hi.length:=by rw [h.len];omega
 have hct:=L0 hl e (show v≠-1 by omega);refine ⟨⟨by rw [acZ];exact h.len,fun a ha=>?_,fun u hu=>?_⟩,?_,by omega⟩
 ·rcases abK ha with ha|rfl
  ·have:=h.val a ha
   refine ⟨this.1,?_⟩;simp only at *;omega
  ·refine ⟨by omega,?_⟩
   simp only at *;omega
 ·simp only at hu ⊢
  have hg:∀k:Nat,(x.hi.set t.toNat v).getD k 0=if k=t.toNat then v else x.hi.getD k 0:=fun k=>by
   simp only [List.getD,acN];by_cases hkt:t.toNat=k
   ·rw [if_pos hkt,if_pos hkt.symm,if_pos hl];rfl
   ·rw [if_neg hkt,if_neg (fun h=>hkt h.symm)]
  rcases abr.1 hu with hu|hu
  ·obtain ⟨a1,a2,a3⟩:=h.td u hu
   refine ⟨a1,a2,?_⟩;rw [hg];split
   ·exact hv
   ·exact a3
  ·simp only [acL] at hu;subst hu
   exact ⟨h1,h2,by rw [hg,if_pos rfl];exact hv⟩
 ·simp only [lw,abH,acA];omega
theorem SY (i:In4):(oe i).2=0\/(oe i).2=1:=by
 unfold oe
 repeat' split
 all_goals simp
theorem Yc (i:In4) (k:Int):(onI i k).length<=2:=by
 unfold onI
 repeat' split
 all_goals simp
def VJ (n:Nat) (v:Int) (on:List Int) (HR:Option (List Int×List Int)) (M:Nat) (y:Nat×HtX):Prop:=
 y.1<=on.length/\HtI n y.2/\hTo n v (on.drop y.1) y.2.hi y.2.td=HR/\lw y.2<=M/\v+(y.2.hi.count (-1):Nat)<=(n:Int)+1
def SZ (ins:List In4) (R:Option (List Int)) (x:HtX):Prop:=(HtI ins.length x/\lw x<=1000000)/\∃fu,lw x<fu/\tN ins fu x.hi x.td=R
theorem rx (c:Cd) (f:Nat) (ba bl:Int) (ins:List In4) (D:Dat) (hb:c.az[f]? = some ⟨ba,bl,ins⟩) (hpos:0<ins.length) (hfew:ins.length<=100000) (hbad:(ins.any fun i=>decide (i.op<1)||decide (19<i.op))=true->D = .nil)
  (hgood:(ins.any fun i=>decide (i.op<1)||decide (19<i.op))=false->∀R,tN ins (2 * ins.length+2) (0::List.replicate (ins.length - 1) (-1)) [0]=R->(R=none->D = .nil)/\∀hi,R=some hi->D = .slice 1 (rw1 hi) false):Ret P0 eM [cdD c,I (f:Nat)] D:=by
 have hfl:=(abx.1 hb).1;have hfi:(f:Int)<((c.az.map bdC).length:Nat):=by rw [acv];omega
 have hel:(c.az.map bdC)[(f:Int).toNat]? = some [I ba,I bl,.slice 4 (ins.map in4) false]:=by simp [hb,bdC]
 have hnl:(ins.map in4).length=ins.length:=by simp
 have hinl:∀(j:Nat) (h:j<ins.length),(ins.map in4)[(j:Int).toNat]? = some (in4 ins[j]):=fun j h=>by simp [h]
 obtain ⟨R,hR⟩:∃R:Nat->List (List Dat),∀j,R j=rw1 (List.replicate j (-1)++List.replicate (ins.length - j) 0):=⟨_,fun _=>rfl⟩
 have hR0:R 0=List.replicate (((ins.map in4).length:Nat):Int).toNat [Dat.int .i64 0]:=by rw [hR];simp [rw1]
 have Yd:∀(j:Nat),j<ins.length->(R j)[0+(j:Int).toNat]? = some [I 0]/\(R j).set (0+(j:Int).toNat) (setAt [I 0] 0 [I (-1)])=R (j+1):=fun j h=>by
  have hjl:((j:Nat):Int)<((List.replicate j (-1:Int)++List.replicate (ins.length - j) 0).length:Nat):=by simp;omega
  refine ⟨?_,?_⟩
  ·rw [hR,L1 (by omega) hjl]
   simp [List.getD,List.getElem?_append,adE,show 0<ins.length - j by omega]
  ·rw [hR,HG,hR,Int.toNat_natCast]
   obtain ⟨m,hm⟩:∃m,ins.length - j=m+1:=⟨ins.length - j - 1,by omega⟩
   have e:((List.replicate j (-1:Int))++0::List.replicate m 0).set j (-1)=List.replicate j (-1)++-1::List.replicate m 0:=by
    have:j=(List.replicate j (-1:Int)).length:=by simp
    conv=>lhs;arg 2;rw [this]
    rw [List.set_append_right _ _ (aa8 _),Nat.sub_self];rfl
   rw [hm,ab9,e,show ins.length - (j+1)=m by omega,acC (n:=j)];simp
 have hRn:(R ins.length)[0+(0:Int).toNat]? = some [I (-1)]/\(R ins.length).set (0+(0:Int).toNat) (setAt [I (-1)] 0 [I 0])=rw1 (0::List.replicate (ins.length - 1) (-1)):=by
  obtain ⟨m,hm⟩:∃m,ins.length=m+1:=⟨ins.length - 1,by omega⟩
  rw [hR,hm,Nat.sub_self];refine ⟨rfl,?_⟩;show (rw1 _).set (0+0) _=_;rw [HG];simp [ab9]
 clear hR;refine ao eo rfl ?_
 repeat (first|refine aw ?_|refine f1 ?_|refine m1 ?_)
 refine eU ins.length (Zw c f (ins.map in4) ins.length R) (fun j=>∀h:j<ins.length,¬(ins[j].op<1\/19<ins[j].op)) (ND (by rw [Zw,hR0]) ?_) (fun hgo=>?_) (fun j hj hpre=>?_)
 ·exact Uw.wM
 rotate_left 1
 ·have he:=hinl j hj
  obtain ⟨r1,r2⟩:=Yd j hj;have hb1:(ins[j].op<1\/19<ins[j].op)->D = .nil:=fun h=>hbad (acS.2 ⟨ins[j],abg hj,by simpa using h⟩);have hg1:¬(ins[j].op<1\/19<ins[j].op)->∀h:j<ins.length,¬(ins[j].op<1\/19<ins[j].op):=fun h _=>h;clear hbad hgood hinl Yd hRn;generalize ins[j]=i at *;obtain ⟨io,ia,ib,ic⟩:=i;have he:(ins.map in4)[(j:Int).toNat]? = some [I io,I ia,I ib,I ic]:=he;simp only at hb1 hg1;by_cases q1:io<1
  ·obtain rfl:=hb1 (.inl q1)
   repeat (first|refine aw ?_|refine f1 ?_)
   exact ce (ai rfl rfl rfl rfl rfl)
  by_cases q2:19<io
  ·obtain rfl:=hb1 (.inr q2)
   repeat (first|refine aw ?_|refine f1 ?_)
   exact ce (ai rfl rfl rfl rfl rfl)
  have hg1:=hg1 (by omega)
  repeat (first|refine aw ?_|refine f1 ?_)
  exact eK j hg1 (by exact Uw.wM)
 obtain ⟨hgn,hgs⟩:=hgood (acy.2 fun i hi=>by
  obtain ⟨j,hj,rfl⟩:=abR.1 hi;have:=hgo j hj hj;simpa using this) _ rfl
 obtain ⟨rn1,rn2⟩:=hRn;clear hbad hgood Yd hgo;have hx0:SZ ins (tN ins (2 * ins.length+2) (0::List.replicate (ins.length - 1) (-1)) [0]) ⟨0::List.replicate (ins.length - 1) (-1),[0],0,[]⟩:=by
  have hcn:(0::List.replicate (ins.length - 1) (-1:Int)).count (-1)=ins.length - 1:=by rw [List.count_cons,List.count_replicate];simp
  refine ⟨⟨⟨by simp;omega,fun h hh=>?_,fun t ht=>?_⟩,?_⟩,_,?_,rfl⟩
  ·simp only [hcn]
   rcases abG.1 hh with rfl|hh
   ·omega
   ·obtain ⟨_,rfl⟩:=List.mem_replicate.1 hh;omega
  ·simp at ht;subst ht;exact ⟨by omega,by omega,by simp⟩
  ·rw [lw];simp only [hcn,acA];omega
  ·rw [lw];simp only [hcn,acA];omega
 generalize tN ins (2 * ins.length+2) (0::List.replicate (ins.length - 1) (-1)) [0]=HR at *
 repeat (first|refine aw ?_|refine f1 ?_)
 refine aZ ?_
 repeat (first|refine aw ?_|refine f1 ?_)
 refine dM (Zx c (ins.map in4) ins.length) (SZ ins HR) lw ⟨0::List.replicate (ins.length - 1) (-1),[0],0,[]⟩ (ND (by rw [Zx,<- rn2]) ?_) hx0 ?_
 ·exact Uw.wM
 clear hx0 rn1 rn2 hpos hel hfi hfl hb;rintro ⟨hi,td,v,jk⟩ ⟨⟨hI,hmu⟩,fu,hfu,hRR⟩;obtain ⟨fu,rfl⟩:∃k,fu=k+1:=⟨fu - 1,by omega⟩
 have hl:=hI.len;simp only at hRR hl;have hrl:(rw1 hi).length=hi.length:=by simp
 have aaq:(rw1 td).length=td.length:=by simp
 rcases List.eq_nil_or_concat td with rfl|⟨td',k,rfl⟩
 ·have hRR:some hi=HR:=hRR
  have hD:=hgs hi hRR.symm;have e:((rw1 hi).drop 0).take ins.length=rw1 hi:=by rw [abk,aa7 (by rw [hrl,hl];exact aa8 _)]
  rw [<- e] at hD;rw [hD]
  repeat (first|refine aw ?_|refine f1 ?_)
  refine aZ ?_
  repeat (first|refine aw ?_|refine f1 ?_)
  exact ai rfl rfl rfl rfl rfl
 rw [List.concat_eq_append] at *;obtain ⟨k0,kn,kh⟩:=hI.td k (by simp);have hlast:(rw1 (td'++[k])++jk)[0+((((rw1 (td'++[k])).length:Nat):Int) - 1).toNat]? = some [I k]:=by
  have e:0+((((rw1 (td'++[k])).length:Nat):Int) - 1).toNat=(rw1 td').length:=by simp
  rw [e,rw1,acu,ab8];simp
 have hlen1:(rw1 (td'++[k])).length=(rw1 td').length+1:=by simp
 have hrow:rw1 td'++[I k]::jk=rw1 (td'++[k])++jk:=by simp [rw1]
 have hkl:k.toNat<ins.length:=by omega
 have hek:(ins.map in4)[k.toNat]? = some (in4 (ins.getD k.toNat default)):=by simp [List.getD,hkl]
 have hrk:=L1 (l:=hi) k0 (by rw [hl];exact kn);have hq:(if (oe (ins.getD k.toNat default)).1<0\/hi.getD k.toNat 0<(oe (ins.getD k.toNat default)).1 then none
   else match hTo ins.length (hi.getD k.toNat 0 - (oe (ins.getD k.toNat default)).1+(oe (ins.getD k.toNat default)).2) (onI (ins.getD k.toNat default) k) hi td' with
    | none=>none
    | some s=>tN ins fu s.1 s.2)=HR:=by
  rw [tN] at hRR;simp only [List.getLast?_append,List.getLast?_singleton,Option.some_or,List.dropLast_concat] at hRR;exact hRR
 have heff:=zh (ins.getD k.toNat default);have hon:=zi (ins.getD k.toNat default) k ⟨k0,by omega⟩;have hpu:=SY (ins.getD k.toNat default);have hol:=Yc (ins.getD k.toNat default) k;have hh : -1<=hi.getD k.toNat 0/\hi.getD k.toNat 0+(hi.count (-1):Nat)<=(ins.length:Int):=by
  have hkl2:k.toNat<hi.length:=by rw [hl];exact hkl
  have:hi.getD k.toNat 0∈hi:=by rw [List.getD,aa9 hkl2];exact abg hkl2
  exact hI.val _ this
 have hI' : HtI ins.length ⟨hi,td',v,[I k]::jk⟩:=⟨hI.len,hI.val,fun t ht=>hI.td t (by simp [ht])⟩
 have aar : lw ⟨hi,td',v,[I k]::jk⟩+1=lw ⟨hi,td'++[k],v,jk⟩:=by simp [lw];omega
 have aay:(ins.map in4).length=ins.length:=by simp
 clear hRR hI;simp only at kh;generalize onI (ins.getD k.toNat default) k=on at *;generalize (oe (ins.getD k.toNat default)).1=tk at *;generalize (oe (ins.getD k.toNat default)).2=pu at *;generalize ins.getD k.toNat default=i0 at *;obtain ⟨io,ia,ib,ic⟩:=i0;have hek:(ins.map in4)[k.toNat]? = some [I io,I ia,I ib,I ic]:=hek;have heff:Ret P0 eX [.agg [I io,I ia,I ib,I ic]] (.tuple [I tk,I pu]):=heff;have hon:Ret P0 eY [.agg [I io,I ia,I ib,I ic],I k] (ae on):=hon;obtain ⟨h,hh0⟩:∃h,hi.getD k.toNat 0=h:=⟨_,rfl⟩
 rw [hh0] at hrk hq hh kh;have hvv:Nat.beq v v=true:=acT v;have hp0:(0:Int)<((rw1 (td'++[k])).length:Nat):=by omega
 have htl:td'.length<=1000000:=by have:=hmu;simp only [lw,abH,acA] at this;omega
 have hin:inR .i64 ((((rw1 (td'++[k])).length:Nat):Int) - 1)=true:=by simp [inR];omega
 by_cases q1:tk<0
 ·have hq:none=HR:=by rw [if_pos (.inl q1)] at hq;exact hq
  obtain rfl:=hgn hq.symm
  repeat (first|refine aw ?_|refine f1 ?_)
  exact ce (ai rfl rfl rfl rfl rfl)
 by_cases q2:h<tk
 ·have hq:none=HR:=by rw [if_pos (.inr q2)] at hq;exact hq
  obtain rfl:=hgn hq.symm
  repeat (first|refine aw ?_|refine f1 ?_)
  exact ce (ai rfl rfl rfl rfl rfl)
 rw [if_neg (by omega)] at hq;obtain ⟨w,hw⟩:∃w,h - tk+pu=w:=⟨_,rfl⟩
 have hw0:0<=w/\w+(hi.count (-1):Nat)<=(ins.length:Int)+1:=by omega
 have hwn:¬w = -1:=by omega
 rw [hw] at hq;have hTn:hTo ins.length w on hi td' = none->D = .nil:=fun e=>by rw [e] at hq;exact hgn hq.symm
 have hTs:∀s,hTo ins.length w on hi td' = some s->tN ins fu s.1 s.2=HR:=fun s e=>by rw [e] at hq;exact hq
 have Zy:VJ ins.length w on (hTo ins.length w on hi td') (lw ⟨hi,td',v,[I k]::jk⟩) (0,⟨hi,td',v,[I k]::jk⟩):=⟨acj _,hI',rfl,aa8 _,hw0.2⟩
 have hrl2:(rw1 on).length=on.length:=by simp
 have hin2:inR .i64 (h - tk)=true:=by simp [inR];omega
 have aas:inR .i64 (h - tk+pu)=true:=by simp [inR];omega
 clear hq;generalize hTo ins.length w on hi td' = HT at *;have hM:lw ⟨hi,td',v,[I k]::jk⟩<1000000:=by omega
 have hfu2:lw ⟨hi,td',v,[I k]::jk⟩<fu:=by omega
 have hM2:lw ⟨hi,td',v,[I k]::jk⟩<lw ⟨hi,td'++[k],v,jk⟩:=by omega
 clear aar hmu hfu hI' hgn;generalize hMM:lw ⟨hi,td',v,[I k]::jk⟩=M at *
 repeat (first|refine aw ?_|refine f1 ?_)
 refine dM (Yb c (ins.map in4) ins.length k w on) (VJ ins.length w on HT M) (fun y=>on.length - y.1) (0,⟨hi,td',v,[I k]::jk⟩) (ND (by rw [Yb,hrow,<- hw]) ?_) Zy ?_
 ·exact Uw.wM
 clear Zy hrow hlast hlen1 hek hrk hh heff hon hpu hp0 hin hvv hw hin2 aas hrl hl aaq;rintro ⟨j,hi2,td2,v2,jk2⟩ ⟨g1,g2,g3,g4,g5⟩;have g2:HtI ins.length ⟨hi2,td2,v2,jk2⟩:=g2;have g4:lw ⟨hi2,td2,v2,jk2⟩<=M:=g4;simp only at g1 g3 g5;have hl2:=g2.len;simp only at hl2;have hvv:Nat.beq v2 v2=true:=acT v2;have aaJ:td2.length<=1000000:=by have:=g4;simp only [lw] at this;omega
 have aaK:(rw1 td2).length=td2.length:=by simp
 rcases ab2 j on.length with hj|hj
 rotate_left 1
 ·have hjn:j=on.length:=Nat.le_antisymm g1 hj
  subst hjn;have hend:some (hi2,td2)=HT:=by rw [List.drop_length,hTo] at g3;exact g3
  have hnext:=hTs _ hend.symm;have hjj:¬(on.length:Int)<((rw1 on).length:Nat):=by omega
  have hinv:SZ ins HR ⟨hi2,td2,v2,jk2⟩:=⟨⟨g2,by omega⟩,fu,by omega,hnext⟩
  have hmm:lw ⟨hi2,td2,v2,jk2⟩<lw ⟨hi,td'++[k],v,jk⟩:=by omega
  repeat (first|refine aw ?_|refine f1 ?_)
  refine aZ ?_
  repeat (first|refine aw ?_|refine f1 ?_)
  refine aW ⟨hi2,td2,v2,jk2⟩ hinv hmm ?_;exact Uw.wM
 have hjj:(j:Int)<((rw1 on).length:Nat):=by omega
 have heo:(rw1 on)[(j:Int).toNat]? = some [I on[j]]:=by simp [hj]
 rw [abV hj,hTo] at g3;generalize on[j]=t at *;by_cases t1:t<0
 ·rw [if_pos (.inl t1)] at g3
  obtain rfl:=hTn g3.symm
  repeat (first|refine aw ?_|refine f1 ?_)
  exact ce (ce (ai rfl rfl rfl rfl rfl))
 by_cases t2:(ins.length:Int)<=t
 ·rw [if_pos (.inr t2)] at g3
  obtain rfl:=hTn g3.symm;have t3:(((ins.map in4).length:Nat):Int)<=t:=by omega
  repeat (first|refine aw ?_|refine f1 ?_)
  exact ce (ce (ai rfl rfl rfl rfl rfl))
 rw [if_neg (by omega)] at g3;have t3:¬(((ins.map in4).length:Nat):Int)<=t:=by omega
 have hrt:=L1 (l:=hi2) (show 0<=t by omega) (by omega);by_cases e1:hi2.getD t.toNat 0 = -1
 ·rw [if_pos e1] at g3
  obtain ⟨p1,p2,p3⟩:=g2.push (show 0<=t by omega) (by omega) e1 hw0.1 g5 (v2+1);have p2:lw ⟨hi2.set t.toNat w,td2++[t],v2+1,[]⟩<lw ⟨hi2,td2,v2,jk2⟩:=p2;simp only at p3;have hinv:VJ ins.length w on HT M (j+1,⟨hi2.set t.toNat w,td2++[t],v2+1,[]⟩):=⟨hj,p1,g3,by show lw ⟨hi2.set t.toNat w,td2++[t],v2+1,[]⟩<=M;omega,by simp only;omega⟩
  have hmm:on.length - (j+1)<on.length - j:=by omega
  rw [e1] at hrt;have hset:=HG hi2 t.toNat w (-1);obtain ⟨w2,hw2⟩:∃w2,w2=w:=⟨_,rfl⟩
  have aaL:((rw1 hi2).set (0+t.toNat) (setAt [I (-1)] 0 [I w]))[0+t.toNat]? = some [I w2]:=by
   rw [hw2];have:t.toNat<hi2.length:=by omega
   simp [acN,setAt,this]
  have hrow2:rw1 (td2++[t])++([]:List (List Dat))=(rw1 td2++jk2).take (rw1 td2).length++((((List.replicate 1 [Dat.int .i64 0]).set 0 [I t]).drop 0).take 1):=by
   rw [adr];simp [rw1]
  have hby:decide (((rw1 td2).length+1) * 8<=70368744177664)=true:=by rw [decide_eq_true_eq];omega
  clear p1 p2 p3 g2 g3 e1
  repeat (first|refine aw ?_|refine f1 ?_)
  refine aW (j+1,⟨hi2.set t.toNat w,td2++[t],v2+1,[]⟩) hinv hmm (ND (by rw [Yb,hrow2,<- hset]) ?_);exact Uw.wM
 rw [if_neg e1] at g3;obtain ⟨h2,hh2⟩:∃h,hi2.getD t.toNat 0=h:=⟨_,rfl⟩
 rw [hh2] at g3 e1 hrt;by_cases e2:h2=w
 ·rw [if_pos e2] at g3
  have hinv:VJ ins.length w on HT M (j+1,⟨hi2,td2,v2,jk2⟩):=⟨hj,g2,g3,g4,g5⟩
  have hmm:on.length - (j+1)<on.length - j:=by omega
  clear g2 g3
  repeat (first|refine aw ?_|refine f1 ?_)
  refine aW (j+1,⟨hi2,td2,v2,jk2⟩) hinv hmm ?_;exact Uw.wM
 ·rw [if_neg e2] at g3
  obtain rfl:=hTn g3.symm
  repeat (first|refine aw ?_|refine f1 ?_)
  exact ce (ce (ai rfl rfl rfl rfl rfl))
end Uw.Tryz
namespace Uw.Tryz
open Go Uw
theorem yq (c:Cd) (hc:c.az.length<=1000000) (f:Int) (hfew:∀b,c.az[f.toNat]? = some b->b.ins.length<=100000):Ret P0 eM [cdD c,I f] (ae (jS c f)):=by
 have hml:(c.az.map bdC).length=c.az.length:=by simp
 by_cases h1:f<0
 ·have e:jS c f=[]:=by rw [jS,if_pos (.inl h1)]
  rw [e];refine Ret.res (r:=.nil) ?_ (.nil 1);refine ao eo rfl ?_
  repeat refine aw ?_
  exact ai rfl rfl rfl rfl rfl
 by_cases h2:(c.az.length:Int)<=f
 ·have e:jS c f=[]:=by rw [jS,if_pos (.inr h2)]
  rw [e];refine Ret.res (r:=.nil) ?_ (.nil 1);have h3:((c.az.map bdC).length:Int)<=f:=by omega
  refine ao eo rfl ?_
  repeat refine aw ?_
  exact ai rfl rfl rfl rfl rfl
 have hlt:f.toNat<c.az.length:=by omega
 have hb:c.az[f.toNat]? = some c.az[f.toNat]:=aa9 hlt;have e:jS c f=tO c.az[f.toNat].ins:=by rw [jS,if_neg (by omega),List.getD,hb];rfl
 have hf2:=hfew _ hb;clear hfew;rw [e];generalize c.az[f.toNat]=b at *;obtain ⟨ba,bl,ins⟩:=b;simp only at hf2 ⊢;by_cases h3:ins=[]
 ·subst h3
  have e:tO []=[]:=rfl;rw [e];refine Ret.res (r:=.nil) ?_ (.nil 1);have hel:(c.az.map bdC)[f.toNat]? = some [I ba,I bl,.slice 4 [] false]:=by simp [hb,bdC]
  refine ao eo rfl ?_
  repeat refine aw ?_
  exact ai rfl rfl rfl rfl rfl
 have hpos:=ac6.2 h3;obtain ⟨k,rfl⟩:∃k:Nat,f=(k:Int):=⟨f.toNat,by omega⟩
 have hb:c.az[k]? = some ⟨ba,bl,ins⟩:=hb
 cases ha:ins.any fun i=>decide (i.op<1)||decide (19<i.op) with
 | true=>
  have e:tO ins=[]:=by rw [tO,if_neg h3,ha];rfl
  rw [e];exact Ret.res (rx c k ba bl ins .nil hb hpos hf2 (fun _=>rfl) (fun h=>absurd (h.symm.trans ha) (by simp))) (.nil 1)
 | false=>
  have e:tO ins=(tN ins (2 * ins.length+2) (0::List.replicate (ins.length - 1) (-1)) [0]).getD []:=by rw [tO,if_neg h3,ha];rfl
  rw [e]
  cases hR:tN ins (2 * ins.length+2) (0::List.replicate (ins.length - 1) (-1)) [0] with
  | none=>exact Ret.res (rx c k ba bl ins .nil hb hpos hf2 (fun h=>absurd (h.symm.trans ha) (by simp)) (fun _ R hr=>⟨fun _=>rfl,fun hi hs=>absurd (hs.symm.trans (hr.symm.trans hR)) (by simp)⟩)) (.nil 1)
  | some hi=>exact rx c k ba bl ins _ hb hpos hf2 (fun h=>absurd (h.symm.trans ha) (by simp)) (fun _ R hr=>⟨fun hn=>absurd (hn.symm.trans (hr.symm.trans hR)) (by simp),fun hi2 hs=>by rw [hR] at hr;rw [<- hr] at hs;injection hs with hs;rw [<- hs];rfl⟩)
theorem zj (c:Cd) (i:In4):Ret P0 eZ [cdD c,.agg (in4 i)] (.bool (iD c i)):=by
 obtain ⟨fs,cs,m,s,h,mn⟩:=c;obtain ⟨o,a,b,cc⟩:=i;show Ret P0 eZ [.agg [.slice 3 (fs.map bdC) false,ae cs,I m,I s,I h,I mn],.agg [I o,I a,I b,I cc]] _;have key:∀x t:Int,∃r,bN b x=r/\Ret P0 iC [I b,I x] (.bool r):=fun x t=>⟨_,rfl,bL b x⟩
 by_cases k1:a=1
 ·subst k1
  obtain ⟨r,hr,hb⟩:=key m 1;have e:iD ⟨fs,cs,m,s,h,mn⟩ ⟨o,1,b,cc⟩=(r&&decide (cc=1)):=by rw [<- hr];rfl
  rw [e]
  cases r
  all_goals
   refine ao ct rfl ?_
   repeat refine aw ?_
   exact ai rfl rfl rfl rfl rfl
 by_cases k3:a=3
 ·subst k3
  obtain ⟨r,hr,hb⟩:=key m 1;have e:iD ⟨fs,cs,m,s,h,mn⟩ ⟨o,3,b,cc⟩=(r&&decide (cc=1)):=by rw [<- hr];rfl
  rw [e]
  cases r
  all_goals
   refine ao ct rfl ?_
   repeat refine aw ?_
   exact ai rfl rfl rfl rfl rfl
 by_cases k2:a=2
 ·subst k2
  obtain ⟨r,hr,hb⟩:=key m 2;have e:iD ⟨fs,cs,m,s,h,mn⟩ ⟨o,2,b,cc⟩=(r&&decide (cc=2)):=by rw [<- hr];rfl
  rw [e]
  cases r
  all_goals
   refine ao ct rfl ?_
   repeat refine aw ?_
   exact ai rfl rfl rfl rfl rfl
 by_cases k4:a=4
 ·subst k4
  obtain ⟨r,hr,hb⟩:=key s 1;have e:iD ⟨fs,cs,m,s,h,mn⟩ ⟨o,4,b,cc⟩=(r&&decide (cc=1)):=by rw [<- hr];rfl
  rw [e]
  cases r
  all_goals
   refine ao ct rfl ?_
   repeat refine aw ?_
   exact ai rfl rfl rfl rfl rfl
 by_cases k5:a=5
 ·subst k5
  obtain ⟨r,hr,hb⟩:=key s 0;have e:iD ⟨fs,cs,m,s,h,mn⟩ ⟨o,5,b,cc⟩=(r&&decide (cc=0)):=by rw [<- hr];rfl
  rw [e]
  cases r
  all_goals
   refine ao ct rfl ?_
   repeat refine aw ?_
   exact ai rfl rfl rfl rfl rfl
 by_cases k6:a=6
 ·subst k6
  obtain ⟨r,hr,hb⟩:=key h 1;have e:iD ⟨fs,cs,m,s,h,mn⟩ ⟨o,6,b,cc⟩=(r&&decide (cc=1)):=by rw [<- hr];rfl
  rw [e]
  cases r
  all_goals
   refine ao ct rfl ?_
   repeat refine aw ?_
   exact ai rfl rfl rfl rfl rfl
 by_cases k7:a=7
 ·subst k7
  obtain ⟨r,hr,hb⟩:=key h 0;have e:iD ⟨fs,cs,m,s,h,mn⟩ ⟨o,7,b,cc⟩=(r&&decide (cc=0)):=by rw [<- hr];rfl
  rw [e]
  cases r
  all_goals
   refine ao ct rfl ?_
   repeat refine aw ?_
   exact ai rfl rfl rfl rfl rfl
 obtain ⟨r,hr,hb⟩:=key 0 1;have e:iD ⟨fs,cs,m,s,h,mn⟩ ⟨o,a,b,cc⟩=(r&&decide (cc=1)):=by
  rw [<- hr,iD];simp [k1,k2,k3,k4,k5,k6,k7]
 rw [e]
 cases r
 all_goals
  refine ao ct rfl ?_
  repeat refine aw ?_
  exact ai rfl rfl rfl rfl rfl
theorem AW (c:Cd) (hc:c.az.length<=1000000) (f:Bd) (i:In4):Ret P0 fG [cdD c,.agg (bdC f),.agg (in4 i)] (.bool (gw c f i)):=by
 have hca:=zj c i;have hml:(c.az.map bdC).length=c.az.length:=by simp
 have hcl:(c.cells.map fun i=>[I i]).length=c.cells.length:=by simp
 obtain ⟨fa,fl,fi⟩:=f;obtain ⟨o,a,b,cc⟩:=i;have hca:Ret P0 eZ [cdD c,.agg [I o,I a,I b,I cc]] (.bool (iD c ⟨o,a,b,cc⟩)):=hca;show Ret P0 fG [cdD c,.agg [I fa,I fl,.slice 4 (fi.map in4) false],.agg [I o,I a,I b,I cc]] _;by_cases k1:o=1
 ·subst k1
  have hb:=bL a 4294967296;refine ao bK rfl ?_
  repeat refine aw ?_
  exact ai rfl rfl rfl rfl rfl
 by_cases k2:o=2
 ·subst k2
  have hb:=bL a fl;refine ao bK rfl ?_
  repeat refine aw ?_
  exact ai rfl rfl rfl rfl rfl
 by_cases k3:o=3
 ·subst k3
  have hb:=bL a fl;refine ao bK rfl ?_
  repeat refine aw ?_
  exact ai rfl rfl rfl rfl rfl
 by_cases k4:o=4
 ·subst k4
  have hb:=bL a (c.cells.length:Nat);rw [<- hcl] at hb;have e:gw c ⟨fa,fl,fi⟩ ⟨4,a,b,cc⟩=bN a ((c.cells.map fun i=>[I i]).length:Nat):=by rw [hcl];rfl
  rw [e];refine ao bK rfl ?_
  repeat refine aw ?_
  exact ai rfl rfl rfl rfl rfl
 by_cases k5:o=5
 ·subst k5
  have hb:=bL a (c.cells.length:Nat);rw [<- hcl] at hb;have e:gw c ⟨fa,fl,fi⟩ ⟨5,a,b,cc⟩=bN a ((c.cells.map fun i=>[I i]).length:Nat):=by rw [hcl];rfl
  rw [e];refine ao bK rfl ?_
  repeat refine aw ?_
  exact ai rfl rfl rfl rfl rfl
 by_cases k11:o=11
 ·subst k11
  refine ao bK rfl ?_
  repeat refine aw ?_
  exact ai rfl rfl rfl rfl rfl
 by_cases k13:o=13
 ·subst k13
  have hb:=bL a (c.az.length:Nat);have hd:=bL cc fl;have e0:gw c ⟨fa,fl,fi⟩ ⟨13,a,b,cc⟩=(bN a (c.az.length:Nat)&&decide (b=(c.az.getD a.toNat default).args)&&(decide (cc = -1)||bN cc fl)):=rfl;rw [e0];by_cases q1:bN a (c.az.length:Nat)=true
  ·rw [q1] at hb ⊢
   rw [<- hml] at hb;have q:0<=a/\a<(c.az.length:Int):=by simpa [bN] using q1
   have hlt:a.toNat<c.az.length:=by omega
   have hg:c.az.getD a.toNat default=c.az[a.toNat]:=by simp [List.getD,hlt]
   have hel:(c.az.map bdC)[a.toNat]? = some (bdC c.az[a.toNat]):=by simp [hlt]
   rw [hg];clear e0 q1 hg;generalize c.az[a.toNat]=g at *;obtain ⟨ga,gl,gi⟩:=g;have hel:(c.az.map bdC)[a.toNat]? = some [I ga,I gl,.slice 4 (gi.map in4) false]:=hel;simp only [abY];by_cases q2:b=ga
   ·rw [decide_eq_true q2,abY]
    by_cases q3:cc = -1
    ·rw [decide_eq_true q3,acr]
     refine ao bK rfl ?_
     repeat refine aw ?_
     exact ai rfl rfl rfl rfl rfl
    ·rw [decide_eq_false q3,adC]
     refine ao bK rfl ?_
     repeat refine aw ?_
     exact ai rfl rfl rfl rfl rfl
   ·rw [decide_eq_false q2,abu]
    refine ao bK rfl ?_
    repeat refine aw ?_
    exact ai rfl rfl rfl rfl rfl
  ·have q1:bN a (c.az.length:Nat)=false:=by simpa using q1
   rw [q1] at hb ⊢;rw [<- hml] at hb;simp only [abu];refine ao bK rfl ?_
   repeat refine aw ?_
   exact ai rfl rfl rfl rfl rfl
 have e:gw c ⟨fa,fl,fi⟩ ⟨o,a,b,cc⟩=true:=by
  rw [gw,if_neg k1,if_neg (by simp only;omega),if_neg (by simp only;omega),if_neg k11,if_neg k13]
 rw [e];refine ao bK rfl ?_
 repeat refine aw ?_
 exact ai rfl rfl rfl rfl rfl
end Uw.Tryz
namespace Uw.Tryz
open Go Uw
abbrev sdS (c:Cd) (ba bl:Int) (ins:List In4) (j:Nat):St:=⟨[(48,.d (I j)),(47,.d (I ((ins.map in4).length:Nat))),(46,.d (.slice 4 (ins.map in4) false)),(5,.ptr 1 0),(4,.d (.bool false)),(2,.ptr 0 0)],[(1,.var [.d (I ba),.d (I bl),.d (.slice 4 (ins.map in4) false)]),(0,PU c)],2,[],0⟩
theorem AX (c:Cd) (hc:c.az.length<=1000000) (k:Nat) (b:Bd) (hb:c.az[k]? = some b):Ret P0 lC [cdD c,I k] (.bool (jT c b)):=by
 have hlt:=(abx.1 hb).1;have hki:(k:Int)<((c.az.map bdC).length:Nat):=by rw [acv];omega
 have hel:(c.az.map bdC)[(k:Int).toNat]? = some [I b.args,I b.locals,.slice 4 (b.ins.map in4) false]:=by simp [hb,bdC]
 have hnl:(b.ins.map in4).length=b.ins.length:=by simp
 have hht:∀h:b.ins.length<=400,Ret P0 eM [cdD c,I k] (ae (tO b.ins)):=fun h=>by
  have:=yq c hc k (fun b2 h2=>by
   rw [show (k:Int).toNat=k from rfl,hb] at h2;injection h2 with h2;subst h2;omega)
  rwa [show jS c k=tO b.ins by rw [jS,if_neg (by omega),List.getD,show (k:Int).toNat=k from rfl,hb];rfl] at this
 have hna:=fun i=>AW c hc b i;obtain ⟨a1,ha1⟩:∃a,decide (b.args<0)=a:=⟨_,rfl⟩
 obtain ⟨hl,hhl⟩:∃hl,(tO b.ins)=hl:=⟨_,rfl⟩
 have hS:jT c b=(!(decide (b.args<0)||decide (b.locals<b.args)||decide (16<b.locals))&&!(decide (b.ins.length<1)||decide (400<b.ins.length)||decide (hl.length=0))&&b.ins.all (gw c b)):=by rw [<- hhl];rfl
 rw [hhl] at hht;rw [hS];clear hhl hS ha1 a1;have hhm:(hl.map fun i=>[I i]).length=hl.length:=by simp
 obtain ⟨ba,bl,ins⟩:=b;simp only at hel hnl hht hna ⊢;by_cases q1:ba<0
 ·simp only [decide_eq_true q1,acr,ab1,abu]
  refine ao c9 rfl ?_
  repeat refine aw ?_
  exact ai rfl rfl rfl rfl rfl
 by_cases q2:bl<ba
 ·simp only [decide_eq_true q2,acV,acr,ab1,abu]
  refine ao c9 rfl ?_
  repeat refine aw ?_
  exact ai rfl rfl rfl rfl rfl
 by_cases q3:16<bl
 ·simp only [decide_eq_true q3,acV,ab1,abu]
  refine ao c9 rfl ?_
  repeat refine aw ?_
  exact ai rfl rfl rfl rfl rfl
 simp only [decide_eq_false q1,decide_eq_false q2,decide_eq_false q3,adB,ac5,abY];by_cases q4:ins.length<1
 ·simp only [decide_eq_true q4,acr,ab1,abu]
  have q5:(((ins.map in4).length:Nat):Int)<1:=by omega
  refine ao c9 rfl ?_
  repeat refine aw ?_
  exact ai rfl rfl rfl rfl rfl
 have q4' : ¬(((ins.map in4).length:Nat):Int)<1:=by omega
 by_cases q5:400<ins.length
 ·simp only [decide_eq_true q5,acV,acr,ab1,abu]
  have q6:(400:Int)<((ins.map in4).length:Nat):=by omega
  refine ao c9 rfl ?_
  repeat refine aw ?_
  exact ai rfl rfl rfl rfl rfl
 have q5' : ¬(400:Int)<((ins.map in4).length:Nat):=by omega
 have hht:=hht (by omega);by_cases q6:hl.length=0
 ·simp only [decide_eq_true q6,acV,ab1,abu]
  have q7:(((hl.map fun i=>[I i]).length:Nat):Int)=0:=by omega
  refine ao c9 rfl ?_
  repeat refine aw ?_
  exact ai rfl rfl rfl rfl rfl
 have q6' : ¬(((hl.map fun i=>[I i]).length:Nat):Int)=0:=by omega
 simp only [decide_eq_false q4,decide_eq_false q5,decide_eq_false q6,adB,ac5,abY];have hone:∀(j:Nat) (h:j<ins.length),gw c ⟨ba,bl,ins⟩ ins[j]=false->ins.all (gw c ⟨ba,bl,ins⟩)=false:=fun j h e=>by
  rw [acz];exact ⟨_,abg h,by rw [e];simp⟩
 have hall:(∀(j:Nat) (h:j<ins.length),gw c ⟨ba,bl,ins⟩ ins[j]=true)->ins.all (gw c ⟨ba,bl,ins⟩)=true:=fun h=>abe.2 fun i hi=>by
  obtain ⟨j,hj,rfl⟩:=abR.1 hi;exact h j hj
 have Zz:∀(j:Nat) (h:j<ins.length),(ins.map in4)[(j:Int).toNat]? = some (in4 ins[j]):=fun j h=>by simp [h]
 generalize ins.all (gw c ⟨ba,bl,ins⟩)=R at *;refine ao c9 rfl ?_
 repeat (first|refine aw ?_|refine f1 ?_)
 refine eU ins.length (sdS c ba bl ins) (fun j=>∀h:j<ins.length,gw c ⟨ba,bl,ins⟩ ins[j]=true) ?_ (fun hg=>?_) (fun j hj _=>?_)
 ·exact Uw.wM
 ·obtain rfl:=hall fun j h=>hg j h h
  repeat (first|refine aw ?_|refine f1 ?_)
  refine aZ ?_
  repeat (first|refine aw ?_|refine f1 ?_)
  exact ai rfl rfl rfl rfl rfl
 have he:=Zz j hj;have hn:=hna ins[j];have ho:=hone j hj;have hg1:gw c ⟨ba,bl,ins⟩ ins[j]=true->∀h:j<ins.length,gw c ⟨ba,bl,ins⟩ ins[j]=true:=fun h _=>h;clear hone hall Zz hna hht;generalize gw c ⟨ba,bl,ins⟩ ins[j]=r at *;generalize ins[j]=i at *;obtain ⟨io,ia,ib,ic⟩:=i;have he:(ins.map in4)[(j:Int).toNat]? = some [I io,I ia,I ib,I ic]:=he;have hn:Ret P0 fG [cdD c,.agg [I ba,I bl,.slice 4 (ins.map in4) false],.agg [I io,I ia,I ib,I ic]] (.bool r):=hn
 cases r with
 | true=>
  have hg1:=hg1 rfl
  repeat (first|refine aw ?_|refine f1 ?_)
  exact eK j hg1 (by exact Uw.wM)
 | false=>
  obtain rfl:=ho rfl
  repeat (first|refine aw ?_|refine f1 ?_)
  exact ce (ai rfl rfl rfl rfl rfl)
abbrev aat (c:Cd) (j:Nat):St:=⟨[(44,.d (I j)),(43,.d (I ((c.cells.map fun i=>[I i]).length:Nat))),(42,.d (ae c.cells)),(2,.d (.bool false)),(1,.ptr 0 0)],[(0,PU c)],1,[],0⟩
abbrev aau (c:Cd) (j:Nat):St:=⟨[(71,.d (I j)),(70,.d (I ((c.az.map bdC).length:Nat))),(2,.d (.bool false)),(1,.ptr 0 0)],[(0,PU c)],1,[],0⟩
theorem lH (c:Cd) (hc:c.az.length<=1000000) (hcc:c.cells.length<=1000000):Ret P0 dT [cdD c] (.bool (tP c)):=by
 have hfl:(c.az.map bdC).length=c.az.length:=by simp
 have hcl:(c.cells.map fun i=>[I i]).length=c.cells.length:=by simp
 have hso:=AX c hc;have hbm:=bL c.main (c.az.length:Nat);have hb1:=bL c.maps 9;have hb2:=bL c.stacks 9;have hb3:=bL c.chans 9;have hbc:=fun v=>bL v 4294967296;rw [<- hfl] at hbm;have hR:tP c=(!(decide (c.az.length<1)||decide (32<c.az.length)||!bN c.main ((c.az.map bdC).length:Nat))&&!(!decide ((c.az.getD c.main.toNat default).args=0)||decide (16<c.cells.length))&&(c.cells.all fun v=>bN v 4294967296)&&bN c.maps 9&&bN c.stacks 9&&bN c.chans 9&&c.az.all (jT c)):=by rw [hfl];rfl
 rw [hR];clear hR;by_cases q1:c.az.length<1
 ·simp only [decide_eq_true q1,acr,ab1,abu]
  have q1' : (((c.az.map bdC).length:Nat):Int)<1:=by omega
  refine ao dx rfl ?_
  repeat refine aw ?_
  exact ai rfl rfl rfl rfl rfl
 have q1' : ¬(((c.az.map bdC).length:Nat):Int)<1:=by omega
 by_cases q2:32<c.az.length
 ·simp only [decide_eq_true q2,acV,acr,ab1,abu]
  have q2' : (32:Int)<((c.az.map bdC).length:Nat):=by omega
  refine ao dx rfl ?_
  repeat refine aw ?_
  exact ai rfl rfl rfl rfl rfl
 have q2' : ¬(32:Int)<((c.az.map bdC).length:Nat):=by omega
 simp only [decide_eq_false q1,decide_eq_false q2,adB,adC,Bool.not_not]
 cases q3:bN c.main ((c.az.map bdC).length:Nat) with
 | false=>
  rw [q3] at hbm;simp only [abu];refine ao dx rfl ?_
  repeat refine aw ?_
  exact ai rfl rfl rfl rfl rfl
 | true=>
 rw [q3] at hbm;have q3' : 0<=c.main/\c.main<(c.az.length:Int):=by simpa [bN] using q3
 have ZA:c.main.toNat<c.az.length:=by omega
 have hg:c.az.getD c.main.toNat default=c.az[c.main.toNat]:=by simp [List.getD,ZA]
 have hel:(c.az.map bdC)[c.main.toNat]? = some (bdC c.az[c.main.toNat]):=by simp [ZA]
 have hmr:0<=c.main/\c.main<(((c.az.map bdC).length:Nat):Int):=by omega
 rw [hg];simp only [abY];clear hg;generalize c.az[c.main.toNat]=g at *;obtain ⟨ga,gl,gi⟩:=g;have hel:(c.az.map bdC)[c.main.toNat]? = some [I ga,I gl,.slice 4 (gi.map in4) false]:=hel;simp only;by_cases q4:ga=0
 rotate_left 1
 ·simp only [decide_eq_false q4,ac5,acr,ab1,abu]
  refine ao dx rfl ?_
  repeat refine aw ?_
  exact ai rfl rfl rfl rfl rfl
 simp only [decide_eq_true q4,ab1,adC];by_cases q5:16<c.cells.length
 ·simp only [decide_eq_true q5,ab1,abu]
  have q5' : (16:Int)<((c.cells.map fun i=>[I i]).length:Nat):=by omega
  refine ao dx rfl ?_
  repeat refine aw ?_
  exact ai rfl rfl rfl rfl rfl
 have q5' : ¬(16:Int)<((c.cells.map fun i=>[I i]).length:Nat):=by omega
 simp only [decide_eq_false q5,ac5,abY];have hone:∀(j:Nat) (h:j<c.cells.length),bN c.cells[j] 4294967296=false->(c.cells.all fun v=>bN v 4294967296)=false:=fun j h e=>by
  rw [acz];exact ⟨_,abg h,by rw [e];simp⟩
 have hall:(∀(j:Nat) (h:j<c.cells.length),bN c.cells[j] 4294967296=true)->(c.cells.all fun v=>bN v 4294967296)=true:=fun h=>abe.2 fun i hi=>by
  obtain ⟨j,hj,rfl⟩:=abR.1 hi;exact h j hj
 have S0:∀(j:Nat) (h:j<c.az.length),jT c c.az[j]=false->c.az.all (jT c)=false:=fun j h e=>by
  rw [acz];exact ⟨_,abg h,by rw [e];simp⟩
 have S3:(∀(j:Nat) (h:j<c.az.length),jT c c.az[j]=true)->c.az.all (jT c)=true:=fun h=>abe.2 fun i hi=>by
  obtain ⟨j,hj,rfl⟩:=abR.1 hi;exact h j hj
 have Ye:∀(j:Nat) (h:j<c.cells.length),(c.cells.map fun i=>[I i])[(j:Int).toNat]? = some [I c.cells[j]]:=fun j h=>by simp [h]
 generalize (c.cells.all fun v=>bN v 4294967296)=A at *;generalize c.az.all (jT c)=F at *;generalize bN c.maps 9=b1 at *;generalize bN c.stacks 9=b2 at *;generalize bN c.chans 9=b3 at *;refine ao dx rfl ?_
 repeat (first|refine aw ?_|refine f1 ?_)
 refine eU c.cells.length (aat c) (fun j=>∀h:j<c.cells.length,bN c.cells[j] 4294967296=true) ?_ (fun hg=>?_) (fun j hj _=>?_)
 ·exact Uw.wM
 rotate_left 1
 ·have he:=Ye j hj
  have hn:=hbc c.cells[j];have ho:=hone j hj;have hg1:bN c.cells[j] 4294967296=true->∀h:j<c.cells.length,bN c.cells[j] 4294967296=true:=fun h _=>h;clear hone hall Ye hbc S0 S3 hso;generalize bN c.cells[j] 4294967296=r at *;generalize c.cells[j]=i at *
  cases r with
  | true=>
   have hg1:=hg1 rfl
   repeat (first|refine aw ?_|refine f1 ?_)
   exact eK j hg1 (by exact Uw.wM)
  | false=>
   obtain rfl:=ho rfl
   repeat (first|refine aw ?_|refine f1 ?_)
   exact ce (ai rfl rfl rfl rfl rfl)
 obtain rfl:=hall fun j h=>hg j h h;simp only [abY];clear hone hall Ye hg
 cases b1 with
 | false=>
  simp only [abu]
  repeat (first|refine aw ?_|refine f1 ?_)
  refine aZ ?_
  repeat (first|refine aw ?_|refine f1 ?_)
  refine fK 4 ?_;show WT _ _ _;refine aw ?_;refine aw ?_;refine aF [I c.maps] rfl ?_
  repeat refine aw ?_
  exact yM (ai rfl rfl rfl rfl rfl)
 | true=>
 cases b2 with
 | false=>
  simp only [abu,adu]
  repeat (first|refine aw ?_|refine f1 ?_)
  refine aZ ?_
  repeat (first|refine aw ?_|refine f1 ?_)
  refine fK 4 ?_;show WT _ _ _;refine aw ?_;refine aw ?_;refine aF [I c.maps] rfl ?_
  repeat refine aw ?_
  refine eI ?_;refine aw ?_;refine aw ?_;refine aF [I c.stacks] rfl ?_
  repeat refine aw ?_
  exact yM (ai rfl rfl rfl rfl rfl)
 | true=>
 cases b3 with
 | false=>
  simp only [abu,adu]
  repeat (first|refine aw ?_|refine f1 ?_)
  refine aZ ?_
  repeat (first|refine aw ?_|refine f1 ?_)
  refine fK 4 ?_;show WT _ _ _;refine aw ?_;refine aw ?_;refine aF [I c.maps] rfl ?_
  repeat refine aw ?_
  refine eI ?_;refine aw ?_;refine aw ?_;refine aF [I c.stacks] rfl ?_
  repeat refine aw ?_
  refine eI ?_;refine aw ?_;refine aw ?_;refine aF [I c.chans] rfl ?_
  repeat refine aw ?_
  exact yM (ai rfl rfl rfl rfl rfl)
 | true=>
  simp only [abY]
  repeat (first|refine aw ?_|refine f1 ?_)
  refine aZ ?_
  repeat (first|refine aw ?_|refine f1 ?_)
  refine fK 4 ?_;show WT _ _ _;refine aw ?_;refine aw ?_;refine aF [I c.maps] rfl ?_
  repeat refine aw ?_
  refine eI ?_;refine aw ?_;refine aw ?_;refine aF [I c.stacks] rfl ?_
  repeat refine aw ?_
  refine eI ?_;refine aw ?_;refine aw ?_;refine aF [I c.chans] rfl ?_
  repeat refine aw ?_
  refine eI ?_
  repeat refine aw ?_
  refine pT ?_
  repeat (first|refine aw ?_|refine f1 ?_)
  refine eU c.az.length (aau c) (fun j=>∀h:j<c.az.length,jT c c.az[j]=true) ?_ (fun hg=>?_) (fun j hj _=>?_)
  ·exact Uw.wM
  rotate_left 1
  ·have hn:=hso j c.az[j] (aa9 hj)
   have ho:=S0 j hj;have hg1:jT c c.az[j]=true->∀h:j<c.az.length,jT c c.az[j]=true:=fun h _=>h;clear hbc S0 S3 hso;generalize jT c c.az[j]=r at *
   cases r with
   | true=>
    have hg1:=hg1 rfl
    repeat (first|refine aw ?_|refine f1 ?_)
    exact eK j hg1 (by exact Uw.wM)
   | false=>
    obtain rfl:=ho rfl
    repeat (first|refine aw ?_|refine f1 ?_)
    exact ce (ai rfl rfl rfl rfl rfl)
  obtain rfl:=S3 fun j h=>hg j h h
  repeat (first|refine aw ?_|refine f1 ?_)
  refine aZ ?_
  repeat (first|refine aw ?_|refine f1 ?_)
  exact ai rfl rfl rfl rfl rfl
end Uw.Tryz
namespace Uw.Tryz.El
open Go Uw Uw.Tryz Go.Proofs Go.RowKit
abbrev DW:Ty:=.int .i64
abbrev aav:Ty:=.struct [DW,DW,DW,DW]
abbrev ZB:Ty:=.struct [DW,DW,.slice 4 aav]
abbrev Wt:Ty:=.struct [.slice 3 ZB,.slice 1 DW,DW,DW,DW,DW]
structure Rch (c:Cd):Prop where
 az:c.az.length<=reachBytes
 cells:c.cells.length<=reachBytes
 ins:∀b∈c.az,b.ins.length<=reachBytes
theorem VK {ds:List Dat} (h:uR Wt ds):∃c:Cd,Dat.agg ds=cdD c/\Rch c:=by
 obtain ⟨_,_,rfl,⟨fs,rfl,hfl,hf⟩,_,_,rfl,⟨cs,rfl,hcl,hc⟩,_,_,rfl,⟨m,rfl,_⟩,_,_,rfl,⟨s,rfl,_⟩,_,_,rfl,⟨ch,rfl,_⟩,_,_,rfl,⟨mn,rfl,_⟩,rfl⟩:=h;obtain ⟨fl,rfl,hfq⟩:=A4 (f:=bdC) (Q:=fun b=>b.ins.length<=reachBytes) (fun x hx'=>by
  obtain ⟨_,_,rfl,⟨a,rfl,_⟩,_,_,rfl,⟨b,rfl,_⟩,_,_,rfl,⟨is,rfl,hl,hi⟩,rfl⟩:=hf x hx';obtain ⟨il,rfl,_⟩:=A4 (f:=in4) (Q:=fun _=>True) (fun y hy=>by
   obtain ⟨_,_,rfl,⟨o,rfl,_⟩,_,_,rfl,⟨a,rfl,_⟩,_,_,rfl,⟨b,rfl,_⟩,_,_,rfl,⟨c,rfl,_⟩,rfl⟩:=hi y hy;exact ⟨⟨o,a,b,c⟩,rfl,trivial⟩)
  exact ⟨⟨a,b,il⟩,rfl,by simpa using hl⟩)
 obtain ⟨cl,rfl,_⟩:=A4 (f:=fun i=>[I i]) (Q:=fun _=>True) (fun y hy=>by
  obtain ⟨n,rfl,_⟩:=hc y hy;exact ⟨n,rfl,trivial⟩)
 exact ⟨⟨fl,cl,m,s,ch,mn⟩,rfl,⟨by simpa using hfl,by simpa using hcl,hfq⟩⟩
def yr (l:List Bd):Nat:=(l.map fun b=>b.ins.length).sum
def L2 (c:Cd):Bool:=decide (c.az.length<=40)&&decide (yr c.az<=1200)&&decide (c.cells.length<=40)
theorem PV {l:List Bd} {j:Nat} (h:j<l.length):yr (l.take (j+1))=yr (l.take j)+l[j].ins.length:=by
 unfold yr;rw [abw h,acu,ado];simp
theorem NF {R:Nat}:∀{l:List Bd},(∀b∈l,b.ins.length<=R)->yr l<=l.length * R
 | [],_=>acj _
 | b::l,h=>by
  have h1:=NF (l:=l) fun x hx=>h x (by simp [hx]);have h2:=h b (by simp);have e:yr (b::l)=b.ins.length+yr l:=by simp [yr]
  rw [e,abp,abo];omega
abbrev feS (c:Cd):Nat×Int->St:=fun (j,n)=>⟨[(4,.d (I j)),(3,.d (I n)),(2,.d (.bool false)),(1,.ptr 0 0)],[(0,.var (cdV c))],1,[],0⟩
theorem J2 (c:Cd) (hr:Rch c):Ret P0 zB [cdD c] (.bool (L2 c)):=by
 have hR:=QU;have h1:=hr.az;have h2:=hr.cells;have hfl:(c.az.map bdC).length=c.az.length:=by simp
 have hcl:(c.cells.map fun i=>[I i]).length=c.cells.length:=by simp
 have hi:∀j (h:j<c.az.length),(c.az.map bdC)[(j:Int).toNat]? = some [I c.az[j].args,I c.az[j].locals,.slice 4 (c.az[j].ins.map in4) false]/\c.az[j].ins.length<140737488355328:=fun j h=>⟨by simp [h,bdC],by have:=hr.ins _ (abg h);omega⟩
 have hinv:∀(j:Nat) (n:Int) (h:j<c.az.length),(c.az.length<=40->n=(yr (c.az.take j):Nat))->(c.az.length<=40->0<=n/\n<=40 * 140737488355328)/\(c.az.length<=40->n+(c.az[j].ins.length:Nat)=(yr (c.az.take (j+1)):Nat)):=by
  intro j n h hn;refine ⟨fun h40=>?_,fun h40=>?_⟩
  ·rw [hn h40]
   have:=NF (l:=c.az.take j) (R:=reachBytes) fun b hb=>hr.ins b (aby hb);have h3:(c.az.take j).length * reachBytes<=40 * reachBytes:=abn _ (by simp;omega);omega
  ·rw [hn h40,PV h];omega
 have hend:∀n:Int,(c.az.length<=40->n=(yr (c.az.take c.az.length):Nat))->L2 c=(decide (c.az.length<=40)&&decide (n<=1200)&&decide (c.cells.length<=40)):=by
  intro n hn;unfold L2;by_cases h40:c.az.length<=40
  ·rw [hn h40,abZ]
   have e:(((yr c.az:Nat):Int)<=1200)=(yr c.az<=1200):=propext (by omega);simp only [e]
  ·simp [h40]
 generalize L2 c=R at *;refine ao GV rfl ?_
 repeat refine aw ?_
 refine dM (feS c) (fun x=>x.1<=c.az.length/\(c.az.length<=40->x.2=(yr (c.az.take x.1):Nat))) (fun x=>c.az.length - x.1) (0,0) (by exact Uw.wM) ⟨acj _,fun _=>rfl⟩ ?_;rintro ⟨j,n⟩ ⟨hj,hn⟩;simp only at hj hn;by_cases hlt:j<c.az.length
 ·obtain ⟨g1,g2⟩:=hi j hlt
  obtain ⟨g3,g4⟩:=hinv j n hlt hn;have g5:(c.az[j].ins.map in4).length=c.az[j].ins.length:=by simp
  have hlt' : (j:Int)<((c.az.map bdC).length:Nat):=by omega
  generalize hL:c.az[j].ins.map in4=L at *;generalize c.az[j].ins.length=m at *;generalize c.az[j].args=A at *;generalize c.az[j].locals=B at *
  repeat refine aw ?_
  refine bE (fun ht=>?_) (fun ht=>?_)
  ·repeat refine aw ?_
   refine aW (j+1,n+(L.length:Nat)) ⟨hlt,fun h40=>by show n+(L.length:Nat)=_;rw [g5];exact g4 h40⟩ (by show _ - (j+1)<_ - j;omega) (by exact Uw.wM)
  ·have h40:¬c.az.length<=40:=by
    intro h40;have:=g3 h40;simp [inR] at ht;omega
   repeat refine aw ?_
   refine aW (j+1,IntKind.i64.wrap (n+(L.length:Nat))) ⟨hlt,fun h=>absurd h h40⟩ (by show _ - (j+1)<_ - j;omega) (by exact Uw.wM)
 ·have hje:j=c.az.length:=by omega
  subst hje;have hlt' : ¬((c.az.length:Nat):Int)<((c.az.map bdC).length:Nat):=by omega
  have he:=hend n hn;clear hinv hend hi hn;by_cases q1:c.az.length<=40
  rotate_left 1
  ·have q1' : ¬((c.az.map bdC).length:Int)<=40:=by omega
   rw [decide_eq_false q1,abu,abu] at he;subst he
   repeat refine aw ?_
   refine aZ ?_
   repeat refine aw ?_
   exact ai rfl rfl rfl rfl rfl
  have q1' : ((c.az.map bdC).length:Int)<=40:=by omega
  by_cases q2:n<=1200
  rotate_left 1
  ·rw [decide_eq_false q2,adu,abu] at he
   subst he
   repeat refine aw ?_
   refine aZ ?_
   repeat refine aw ?_
   exact ai rfl rfl rfl rfl rfl
  have e3:decide (c.cells.length<=40)=decide (((c.cells.map fun i=>[I i]).length:Int)<=40):=decide_eq_decide.2 (by omega);rw [decide_eq_true q1,decide_eq_true q2,e3,abY,abY] at he;subst he
  repeat refine aw ?_
  refine aZ ?_
  repeat refine aw ?_
  exact ai rfl rfl rfl rfl rfl
theorem J3 {c:Cd} (h:tP c=true):CO c:=by
 simp only [tP,aa5,abW,abJ,decide_eq_false_iff_not,bN,decide_eq_true_eq,abe] at h;obtain ⟨⟨⟨⟨⟨⟨h1,h2⟩,h3⟩,h4⟩,h5⟩,h6⟩,h7⟩:=h;have hs:∀b∈c.az,b.ins.length<=400/\b.locals<=16:=by
  intro b hb;have:=h7 b hb;simp only [jT,aa5,abW,abJ,decide_eq_false_iff_not] at this;omega
 exact ⟨by omega,by omega,fun b hb=>by have:=(hs b hb).1;omega,fun b hb=>by have:=(hs b hb).2;omega,by omega,by omega,by omega⟩
abbrev vX (c:Cd):Vm.Frame×Int:=Vm.dc c c.main [] 1 []
structure Runs (c:Cd):Prop where
 right:tP c=true
 co:CO c
 start:(vX c).2=0
 err:(dE c).2=0
 done:Done c (de c) (dE c).1
 bnd:DnB (de c) (vX c).1 (dE c).1
theorem VL {c:Cd} (hc:CO c) (hs:(vX c).2=0) (he:(dE c).2=0) {pre:Wd->Vm.Frame->Int->Int->Prop} {lp:Wd->Vm.Frame->Int->Int->Wd->Vm.Frame->Int->Int->Prop} {dn:Wd->Vm.Frame->Int->Int->Wd->Prop} (I:Ind c pre lp dn) (hp:pre (de c) (vX c).1 0 0):dn (de c) (vX c).1 0 0 (dE c).1:=by
 obtain ⟨e1,e2⟩:=iN hs;refine I.run hc 64 (de c) _ 0 0 (JS hc) (by simp [de]) (by simp [de]) ?_ ?_ ?_ ?_ ?_ ?_ hp he
 ·rw [e1];exact e2
 ·rw [e1];rfl
 ·rw [e1];simp [Vm.gq]
 ·rw [e1];rfl
 ·rw [e1];rfl
 ·rw [e1];rfl
theorem J4 (c:Cd) (hf:L2 c=true):(∃e,e≠0/\Ret P0 dH [cdD c] (Ey e))\/(Runs c/\Ret P0 dH [cdD c] (FZ (dE c).1 (dN (dE c).1.fails))):=by
 simp only [L2,aa5,decide_eq_true_eq] at hf;have hR:=lH c (by omega) (by omega)
 cases hr:tP c with
 | false=>rw [hr] at hR;exact .inl ⟨1,by decide,yn c hR⟩
 | true=>
  rw [hr] at hR;have hc:=J3 hr;by_cases hs:(vX c).2=0
  ·by_cases he:(dE c).2=0
   ·have hd:=(ue c hc hs).2 he
    have hb:=VL hc hs he (LZ c) ⟨by simp [de],by simp [de]⟩;refine .inr ⟨⟨hr,hc,hs,he,hd,hb⟩,yo c hc hR hs he _ (List.Perm.length_eq (nZ _)) ?_⟩;refine NB _ (fun x hx=>by have:=hb.short x hx;omega) ?_;have:=hd.wi.fails;have:=hd.wi.vals;omega
   ·exact .inl ⟨_,he,HC c hc hR hs he⟩
  ·exact .inl ⟨_,hs,HB c hc hR hs⟩
end Uw.Tryz.El
namespace Uw.Tryz
open Go Uw
end Uw.Tryz
namespace Uw.Tryz
open Go Uw
def endOf (r:List UInt8):Nat:=
 match r with
 | []=>0
 | c::t=>if cls c=5 then (if c.toNat=61/\eqq t=true then 2 else 1)
  else if cls c=1 then 1+(t.takeWhile nameB).length else 1+(t.takeWhile eV).length
theorem om (c:UInt8) (t:List UInt8) (h:cls c=5):endOf (c::t)=if c.toNat=61/\eqq t=true then 2 else 1:=by
 rw [endOf,if_pos h]
theorem yt {α:Type} (p:α->Bool) (l:List α) (k:Nat) (h:k<=l.length) (h1:∀(j:Nat) (hj:j<l.length),j<k->p l[j]=true) (h2:∀b,l[k]? = some b->p b=false):(l.takeWhile p).length=k:=by
 have e:l=l.take k++l.drop k:=by simp
 have h1' : ∀a∈l.take k,p a=true:=by
  intro a ha;rw [adw] at ha;obtain ⟨j,hj,rfl⟩:=ha;exact h1 j (by omega) (by omega)
 rw [e,List.takeWhile_append_of_pos h1'];have:(l.drop k).takeWhile p=[]:=by
  cases hd:l.drop k with
  | nil=>rfl
  | cons b r=>
   have hb:l[k]? = some b:=by
    have:=congrArg (fun l=>l[0]?) hd;simpa using this
   rw [abN,h2 b hb];rfl
 rw [this];simp;omega
end Uw.Tryz
namespace Uw.Tryz
open Go Uw
theorem vY {b:UInt8} (h:eV b=true):48<=b.toNat/\b.toNat<=57:=by
 simp only [eV,decide_eq_true_eq] at h;unfold cls at h
 repeat' split at h
 all_goals first|omega|cases h
def AY (w:List UInt8):Int:=if 10<w.length\/(w.head? = some 48/\1<w.length) then -1 else if 4294967296<=rP w then -1 else ((rP w:Nat):Int)
theorem NG (w:List UInt8) (h:0<w.length):(w.head? = some 48)<->w[0].toNat=48:=by
 cases w with
 | nil=>simp at h
 | cons b r=>
  simp only [List.head?_cons,abq,List.getElem_cons_zero];constructor
  ·intro e;rw [e];rfl
  ·intro e;exact adn.1 e
end Uw.Tryz
namespace Uw.Tryz
open Go Uw
theorem lx (c:UInt8) (t:List UInt8) (h:cls c=1):db (c::t)=if endOf (c::t)<=12 then some (1,endOf (c::t),0) else none:=by
 have e:endOf (c::t)=1+(t.takeWhile nameB).length:=by simp [endOf,h]
 rw [db,if_pos h,e]
theorem ly (c:UInt8) (t:List UInt8) (h:cls c=5):db (c::t)=some (3,endOf (c::t),0):=by
 rw [db,if_neg (by omega),if_neg (by omega),if_pos h,om c t h]
 split<;>rfl
theorem gG (c:UInt8) (t:List UInt8) (h:cls c≠1) (h2:cls c≠2) (h3:cls c≠5):db (c::t)=none:=by
 rw [db,if_neg h,if_neg h2,if_neg h3]
theorem zk (c:UInt8) (t:List UInt8) (h:cls c=2):endOf (c::t)=1+(t.takeWhile eV).length:=by simp [endOf,h]
theorem tQ {α:Type} (p:α->Bool):∀(l:List α),l.drop (l.takeWhile p).length=l.dropWhile p
 | []=>rfl
 | y::r=>by
  rw [abN,List.dropWhile_cons]
  split
  ·rw [abp,ac8,tQ p r]
  ·rfl
theorem take_takeWhile {α:Type} (p:α->Bool):∀(l:List α),l.take (l.takeWhile p).length=l.takeWhile p
 | []=>rfl
 | y::r=>by
  rw [abN]
  split
  ·rw [abp,acI,take_takeWhile p r]
  ·rfl
theorem yu (c:UInt8) (t:List UInt8) (h:cls c=2):(c::t).take (endOf (c::t))=c::t.takeWhile eV:=by
 rw [zk c t h,ade,acI,take_takeWhile]
theorem S4 (c:UInt8) (t:List UInt8) (h:cls c=2):(c::t).drop (endOf (c::t))=t.dropWhile eV:=by
 rw [zk c t h,ade,ac8,tQ]
theorem all_takeWhile {α:Type} (p:α->Bool) (l:List α):(l.takeWhile p).all p=true:=by
 induction l with
 | nil=>rfl
 | cons y r ih=>
  rw [abN]
  split
  ·rename_i h;simp [h]
  ·rfl
theorem NH (c:UInt8) (t:List UInt8) (h:cls c=2):((c::t).take (endOf (c::t))).all eV=true:=by
 rw [yu c t h,acQ,all_takeWhile];simp [eV,h]
theorem oq (c:UInt8) (t:List UInt8) (h:cls c=2):db (c::t)=if 0<=AY ((c::t).take (endOf (c::t)))/\II ((c::t).drop (endOf (c::t)))=false then some (2,endOf (c::t),AY ((c::t).take (endOf (c::t)))) else none:=by
 rw [db,if_neg (by omega),if_pos h,yu c t h,S4 c t h,zk c t h];have hc:(c.toNat=48)<->((c::t.takeWhile eV).head? = some 48):=by rw [NG _ (by simp)];rfl
 have n1:(10<(t.takeWhile eV).length+1\/c.toNat=48/\1<(t.takeWhile eV).length+1)->AY (c::t.takeWhile eV) = -1:=fun h=>by
  rw [AY,if_pos (by rw [<- hc];exact h)]
 have n2:¬(10<(t.takeWhile eV).length+1\/c.toNat=48/\1<(t.takeWhile eV).length+1)->AY (c::t.takeWhile eV)=if 4294967296<=rP (c::t.takeWhile eV) then -1 else ((rP (c::t.takeWhile eV):Nat):Int):=fun h=>by
  rw [AY,if_neg (by rw [<- hc];exact h)]
 generalize AY (c::t.takeWhile eV)=R at n1 n2;by_cases h1:1+(t.takeWhile eV).length<=10/\¬(1<1+(t.takeWhile eV).length/\c.toNat=48)
 ·have n2:=n2 (by omega)
  by_cases h2:rP (c::t.takeWhile eV)<4294967296
  ·rw [if_neg (by omega)] at n2
   by_cases h3:II (t.dropWhile eV)=false
   ·rw [if_pos ⟨h1.1,h1.2,h2,h3⟩,if_pos ⟨by omega,h3⟩,n2]
   ·rw [if_neg (fun h=>h3 h.2.2.2),if_neg (fun h=>h3 h.2)]
  ·rw [if_pos (by omega)] at n2
   rw [if_neg (fun h=>h2 h.2.2.1),if_neg (fun h=>by have:=h.1;omega)]
 ·have n1:=n1 (by omega)
  rw [if_neg (fun h=>h1 ⟨h.1,h.2.1⟩),if_neg (fun h=>by have:=h.1;omega)]
theorem J5 (c:UInt8) (t:List UInt8):1<=endOf (c::t)/\endOf (c::t)<=t.length+1:=by
 have h1:=mN nameB t;have h2:=mN eV t;rw [endOf]
 split
 ·split
  ·rename_i h
   cases t with
   | nil=>simp [eqq] at h
   | cons b r=>simp
  ·omega
 ·split<;>omega
def Read (s:List UInt8) (a:Nat) (out:List Tok):Prop:=pW s 0=(pW (s.drop a) (a:Int)).map (out++·)
theorem Read.init (s:List UInt8):Read s 0 []:=by
 rw [Read,abk];simp
theorem Read.blank {s:List UInt8} {a:Nat} {out:List Tok} (h:Read s a out) (ha:a<s.length) (hb:cls s[a]=4):Read s (a+1) out:=by
 rw [Read,abV ha,KT _ _ _ hb] at h;rw [Read,h];rfl
theorem Read.none {s:List UInt8} {a:Nat} {out:List Tok} (h:Read s a out) (ha:a<s.length) (hb:cls s[a]≠4) (ht:db (s.drop a)=none):pW s 0=none:=by
 rw [Read] at h;rw [h];rw [abV ha] at ht ⊢;rw [OO _ _ _ hb ht];rfl
theorem Read.tok {s:List UInt8} {a:Nat} {out:List Tok} (h:Read s a out) (ha:a<s.length) (hb:cls s[a]≠4) {k:Int} {n:Nat} {v:Int} (ht:db (s.drop a)=some (k,n,v)) :
  Read s (a+n) (out++[⟨k,(s.drop a).take n,v,a⟩]):=by
 rw [Read,h];rw [abV ha] at ht ⊢;rw [Ro _ _ _ hb ht,<- abV ha,acM];rw [show ((a:Int)+(n:Int))=((a+n:Nat):Int) by omega]
 cases pW (s.drop (a+n)) ((a+n:Nat):Int) with
 | none=>rfl
 | some l=>simp
theorem Read.end {s:List UInt8} {a:Nat} {out:List Tok} (h:Read s a out) (ha:s.length<=a):pW s 0=some out:=by
 rw [Read] at h;rw [h,adF ha,Rn];simp
def EA (s:List UInt8):Dat:=if 4000<s.length then .tuple [.nil,I 2] else match pW s 0 with|none=>.tuple [.nil,I 3]|some l=>.tuple [Rm l,I 0]
theorem VM (s:List UInt8):DLe (EA s) (KU (sE s)):=by
 rw [EA,sE];by_cases h:4000<s.length
 ·rw [if_pos h,if_pos h];exact .tuple (.cons (.nil 4) (.refl _))
 ·rw [if_neg h,if_neg h]
  cases pW s 0 with
  | none=>exact .tuple (.cons (.nil 4) (.refl _))
  | some l=>exact .refl _
theorem VN {s:List UInt8} {a n:Nat} (h:a+n<=s.length):((s.drop a).take n).length=n:=by simp;omega
end Uw.Tryz
namespace Uw.Tryz
open Go Uw
def uH (r:Int):Bool:=decide ((97<=r/\r<=122)\/(65<=r/\r<=90))
def zl (r:Int):Bool:=decide (48<=r/\r<=57)
def DX (r:Int):Bool:=decide (r=9\/r=10\/r=32)
theorem ry (r:Int):Ret P0 jD [.int .i32 r] (.bool (uH r)):=by
 refine ao px rfl ?_
 repeat' first|refine aw ?_|refine bw (fun _=>?_) fun _=>?_
 all_goals
  refine ai (P:=P0) rfl rfl rfl rfl ?_;exact congrArg Dat.bool (abM.2 (by simp only [decide_eq_true_eq,abB,uH,zl,DX,eq_self,true_iff,abm,false_iff];omega))
theorem zT (r:Int):Ret P0 kU [.int .i32 r] (.bool (zl r)):=by
 refine ao qZ rfl ?_
 repeat' first|refine aw ?_|refine bw (fun _=>?_) fun _=>?_
 all_goals
  refine ai (P:=P0) rfl rfl rfl rfl ?_;exact congrArg Dat.bool (abM.2 (by simp only [decide_eq_true_eq,abB,uH,zl,DX,eq_self,true_iff,abm,false_iff];omega))
theorem J6 (r:Int):Ret P0 sR [.int .i32 r] (.bool (DX r)):=by
 refine ao xI rfl ?_
 repeat' first|refine aw ?_|refine bw (fun _=>?_) fun _=>?_
 all_goals
  refine ai (P:=P0) rfl rfl rfl rfl ?_;exact congrArg Dat.bool (abM.2 (by simp only [decide_eq_true_eq,abB,uH,zl,DX,eq_self,true_iff,abm,false_iff];omega))
theorem HI (r:Int):Ret P0 jE [.int .i32 r] (.bool (uH r||zl r||decide (r=95))):=by
 have h1:=ry r;have h2:=zT r;refine ao pz rfl ?_
 repeat' first|refine aw ?_|refine bw (fun _=>?_) fun _=>?_
 all_goals
  refine ai (P:=P0) rfl rfl rfl rfl ?_;exact congrArg Dat.bool (abM.2 (by simp only [decide_eq_true_eq,abB,uH,zl,DX,eq_self,true_iff,abm,false_iff];omega))
theorem DY (r:Int):Ret P0 gg [.int .i32 r] (.bool (uH r||decide (r=95))):=by
 have h1:=ry r;refine ao lF rfl ?_
 repeat' first|refine aw ?_|refine bw (fun _=>?_) fun _=>?_
 all_goals
  refine ai (P:=P0) rfl rfl rfl rfl ?_;exact congrArg Dat.bool (abM.2 (by simp only [decide_eq_true_eq,abB,uH,zl,DX,eq_self,true_iff,abm,false_iff];omega))
theorem rz (f:FuncId) (p:Int->Bool) (hb:mJ P0 f) (hf:∀r,Ret P0 f [.int .i32 r] (.bool (p r))) (hp:∀r,128<=r->p r=false) (s:List UInt8) (hs:s.length<1000000):Ret P0 iK [.str s,.func f] (I ((s.takeWhile (fun b=>p (b.toNat:Int))).length:Nat)):=by
 refine ao zL rfl ?_
 repeat' first|refine aw ?_|refine bw (fun _=>?_) fun _=>?_
 refine dM (fun k:Nat=>⟨[(8,.hnd 0),(0,.d (.str s)),(1,.d (.func f))],[(0,.iter s k)],1,[],0⟩)
  (fun k=>k<=s.length/\∀(i:Nat) (hi:i<s.length),i<k->p (s[i].toNat:Int)=true) (fun k=>s.length - k) 0 (by exact Uw.wW) ⟨by omega,by intros;omega⟩ ?_
 rintro k ⟨h1,h2⟩;by_cases hk:k<s.length
 ·have hk' : s[k]? = some s[k]:=by simp [hk]
  have stop:p (s[k].toNat:Int)=false->(s.takeWhile (fun b=>p (b.toNat:Int))).length=k:=fun h=>yt _ s k h1 h2 (fun b hb=>by rw [hk'] at hb;injection hb with hb;rw [<- hb];exact h);by_cases hlow:s[k].toNat<128
  ·have hr:=vx s k s[k] hk' hlow
   have hr1:((bJ s k).1:Int)=s[k].toNat:=by rw [hr]
   have hr2:(bJ s k).2=1:=by rw [hr]
   have hfr:=hf ((bJ s k).1:Int);rw [show p ((bJ s k).1:Int)=p (s[k].toNat:Int) by rw [hr1]] at hfr;have hk1:k+(bJ s k).2=k+1:=by rw [hr2]
   clear hr hr1
   cases hpk:p (s[k].toNat:Int) with
   | false=>
    rw [hpk] at hfr;have hst:=stop hpk;clear stop h2
    repeat' first|refine aw ?_|refine bw (fun _=>?_) fun _=>?_
    refine bI _ hb rfl hfr ?_
    repeat' first|refine aw ?_|refine bw (fun _=>?_) fun _=>?_
    exact ai (P:=P0) rfl rfl rfl rfl (by rw [hst];rfl)
   | true=>
    rw [hpk] at hfr;have h3:∀(i:Nat) (hi:i<s.length),i<k+(bJ s k).2->p (s[i].toNat:Int)=true:=by
     intro i hi hik;by_cases e:i=k
     ·subst e;exact hpk
     ·exact h2 i hi (by omega)
    clear stop h2
    repeat' first|refine aw ?_|refine bw (fun _=>?_) fun _=>?_
    refine bI _ hb rfl hfr ?_
    repeat' first|refine aw ?_|refine bw (fun _=>?_) fun _=>?_
    exact aW (k+(bJ s k).2) ⟨by omega,h3⟩ (by omega) (by exact Uw.wW)
  ·obtain ⟨a1,a2,a3,a4,a5⟩:=zy s k s[k] hk' (by omega)
   have hfr:=hf ((bJ s k).1:Int);rw [hp _ (by omega)] at hfr;have hst:=stop (hp _ (by omega));clear stop h2 a5
   repeat' first|refine aw ?_|refine bw (fun _=>?_) fun _=>?_
   refine bI _ hb rfl hfr ?_
   repeat' first|refine aw ?_|refine bw (fun _=>?_) fun _=>?_
   exact ai (P:=P0) rfl rfl rfl rfl (by rw [hst];rfl)
 ·have hst:(s.takeWhile (fun b=>p (b.toNat:Int))).length=s.length:=by
   have e:k=s.length:=by omega
   exact yt _ s s.length (aa8 _) (fun j hj _=>h2 j hj (by omega)) (fun b hb=>by rw [abl (aa8 _)] at hb;cases hb)
  clear h2
  repeat' first|refine aw ?_|refine bw (fun _=>?_) fun _=>?_
  exact ai (P:=P0) rfl rfl rfl rfl (by rw [hst];rfl)
end Uw.Tryz
namespace Uw.Tryz
open Go Uw Go.Proofs Go.RowKit
theorem zU:∀(l:List UInt8) (n:Nat),l.all eV=true->Lib.decFrom n l=some (l.foldl (fun n b=>10 * n+(b.toNat - 48)) n)
 | [],n,_=>rfl
 | b::r,n,h=>by
  rw [acQ,aa5] at h;have hb:=vY h.1;rw [Lib.decFrom,Lib.digitVal,if_pos hb];simp only;rw [zU r _ h.2,acG,Nat.mul_comm]
theorem S5 (l:List UInt8) (h0:l≠[]) (h:l.all eV=true):Lib.atoi l=some (rP l:Nat):=by
 cases l with
 | nil=>exact absurd rfl h0
 | cons b r=>
  have hb:=vY (by rw [acQ,aa5] at h;exact h.1);have h1:(b == 45)=false:=by
   rw [beq_eq_false_iff_ne];intro e;subst e;simp at hb
  have h2:(b == 43)=false:=by
   rw [beq_eq_false_iff_ne];intro e;subst e;simp at hb
  rw [Lib.atoi,h1,h2];simp only [abm,if_false];rw [Lib.decNat,zU _ _ h];rfl
theorem DZ (l:List UInt8) (h0:l≠[]) (h:l.all eV=true) (hl:l.length<=18):Ret P0 CP [.str l] (.tuple [I (rP l:Nat),.nilIface]):=by
 intro w J vs hG hr;obtain ⟨v,vs',rfl,hv,hr⟩:=hr;simp only [aT] at hr;subst hr;simp only [aH] at hv;subst hv;refine (Tryz.strconv_Atoi ⟨l.toArray⟩ (rP l:Nat) (by simpa [ByteArray.size] using hl) (by simpa using S5 l h0 h) w).mono ?_;rintro e w' ⟨rfl,t,rfl⟩;exact ⟨_,rfl,⟨[_,_],rfl,⟨_,_,rfl,rfl,⟨_,_,rfl,rfl,rfl⟩⟩⟩,Lib.bytesWorld_below _ _ _⟩
theorem uI (s p:List UInt8):Ret P0 uk [.str s,.str p] (.bool (Lib.hasPrefix s p)):=by
 intro w J vs hG hr;obtain ⟨v,vs',rfl,hv,u,vs'',rfl,hu,hr⟩:=hr;simp only [aT] at hr;subst hr;simp only [aH] at hv hu;subst hv hu;refine (Tryz.strings_HasPrefix ⟨s.toArray⟩ ⟨p.toArray⟩ w).mono ?_;rintro e w' ⟨rfl,rfl⟩;exact ⟨_,rfl,rfl,Below.refl _ _⟩
theorem uJ (s:List UInt8) (c:UInt8):Ret P0 um [.str s,.int .u8 (c.toNat:Int)] (I (Lib.indexByte s c)):=by
 intro w J vs hG hr;obtain ⟨v,vs',rfl,hv,u,vs'',rfl,hu,hr⟩:=hr;simp only [aT] at hr;subst hr;simp only [aH] at hv hu;subst hv hu;refine (Tryz.strings_IndexByte ⟨s.toArray⟩ (c.toNat:Int) w).mono ?_;rintro e w' ⟨rfl,rfl⟩;refine ⟨_,rfl,?_,Below.refl _ _⟩;simp [aH]
theorem zV (l:List UInt8) (h0:l≠[]) (h:l.all eV=true) (hl:l.length<=18):Ret P0 tj [.str l] (I (rP l:Nat)):=by
 have ha:=DZ l h0 h hl;clear h h0;refine ao x8 rfl ?_
 repeat' first|refine aw ?_|refine bw (fun _=>?_) fun _=>?_
 exact ai (P:=P0) rfl rfl rfl rfl rfl
end Uw.Tryz
namespace Uw.Tryz
open Go Uw Go.Proofs Go.RowKit
theorem D6 (b:UInt8):uH (b.toNat:Int)=decide (cls b=1):=by
 refine abM.2 ?_;simp only [uH,decide_eq_true_eq];unfold cls;constructor
 ·intro h;rw [if_pos (by omega)]
 ·intro h
  split at h
  ·omega
  ·repeat' split at h
   all_goals omega
theorem J7 (b:UInt8):zl (b.toNat:Int)=decide (cls b=2):=by
 refine abM.2 ?_;simp only [zl,decide_eq_true_eq];unfold cls;constructor
 ·intro h;rw [if_neg (by omega),if_pos (by omega)]
 ·intro h
  repeat' split at h
  all_goals omega
theorem NI (b:UInt8):decide ((b.toNat:Int)=95)=decide (cls b=3):=by
 refine abM.2 ?_;simp only [decide_eq_true_eq];unfold cls;constructor
 ·intro h;rw [if_neg (by omega),if_neg (by omega),if_pos (by omega)]
 ·intro h
  repeat' split at h
  all_goals omega
theorem S7 (b:UInt8):DX (b.toNat:Int)=decide (cls b=4):=by
 refine abM.2 ?_;simp only [DX,decide_eq_true_eq];unfold cls;constructor
 ·intro h;rw [if_neg (by omega),if_neg (by omega),if_neg (by omega),if_pos (by omega)]
 ·intro h
  repeat' split at h
  all_goals omega
theorem PW (s:List UInt8) (hs:s.length<1000000):Ret P0 iK [.str s,.func jD] (I ((s.takeWhile (fun b=>decide (cls b=1))).length:Nat)):=by
 have:=rz jD uH px.body ry (fun r hr=>by simp [uH];omega) s hs;simpa only [D6] using this
theorem S8 (s:List UInt8) (hs:s.length<1000000):Ret P0 iK [.str s,.func kU] (I ((s.takeWhile eV).length:Nat)):=by
 have:=rz kU zl qZ.body zT (fun r hr=>by simp [zl];omega) s hs;simp only [J7] at this;exact this
theorem VO (s:List UInt8) (hs:s.length<1000000):Ret P0 iK [.str s,.func jE] (I ((s.takeWhile nameB).length:Nat)):=by
 have:=rz jE (fun r=>uH r||zl r||decide (r=95)) pz.body HI (fun r hr=>by simp [uH,zl];omega) s hs;simp only [D6,J7,NI] at this;exact this
theorem PX (s:List UInt8) (hs:s.length<1000000):Ret P0 iK [.str s,.func gg] (I ((s.takeWhile (fun b=>decide (cls b=1)||decide (cls b=3))).length:Nat)):=by
 have:=rz gg (fun r=>uH r||decide (r=95)) lF.body DY (fun r hr=>by simp [uH];omega) s hs;simp only [D6,NI] at this;exact this
def iO (r:List UInt8):Nat:=match db r with|some (k,n,_)=>if k=1 then n else 0|none=>0
def ke (r:List UInt8):Nat:=match db r with|some (k,n,_)=>if k=2 then n else 0|none=>0
def ot (r:List UInt8):Nat:=match db r with|some (k,n,_)=>if k=3 then n else 0|none=>0
theorem PY (c:UInt8) (t:List UInt8) (h:cls c≠1):iO (c::t)=0:=by
 rw [iO];by_cases h2:cls c=2
 ·rw [oq c t h2];split
  ·rename_i h3;split at h3
   ·simp at h3;simp [<- h3.1]
   ·cases h3
  ·rfl
 ·by_cases h5:cls c=5
  ·rw [ly c t h5];rfl
  ·rw [gG c t h h2 h5]
theorem L6 (c:UInt8) (t:List UInt8) (h:cls c=1):iO (c::t)=if endOf (c::t)<=12 then endOf (c::t) else 0:=by
 rw [iO,lx c t h];by_cases h2:endOf (c::t)<=12
 ·rw [if_pos h2,if_pos h2];rfl
 ·rw [if_neg h2,if_neg h2]
theorem L8 (c:UInt8) (t:List UInt8) (hs:(c::t).length<1000000):Ret P0 fy [.str (c::t)] (I (iO (c::t))):=by
 have h1:=PW (c::t) hs;have h2:=VO (c::t) hs;by_cases h:cls c=1
 ·have e1:0<((c::t).takeWhile (fun b=>decide (cls b=1))).length:=by rw [abN,if_pos (by simp [h])];simp
  have e2:((c::t).takeWhile nameB).length=endOf (c::t):=by rw [abN,if_pos (by simp [nameB,h])];simp [endOf,h];omega
  have e3:=L6 c t h;rw [e2] at h2;generalize endOf (c::t)=E at *;generalize ((c::t).takeWhile (fun b=>decide (cls b=1))).length=A at *;generalize iO (c::t)=R at *;clear e2;generalize c::t=s at *;by_cases hE:E<=12
  ·rw [if_pos hE] at e3
   subst e3;refine ao iY rfl ?_
   repeat' first|refine aw ?_|refine bw (fun _=>?_) fun _=>?_
   exact ai (P:=P0) rfl rfl rfl rfl rfl
  ·rw [if_neg hE] at e3
   subst e3;refine ao iY rfl ?_
   repeat' first|refine aw ?_|refine bw (fun _=>?_) fun _=>?_
   exact ai (P:=P0) rfl rfl rfl rfl rfl
 ·have e1:((c::t).takeWhile (fun b=>decide (cls b=1))).length=0:=by rw [abN,if_neg (by simp [h])];rfl
  rw [e1] at h1;have e3:=PY c t h;rw [e3];clear h2 e1 e3 h;generalize c::t=s at *;refine ao iY rfl ?_
  repeat' first|refine aw ?_|refine bw (fun _=>?_) fun _=>?_
  exact ai (P:=P0) rfl rfl rfl rfl rfl
theorem S9 (c:UInt8) (t:List UInt8) (h:cls c≠2):ke (c::t)=0:=by
 rw [ke];by_cases h2:cls c=1
 ·rw [lx c t h2];split
  ·rename_i h3;split at h3
   ·simp at h3;simp [<- h3.1]
   ·cases h3
  ·rfl
 ·by_cases h5:cls c=5
  ·rw [ly c t h5];rfl
  ·rw [gG c t h2 h h5]
theorem PZ (c:UInt8) (t:List UInt8) (h:cls c=2):ke (c::t)=if 0<=AY ((c::t).take (endOf (c::t)))/\II ((c::t).drop (endOf (c::t)))=false then endOf (c::t) else 0:=by
 rw [ke,oq c t h];by_cases h2:0<=AY ((c::t).take (endOf (c::t)))/\II ((c::t).drop (endOf (c::t)))=false
 ·rw [if_pos h2,if_pos h2];rfl
 ·rw [if_neg h2,if_neg h2]
theorem VP (r:List UInt8):II r=decide (0<(r.takeWhile (fun b=>decide (cls b=1)||decide (cls b=3))).length):=by
 cases r with
 | nil=>rfl
 | cons b t=>
  rw [II,abN]
  cases decide (cls b=1)||decide (cls b=3)<;>simp
theorem HJ (c:UInt8) (t:List UInt8) (hs:(c::t).length<1000000):Ret P0 eb [.str (c::t)] (I (ke (c::t))):=by
 have h1:=S8 (c::t) hs;by_cases h:cls c=2
 ·have e1:((c::t).takeWhile eV).length=endOf (c::t):=by rw [abN,if_pos (by simp [eV,h])];simp [endOf,h];omega
  have hall:=NH c t h;have hle:=J5 c t;have e3:=PZ c t h;rw [e1] at h1;have hl0:(c::t).length=t.length+1:=rfl;have hc0:∀hp:0<(c::t).length,(c::t)[0]'hp=c:=fun _=>rfl;have hhd:((c::t).take (endOf (c::t))).head? = some 48<->c.toNat=48:=by
   rw [yu c t h,NG _ (by simp)];rfl
  have h0:0<(c::t).length:=by simp
  generalize endOf (c::t)=E at *;clear e1;generalize ke (c::t)=R at *;generalize c::t=s at *;have hc0:=congrArg UInt8.toNat (hc0 h0);have hwl:(s.take E).length=E:=by simp;omega
  have hsp:=PX ((s.take s.length).drop E) (by simp;omega);have hlt:=VP (s.drop E);have e5:(s.take s.length).drop E=s.drop E:=by rw [abZ]
  rw [<- e5] at e3 hlt;generalize II ((s.take s.length).drop E)=L at *;generalize (((s.take s.length).drop E).takeWhile (fun b=>decide (cls b=1)||decide (cls b=3))).length=A at *;have hnr:AY (s.take E)=if 10<E\/(c.toNat=48/\1<E) then -1 else if 4294967296<=rP (s.take E) then -1 else ((rP (s.take E):Nat):Int):=by
   rw [AY,hwl];simp only [hhd]
  by_cases hb:10<E\/(c.toNat=48/\1<E)
  ·rw [if_pos hb] at hnr
   rw [if_neg (by rintro ⟨q,_⟩;omega)] at e3;subst e3;clear hsp hlt hall hhd e5 hnr;refine ao ef rfl ?_
   repeat' first|refine aw ?_|refine bw (fun _=>?_) fun _=>?_
   all_goals exact ai (P:=P0) rfl rfl rfl rfl rfl
  ·rw [if_neg hb] at hnr
   have hv:=zV ((s.take E).drop 0) (by rw [abk];intro e;rw [e] at hwl;simp at hwl;omega) (by rw [abk];exact hall) (by rw [abk,hwl];omega);rw [show rP ((s.take E).drop 0)=rP (s.take E) by rw [abk]] at hv;generalize rP (s.take E)=V at *;by_cases hA:0<A
   ·rw [decide_eq_true hA] at hlt
    rw [if_neg (by rintro ⟨_,q⟩;rw [hlt] at q;cases q)] at e3;subst e3;clear hall hhd e5 hnr;refine ao ef rfl ?_
    repeat' first|refine aw ?_|refine bw (fun _=>?_) fun _=>?_
    all_goals exact ai (P:=P0) rfl rfl rfl rfl rfl
   ·rw [decide_eq_false hA] at hlt
    by_cases hV:4294967296<=V
    ·rw [if_pos hV] at hnr
     rw [if_neg (by rintro ⟨q,_⟩;omega)] at e3;subst e3;clear hall hhd e5 hnr hlt;refine ao ef rfl ?_
     repeat' first|refine aw ?_|refine bw (fun _=>?_) fun _=>?_
     all_goals exact ai (P:=P0) rfl rfl rfl rfl rfl
    ·rw [if_neg hV] at hnr
     rw [if_pos ⟨by omega,hlt⟩] at e3;subst e3;clear hall hhd e5 hnr hlt;refine ao ef rfl ?_
     repeat' first|refine aw ?_|refine bw (fun _=>?_) fun _=>?_
     all_goals exact ai (P:=P0) rfl rfl rfl rfl rfl
 ·have e1:((c::t).takeWhile eV).length=0:=by rw [abN,if_neg (by simp [eV,h])];rfl
  rw [e1] at h1;rw [S9 c t h];clear e1 h;generalize c::t=s at *;refine ao ef rfl ?_
  repeat' first|refine aw ?_|refine bw (fun _=>?_) fun _=>?_
  exact ai (P:=P0) rfl rfl rfl rfl rfl
end Uw.Tryz
namespace Uw.Tryz
open Go Uw Go.Proofs Go.RowKit
def HK:List UInt8:=[40,41,123,125,44,59,46,61,43,45,42,60]
theorem P1:∀n:Fin 256,decide (0<=Lib.indexByte HK (UInt8.ofNat n.val))=decide (cls (UInt8.ofNat n.val)=5):=by decide +kernel
theorem P2 (c:UInt8):0<=Lib.indexByte HK c<->cls c=5:=by
 have h:=P1 ⟨c.toNat,c.toNat_lt⟩;simp only [UInt8.ofNat_toNat] at h;exact decide_eq_decide.1 h
theorem L9 (c:UInt8) (t:List UInt8):Lib.hasPrefix (c::t) [61,61]=(decide (c.toNat=61)&&eqq t):=by
 have key:∀b:UInt8,(61 == b)=decide (b.toNat=61):=by
  intro b;rw [abM,beq_iff_eq,decide_eq_true_eq];exact ⟨fun h=>by rw [<- h];rfl,fun h=>(adn.1 (by rw [h];rfl)).symm⟩
 rw [Lib.hasPrefix]
 cases t with
 | nil=>simp [List.isPrefixOf,eqq]
 | cons b r=>simp only [List.isPrefixOf,eqq,key,Bool.and_true]
theorem F4 (c:UInt8) (t:List UInt8) (h:cls c=5):ot (c::t)=endOf (c::t):=by rw [ot,ly c t h];rfl
theorem Ta (c:UInt8) (t:List UInt8) (h:cls c≠5):ot (c::t)=0:=by
 rw [ot];by_cases h1:cls c=1
 ·rw [lx c t h1];split
  ·rename_i h3;split at h3
   ·simp at h3;simp [<- h3.1]
   ·cases h3
  ·rfl
 ·by_cases h2:cls c=2
  ·rw [oq c t h2];split
   ·rename_i h3;split at h3
    ·simp at h3;simp [<- h3.1]
    ·cases h3
   ·rfl
  ·rw [gG c t h1 h2 h]
theorem Mc (c:UInt8) (t:List UInt8) (hs:(c::t).length<1000000):Ret P0 fB [.str (c::t)] (I (ot (c::t))):=by
 have h1:=uI (c::t) [61,61];have h2:=uJ HK c;rw [L9] at h1;have h3:=P2 c;have h0:0<(c::t).length:=by simp
 have hc0:∀hp:0<(c::t).length,(c::t)[0]'hp=c:=fun _=>rfl;have hc0:=hc0 h0;have he:cls c=5->(decide (c.toNat=61)&&eqq t)=true->ot (c::t)=2:=fun h h'=>by
  simp at h';rw [F4 c t h,om c t h,if_pos h']
 have he2:cls c=5->(decide (c.toNat=61)&&eqq t)=false->ot (c::t)=1:=fun h h'=>by
  rw [F4 c t h,om c t h,if_neg (by rintro ⟨q1,q2⟩;rw [decide_eq_true q1,q2] at h';cases h')]
 have he3:cls c≠5->ot (c::t)=0:=Ta c t;have h61:(decide (c.toNat=61)&&eqq t)=true->cls c=5:=fun h=>by
  simp at h;have:c=61:=adn.1 h.1;subst this;rfl
 generalize (decide (c.toNat=61)&&eqq t)=q at *;generalize ot (c::t)=R at *;generalize Lib.indexByte HK c=X at *;by_cases h5:cls c=5
 ·have hX:0<=X:=h3.2 h5
  cases q with
  | true=>
   have he:=he h5 rfl;subst he;clear h2 h3 hX he2 he3 h61 hc0;generalize c::t=s at *;refine ao iZ rfl ?_
   repeat' first|refine aw ?_|refine bw (fun _=>?_) fun _=>?_
   exact ai (P:=P0) rfl rfl rfl rfl rfl
  | false=>
   have he:=he2 h5 rfl;subst he;clear he2 he3 h61;rw [<- hc0] at h2;clear hc0 h3;generalize c::t=s at *;refine ao iZ rfl ?_
   repeat' first|refine aw ?_|refine bw (fun _=>?_) fun _=>?_
   exact ai (P:=P0) rfl rfl rfl rfl rfl
 ·have hX:¬0<=X:=fun h=>h5 (h3.1 h)
  have he:=he3 h5;subst he
  cases q with
  | true=>exact absurd (h61 rfl) h5
  | false=>
   clear he2 he3 h61;rw [<- hc0] at h2;clear hc0 h3;generalize c::t=s at *;refine ao iZ rfl ?_
   repeat' first|refine aw ?_|refine bw (fun _=>?_) fun _=>?_
   exact ai (P:=P0) rfl rfl rfl rfl rfl
def lI (r:List UInt8):Tok×Bool:=match db r with|none=>(⟨0,[],0,0⟩,false)|some (k,n,v)=>(⟨k,r.take n,v,0⟩,true)
def Tc (x:Tok×Bool):Dat:=.tuple [.agg (UT x.1),.bool x.2]
def Td:Dat:=.slice 2 [[I 1,.func fy],[I 2,.func eb],[I 3,.func fB]] false
theorem J8 {r:List UInt8} {k:Int} {n:Nat} {v:Int} (h:db r=some (k,n,v)) :
  (k=1/\v=0/\n<=12)\/(k=2/\v=(rP (r.take n):Nat)/\(r.take n).all eV=true/\n<=10/\v<4294967296)\/(k=3/\v=0/\n<=2):=by
 cases r with
 | nil=>simp [db] at h
 | cons c t=>
  by_cases h1:cls c=1
  ·rw [lx c t h1] at h
   split at h
   ·simp only [abq,ab6] at h;omega
   ·cases h
  ·by_cases h2:cls c=2
   ·have ha:=NH c t h2
    rw [oq c t h2] at h
    split at h
    ·rename_i hc
     simp only [abq,ab6] at h;obtain ⟨q1,q2,q3⟩:=h;have hc:=hc.1;have hel:=J5 c t;rw [q2] at ha hc q3 hel;have hl:((c::t).take n).length=n:=by simp;omega
     rw [AY] at q3 hc
     split at hc
     ·omega
     ·rename_i q4
      rw [if_neg q4] at q3
      split at hc
      ·omega
      ·rename_i q5
       rw [if_neg q5] at q3;right;left;exact ⟨q1.symm,q3.symm,ha,by omega,by omega⟩
    ·cases h
   ·by_cases h5:cls c=5
    ·rw [ly c t h5] at h
     simp only [abq,ab6] at h;have:=om c t h5
     split at this<;>omega
    ·rw [gG c t h1 h2 h5] at h;cases h
theorem J9 (r:List UInt8):(iO r≠0->lI r=(⟨1,r.take (iO r),0,0⟩,true)/\iO r<=r.length)/\
  (iO r=0->ke r≠0->lI r=(⟨2,r.take (ke r),(rP (r.take (ke r)):Nat),0⟩,true)/\(r.take (ke r)).all eV=true/\ke r<=10/\ke r<=r.length)/\
  (iO r=0->ke r=0->ot r≠0->lI r=(⟨3,r.take (ot r),0,0⟩,true)/\ot r<=r.length)/\(iO r=0->ke r=0->ot r=0->lI r=(⟨0,[],0,0⟩,false)):=by
 rw [iO,ke,ot,lI]
 cases h:db r with
 | none=>simp
 | some x=>
  obtain ⟨k,n,v⟩:=x;have hn:=tY h
  rcases J8 h with ⟨rfl,rfl,_⟩|⟨rfl,rfl,h2,h3,_⟩|⟨rfl,rfl,_⟩
  ·simp only [if_true]
   exact ⟨fun _=>⟨trivial,hn.2⟩,fun h=>by omega,fun h=>by omega,fun h=>by omega⟩
  ·simp only [show ¬(2:Int)=1 by omega,if_false,if_true]
   exact ⟨fun h=>by omega,fun _ _=>⟨trivial,h2,h3,hn.2⟩,fun _ h=>by omega,fun _ h=>by omega⟩
  ·simp only [show ¬(3:Int)=1 by omega,show ¬(3:Int)=2 by omega,if_false,if_true]
   exact ⟨fun h=>by omega,fun _ h=>by omega,fun _ _ _=>⟨trivial,hn.2⟩,fun _ _ h=>by omega⟩
theorem Ko (c:UInt8) (t:List UInt8) (hs:(c::t).length<1000000):Ret P0 oM [Td,.str (c::t)] (Tc (lI (c::t))):=by
 have h1:=L8 c t hs;have h2:=HJ c t hs;have h3:=Mc c t hs;obtain ⟨f1,f2,f3,f4⟩:=J9 (c::t);have hv:=fun (q:(iO (c::t)=0/\ke (c::t)≠0))=>zV (((c::t).take (ke (c::t))).drop 0) (by rw [abk];intro e;have:=congrArg List.length e;rw [acR] at this;have:=(f2 q.1 q.2).2.2.2;simp at *;omega) (by rw [abk];exact (f2 q.1 q.2).2.1) (by rw [abk,acR];have:=(f2 q.1 q.2).2.2.1;omega);simp only [abk] at hv;generalize iO (c::t)=A at *;generalize ke (c::t)=B at *;generalize ot (c::t)=C at *;generalize lI (c::t)=R at *;generalize c::t=s at *;refine ao xJ rfl ?_
 repeat' first|refine aw ?_|refine bw (fun _=>?_) fun _=>?_
 refine dM (fun k:Nat=>⟨[(12,.d (I k)),(11,.d (I (↑[[I 1,Dat.func fy],[I 2,Dat.func eb],[I 3,Dat.func fB]].length))),(10,.d Td),(4,.ptr 0 0),(1,.d (.str s))],[(0,.var [.d (I 0),.d (.str []),.d (I 0),.d (I 0)])],1,[],0⟩)
  (fun k=>k<=3/\(1<=k->A=0)/\(2<=k->B=0)/\(3<=k->C=0)) (fun k=>3 - k) 0 (by exact Uw.wW) (by omega) ?_
 rintro k ⟨k1,k2,k3,k4⟩;have hk:k=0\/k=1\/k=2\/k=3:=by omega
 rcases hk with rfl|rfl|rfl|rfl
 ·by_cases hA:A=0
  ·clear f1 f2 f3 f4 hv
   subst hA
   repeat' first|refine aw ?_|refine bw (fun _=>?_) fun _=>?_
   refine aF _ rfl ?_
   repeat' first|refine aw ?_|refine bw (fun _=>?_) fun _=>?_
   refine bI _ iY.body rfl h1 ?_
   repeat' first|refine aw ?_|refine bw (fun _=>?_) fun _=>?_
   exact aW 1 (by omega) (by omega) (by exact Uw.wW)
  ·obtain ⟨e,hle⟩:=f1 hA
   subst e;clear f1 f2 f3 f4 hv
   repeat' first|refine aw ?_|refine bw (fun _=>?_) fun _=>?_
   refine aF _ rfl ?_
   repeat' first|refine aw ?_|refine bw (fun _=>?_) fun _=>?_
   refine bI _ iY.body rfl h1 ?_
   repeat' first|refine aw ?_|refine bw (fun _=>?_) fun _=>?_
   refine bq ⟨[(7,.ptr 1 0),(9,.ptr 2 0),(4,.ptr 0 0)],[(2,.var [.d (I 1),.d (.str ((s.take A).drop 0)),.d (I 0),.d (I 0)]),(1,.var [.d (I 1),.d (.func fy)]),(0,.var [.d (I 0),.d (.str []),.d (I 0),.d (I 0)])],3,[],0⟩ ?_ ?_
   ·repeat' first|refine aw ?_|refine bw (fun _=>?_) fun _=>?_
    exact aj (.inl ⟨rfl,by exact Uw.wW⟩)
   ·repeat' first|refine aw ?_|refine bw (fun _=>?_) fun _=>?_
    exact ce (ai (P:=P0) rfl rfl rfl rfl rfl)
 ·have hA:=k2 (by omega)
  by_cases hB:B=0
  ·clear f1 f2 f3 f4 hv
   subst hB
   repeat' first|refine aw ?_|refine bw (fun _=>?_) fun _=>?_
   refine aF _ rfl ?_
   repeat' first|refine aw ?_|refine bw (fun _=>?_) fun _=>?_
   refine bI _ ef.body rfl h2 ?_
   repeat' first|refine aw ?_|refine bw (fun _=>?_) fun _=>?_
   exact aW 2 (by omega) (by omega) (by exact Uw.wW)
  ·obtain ⟨e,q1,q2,hle⟩:=f2 hA hB
   have hv:=hv ⟨hA,hB⟩;subst e;clear f1 f2 f3 f4
   repeat' first|refine aw ?_|refine bw (fun _=>?_) fun _=>?_
   refine aF _ rfl ?_
   repeat' first|refine aw ?_|refine bw (fun _=>?_) fun _=>?_
   refine bI _ ef.body rfl h2 ?_
   repeat' first|refine aw ?_|refine bw (fun _=>?_) fun _=>?_
   refine bq ⟨[(7,.ptr 1 0),(9,.ptr 2 0),(4,.ptr 0 0)],[(2,.var [.d (I 2),.d (.str ((s.take B).drop 0)),.d (I 0),.d (I 0)]),(1,.var [.d (I 2),.d (.func eb)]),(0,.var [.d (I 0),.d (.str []),.d (I 0),.d (I 0)])],3,[],0⟩ ?_ ?_
   ·repeat' first|refine aw ?_|refine bw (fun _=>?_) fun _=>?_
    exact aj (.inl ⟨rfl,by exact Uw.wW⟩)
   ·repeat' first|refine aw ?_|refine bw (fun _=>?_) fun _=>?_
    exact ce (ai (P:=P0) rfl rfl rfl rfl rfl)
 ·have hA:=k2 (by omega)
  have hB:=k3 (by omega);by_cases hC:C=0
  ·clear f1 f2 f3 f4 hv
   subst hC
   repeat' first|refine aw ?_|refine bw (fun _=>?_) fun _=>?_
   refine aF _ rfl ?_
   repeat' first|refine aw ?_|refine bw (fun _=>?_) fun _=>?_
   refine bI _ iZ.body rfl h3 ?_
   repeat' first|refine aw ?_|refine bw (fun _=>?_) fun _=>?_
   exact aW 3 (by omega) (by omega) (by exact Uw.wW)
  ·obtain ⟨e,hle⟩:=f3 hA hB hC
   subst e;clear f1 f2 f3 f4 hv
   repeat' first|refine aw ?_|refine bw (fun _=>?_) fun _=>?_
   refine aF _ rfl ?_
   repeat' first|refine aw ?_|refine bw (fun _=>?_) fun _=>?_
   refine bI _ iZ.body rfl h3 ?_
   repeat' first|refine aw ?_|refine bw (fun _=>?_) fun _=>?_
   refine bq ⟨[(7,.ptr 1 0),(9,.ptr 2 0),(4,.ptr 0 0)],[(2,.var [.d (I 3),.d (.str ((s.take C).drop 0)),.d (I 0),.d (I 0)]),(1,.var [.d (I 3),.d (.func fB)]),(0,.var [.d (I 0),.d (.str []),.d (I 0),.d (I 0)])],3,[],0⟩ ?_ ?_
   ·repeat' first|refine aw ?_|refine bw (fun _=>?_) fun _=>?_
    exact aj (.inl ⟨rfl,by exact Uw.wW⟩)
   ·repeat' first|refine aw ?_|refine bw (fun _=>?_) fun _=>?_
    exact ce (ai (P:=P0) rfl rfl rfl rfl rfl)
 ·have hA:=k2 (by omega)
  have hB:=k3 (by omega);have hC:=k4 (by omega);have e:=f4 hA hB hC;subst e;clear f1 f2 f3 f4 hv k2 k3 k4
  repeat' first|refine aw ?_|refine bw (fun _=>?_) fun _=>?_
  exact ai (P:=P0) rfl rfl rfl rfl rfl
end Uw.Tryz
namespace Uw.Tryz
open Go Uw Go.Proofs Go.RowKit
theorem zW {r:List UInt8} (h:db r=none):lI r=(⟨0,[],0,0⟩,false):=by rw [lI,h]
theorem Kp {r:List UInt8} {k:Int} {n:Nat} {v:Int} (h:db r=some (k,n,v)):lI r=(⟨k,r.take n,v,0⟩,true):=by rw [lI,h]
theorem P3 {b:UInt8} (h:nameB b=true):b.toNat<128:=by
 simp only [nameB,abB,decide_eq_true_eq] at h;unfold cls at h
 repeat' split at h
 all_goals omega
theorem Bq {b:UInt8} (h:cls b≠0):b.toNat<128:=by
 unfold cls at h
 repeat' split at h
 all_goals omega
theorem vg {α:Type} (p:α->Bool) (l:List α):∀x∈l.takeWhile p,p x=true:=abe.1 (all_takeWhile p l)
theorem VQ {r:List UInt8} {k:Int} {n:Nat} {v:Int} (h:db r=some (k,n,v)):∀b∈r.take n,b.toNat<128:=by
 cases r with
 | nil=>simp [db] at h
 | cons c t=>
  by_cases h1:cls c=1
  ·rw [lx c t h1] at h
   have e:endOf (c::t)=1+(t.takeWhile nameB).length:=by simp [endOf,h1]
   split at h
   ·simp only [abq,ab6] at h
    rw [<- h.2.1,e,ade,acI,take_takeWhile];intro b hb
    rcases abG.1 hb with rfl|hb
    ·exact Bq (by omega)
    ·exact P3 (vg _ _ b hb)
   ·cases h
  ·by_cases h2:cls c=2
   ·have hd:=yu c t h2
    rw [oq c t h2] at h
    split at h
    ·simp only [abq,ab6] at h
     rw [<- h.2.1,hd];intro b hb
     rcases abG.1 hb with rfl|hb
     ·exact Bq (by omega)
     ·have:=vY (vg _ _ b hb);omega
    ·cases h
   ·by_cases h5:cls c=5
    ·have he:=om c t h5
     rw [ly c t h5] at h;simp only [abq,ab6] at h;rw [<- h.2.1,he];intro b hb
     split at hb
     ·rename_i q
      cases t with
      | nil=>simp [eqq] at q
      | cons d u=>
       simp only [eqq,decide_eq_true_eq] at q;simp at hb
       rcases hb with rfl|rfl<;>omega
     ·simp at hb;subst hb;exact Bq (by omega)
    ·rw [gG c t h1 h2 h5] at h;cases h
def NJ (s:List UInt8) (k b:Nat):Prop:=∀i,k<=i->i<b->∀c,s[i]? = some c->c.toNat<128
theorem Kq (s:List UInt8) (hs:s.length<1000000):Ret P0 oK [.str s] (KU (sE s)):=by
 refine Ret.res (r:=EA s) ?_ (VM s);by_cases h4:4000<s.length
 ·have e:EA s = .tuple [.nil,I 2]:=by rw [EA,if_pos h4]
  rw [e];refine ao qY rfl ?_
  repeat' first|refine aw ?_|refine bw (fun _=>?_) fun _=>?_
  exact ai (P:=P0) rfl rfl rfl rfl rfl
 ·have bad:pW s 0=none->EA s = .tuple [.nil,I 3]:=fun h=>by rw [EA,if_neg h4,h]
  have good:∀l,pW s 0=some l->EA s = .tuple [Rm l,I 0]:=fun l h=>by rw [EA,if_neg h4,h]
  generalize EA s=R at bad good;refine ao qY rfl ?_
  repeat' first|refine aw ?_|refine bw (fun _=>?_) fun _=>?_
  refine dM (fun ((k,b,n,xs):Nat×Nat×Nat×List (List Dat))=>⟨[(19,.hnd 0),(6,.d (I b)),(5,.ref 1 0 0 n),(4,.d (Dat.slice 2 ((((List.replicate 3 [Dat.int IntKind.i64 0,Dat.nilFunc]).set 0 [Dat.int IntKind.i64 1,Dat.func fy]).set 1 [Dat.int IntKind.i64 2,Dat.func eb]).set 2 [Dat.int IntKind.i64 3,Dat.func fB]) true)),(0,.d (.str s))],[(1,.arr 4 xs),(0,.iter s k)],2,[],0⟩)
   (fun (k,b,n,xs)=>k<=s.length/\b<=s.length/\n=xs.length/\n<=b/\n<=k/\NJ s k b/\∃out,xs=out.map UT/\Read s (max k b) out) (fun (k,_)=>s.length - k) (0,0,0,[]) (by exact Uw.wW) ⟨by omega,by omega,rfl,by omega,by omega,by intro i h1 h2;omega,[],rfl,Read.init s⟩ ?_
  rintro ⟨k,b,n,xs⟩ ⟨h1,h2,h3,h3',aaM,hlow,out,h5,h6⟩;by_cases hk:k<s.length
  ·have hk' : s[k]? = some s[k]:=by simp [hk]
   have hd:s.drop k=s[k]::s.drop (k+1):=abV hk;by_cases hkb:k<b
   ·have hl:=hlow k (aa8 _) hkb s[k] hk'
    have hr:=vx s k s[k] hk' hl;have hr2:(bJ s k).2=1:=by rw [hr]
    clear hr;have hm:max (k+(bJ s k).2) b=max k b:=by omega
    have h7:Read s (max (k+(bJ s k).2) b) out:=by rw [hm];exact h6
    have hl2:NJ s (k+(bJ s k).2) b:=fun i q1 q2=>hlow i (by omega) q2;clear good bad h6 hd hlow
    repeat' first|refine aw ?_|refine bw (fun _=>?_) fun _=>?_
    exact aW (k+(bJ s k).2,b,n,xs) ⟨by omega,h2,h3,h3',by omega,hl2,out,h5,h7⟩ (by simp only;omega) (by exact Uw.wW)
   ·have hm:max k b=k:=by omega
    rw [hm] at h6;have hbl:=J6 ((bJ s k).1:Int);have hfi:=(Ko s[k] (s.drop (k+1)) (by rw [<- hd];simp;omega)).args (ds:=[.slice 2 [[I 1,.func fy],[I 2,.func eb],[I 3,.func fB]] true,.str (s[k]::s.drop (k+1))]) (.cons (.slice (.refl _)) (.refl _));rw [<- hd] at hfi;have VR : Ret P0 oM [.slice 2 [[I 1,.func fy],[I 2,.func eb],[I 3,.func fB]] true,.str ((s.take s.length).drop k)] (Tc (lI (s.drop k))):=by rw [abZ];exact hfi
    clear hfi;by_cases hl:s[k].toNat<128
    ·have hr:=vx s k s[k] hk' hl
     have hr1:((bJ s k).1:Int)=s[k].toNat:=by rw [hr]
     have hr2:(bJ s k).2=1:=by rw [hr]
     clear hr;rw [show DX ((bJ s k).1:Int)=decide (cls s[k]=4) by rw [hr1,S7]] at hbl;by_cases k4:cls s[k]=4
     ·rw [decide_eq_true k4] at hbl
      have h7:Read s (max (k+(bJ s k).2) b) out:=by rw [hr2,show max (k+1) b=k+1 by omega];exact h6.blank hk k4
      have hl2:NJ s (k+(bJ s k).2) b:=fun i q1 q2=>by omega
      clear good bad h6 hd hlow VR
      repeat' first|refine aw ?_|refine bw (fun _=>?_) fun _=>?_
      exact aW (k+(bJ s k).2,b,n,xs) ⟨by omega,h2,h3,h3',by omega,hl2,out,h5,h7⟩ (by simp only;omega) (by exact Uw.wW)
     ·rw [decide_eq_false k4] at hbl
      cases ht:db (s.drop k) with
      | none=>
       rw [zW ht] at VR;have hb:=bad (h6.none hk k4 ht);subst hb;clear good bad h6 hd hlow ht
       repeat' first|refine aw ?_|refine bw (fun _=>?_) fun _=>?_
       exact ce (ai (P:=P0) rfl rfl rfl rfl rfl)
      | some x=>
       obtain ⟨K,N,v⟩:=x;rw [Kp ht] at VR;have hn:=tY ht;have hlw:=VQ ht;have h8:=h6.tok hk k4 ht;have hN:k+N<=s.length:=by have:=hn.2;simp at this;omega
       have hxl:((s.drop k).take N).length=N:=VN hN;have h7:Read s (max (k+(bJ s k).2) (k+N)) (out++[⟨K,(s.drop k).take N,v,k⟩]):=by rw [hr2,show max (k+1) (k+N)=k+N by omega];exact h8
       have hl2:NJ s (k+(bJ s k).2) (k+N):=by
        intro i q1 q2 c hc;refine hlw c ?_;rw [adw];refine ⟨i - k,by simp;have:=(abx.1 hc).1;omega,?_⟩;rw [adh];have:=(abx.1 hc).2;simp only [show k+(i - k)=i by omega];exact this
       generalize (s.drop k).take N=w at *;clear good bad h6 hd hlow ht h8 hlw;have hen:(k:Int)+(w.length:Int)=((k+N:Nat):Int):=by omega
       repeat' first|refine aw ?_|refine bw (fun _=>?_) fun _=>?_
       refine aW (k+(bJ s k).2,k+N,n+1,xs++[[I K,.str w,I v,I k]]) ⟨by omega,hN,by simp [h3],by omega,by omega,hl2,out++[⟨K,w,v,k⟩],?_,h7⟩ (by simp only;omega) (by exact Uw.wW);rw [h5];simp [UT]
    ·obtain ⟨a1,a2,a3,a4,a5⟩:=zy s k s[k] hk' (by omega)
     have hc0:cls s[k]=0:=by
      by_cases h:cls s[k]=0
      ·exact h
      ·exact absurd (Bq h) hl
     have ht:db (s.drop k)=none:=by rw [hd];exact gG _ _ (by omega) (by omega) (by omega)
     rw [show DX ((bJ s k).1:Int)=false by simp [DX];omega] at hbl;rw [zW ht] at VR;have hb:=bad (h6.none hk (by omega) ht);subst hb;clear good bad h6 hd hlow ht a5
     repeat' first|refine aw ?_|refine bw (fun _=>?_) fun _=>?_
     exact ce (ai (P:=P0) rfl rfl rfl rfl rfl)
  ·have hg:=good out (h6.end (by omega))
   subst hg;clear good bad h6 hlow
   repeat' first|refine aw ?_|refine bw (fun _=>?_) fun _=>?_
   exact ai (P:=P0) rfl rfl rfl rfl (by rw [Xk h3 h5];rfl)
end Uw.Tryz
namespace Uw.Tryz
open Go Uw
def elT:List UInt8:=[99,101,108,108,32,120,59,32,102,117,110,99,32,102,40,97,41,32,123,32,120,32,61,32,120,32,43,32,97,59,32,114,101,116,117,114,110,32,53,59,32,125,32,102,117,110,99,32,109,97,105,110,40,41,32,123,32,120,32,61,32,49,59,32,97,32,61,32,115,112,97,119,110,32,102,40,50,41,59,32,114,101,116,117,114,110,32,97,32,43,32,120,59,32,125]
def elP:Pg:=(ofR elT).1
def Yf (f:FuncId) (ds:List Dat):Option Dat:=
 match Nat.beq f oK,ds with
 | true,[.str s]=>match Nat.blt s.length 1000000 with
  | true=>some (KU (sE s))
  | false=>none
 | _,_=>match Nat.beq f bn&&CB ds [pgD elP] with
  | true=>some (ae (fw elP))
  | false=>match Nat.beq f di,ds with
   | true,[.slice 1 [] false]=>some (.slice 1 [] false)
   | _,_=>none
def aaw:List (Nat×aO):=[(wR,wS),(dT,rJ),(CY,CZ),(wX,wY),(iC,rK),(lC,rL),(di,sL),(oK,zD),(uY,uZ),(jA,jB),(zE,zG),(pZ,qa),(nD,sQ),(qb,qc),(eM,oL),(fG,rM),(fH,rN),(fy,Dn),(eb,xH),(fB,Dp),(sR,zJ),(oM,zK),(lQ,lR),(lS,lT),(i6,i7),(sU,sV),(sW,sX),(sY,sZ),(kO,kP),(kQ,kR),(lU,lV),(lW,lX),(lY,lZ),(s7,s9),(kS,kT),(l4,l5),(eX,qe),(eY,qf),(eZ,qg),(iK,Dq),(jD,x6),(jE,x7),(kU,zM),(gg,ti),(tj,zN),(l8,l9),(mb,mc),(mf,mg),(mh,mj),(nF,nG),(gJ,gK),(kV,kW),(tt,tu),(oY,oZ),(qj,qk),(ve,vf),(jF,jG),(kX,kY),(kZ,lg),(ij,ip),(nJ,nK),(yb,yc),(qm,qn),(tw,tz),(qo,qp),(jY,jZ),(nL,nM),(cj,mq),(lh,li),(j0,j6),(o5,o6),(mr,mA),(lj,ll),(j7,j8),(gP,gQ),(j9,ka),(nO,nP),(jH,jI),(nQ,nR),(mB,mC),(ln,lq),(nS,nT),(mD,mE),(jJ,jK),(iq,iu),(jL,jM),(gj,gn)]
def Wu:List (Nat×yP):=[(xq,xr)]
def isE:Nat->List V->Bool
 | k,[.d (.slice k' [] false)]=>Nat.beq k k'
 | _,_=>false
def Yg (f:FuncId) (vs:List V) (h:Heap) (nx:Nat):Option (Res×Heap×Nat):=
 match Nat.beq f di&&isE 1 vs with
 | true=>some (.val (.ref nx 1 0 0),(nx,.mt 1 1 [])::h,nx+1)
 | false=>match Nat.beq f fH&&isE 2 vs with
  | true=>some (.val (.ref nx 1 0 0),(nx,.mt 2 1 [])::h,nx+1)
  | false=>none
end Uw.Tryz
namespace Uw.Tryz.El
open Go Uw Uw.Tryz
def elC:Cd:=⟨[⟨1,1,[⟨4,0,0,0⟩,⟨2,0,0,0⟩,⟨6,0,0,0⟩,⟨5,0,0,0⟩,⟨1,5,0,0⟩,⟨17,0,0,0⟩,⟨1,0,0,0⟩,⟨17,0,0,0⟩]⟩,⟨0,1,[⟨1,1,0,0⟩,⟨5,0,0,0⟩,⟨1,2,0,0⟩,⟨13,0,1,0⟩,⟨2,0,0,0⟩,⟨4,0,0,0⟩,⟨6,0,0,0⟩,⟨17,0,0,0⟩,⟨1,0,0,0⟩,⟨17,0,0,0⟩]⟩],[0],0,0,0,1⟩
def elW:Wd:=⟨[3],[],[],[],[⟨0,[],0,0,⟨1,0,1,0⟩,0,false⟩,⟨1,[0],0,0,⟨0,0,0,0⟩,1,false⟩,⟨1,[0],0,0,⟨1,0,3,0⟩,0,false⟩,⟨3,[],0,0,⟨0,0,0,0⟩,3,false⟩],[⟨1,0,1,2,3⟩,⟨2,1,0,0,3⟩,⟨3,2,0,0,3⟩],4,[8,5],14,[]⟩
theorem Tf:(vX elC).2=0:=by kernel_rfl
theorem HL:dE elC=(elW,0):=by kernel_rfl
theorem Kr:tP elC=true:=by kernel_rfl
theorem Yh:Ret P0 dH [cdD elC] (FZ elW []):=by
 have hR:=lH elC (by decide) (by decide);rw [Kr] at hR;have h:=yo elC (J3 Kr) hR Tf (by rw [HL]) [] (by rw [HL];rfl) (by rw [HL];have:=NB [] (by simp) (by decide);rw [show dN []=[] by simp [dN]] at this;exact this);rw [HL] at h;exact h
def noC:Cd:=⟨[],[],0,0,0,0⟩
theorem VS:Ret P0 dH [cdD noC] (Ey 1):=by
 have hR:=lH noC (by decide) (by decide);rw [show tP noC=false by kernel_rfl] at hR;exact yn noC hR
def Yi (f:FuncId) (ds:List Dat):Option Dat:=
 match Nat.beq f dH&&CB ds [cdD elC] with
 | true=>some (FZ elW [])
 | false=>match Nat.beq f dH&&CB ds [cdD noC] with
  | true=>some (Ey 1)
  | false=>Yf f ds
theorem yw {f n:Nat} {b:Bool} (h:(Nat.beq f n&&b)=true):f=n/\b=true:=by
 rw [aa5] at h;exact ⟨aa6 h.1,h.2⟩
theorem P4:mO elP=true:=by kernel_rfl
theorem Yj:Lim elP:=⟨by decide +kernel,by decide +kernel,by decide +kernel,by decide +kernel,by decide +kernel⟩
theorem VT (f:FuncId) (ds:List Dat) (r:Dat) (h:Yf f ds=some r):Ret P0 f ds r:=by
 unfold Yf at h
 split at h
 ·rename_i hf
  have hf:=aa6 hf
  split at h
  ·rename_i hl
   injection h with h
   subst h hf;exact Kq _ (by rw [Nat.blt_eq] at hl;exact hl)
  ·cases h
 ·split at h
  ·rename_i he
   obtain ⟨rfl,hl⟩:=yw he;injection h with h
   subst h;exact (Du elP P4 Yj).args (qU _ _ hl)
  ·split at h
   ·have hf:Nat.beq f di=true:=by assumption
    have hf:=aa6 hf;injection h with h
    subst h hf;exact dm [] (by decide)
   ·cases h
theorem VU (f:FuncId) (ds:List Dat) (r:Dat) (h:Yi f ds=some r):Ret P0 f ds r:=by
 unfold Yi at h
 split at h
 ·rename_i he
  obtain ⟨rfl,hl⟩:=yw he;injection h with h
  subst h;exact Yh.args (qU _ _ hl)
 ·split at h
  ·rename_i he
   obtain ⟨rfl,hl⟩:=yw he;injection h with h
   subst h;exact VS.args (qU _ _ hl)
  ·exact VT f ds r h
theorem Ti {k:Nat} {vs:List V} (h:isE k vs=true):vs=[.d (.slice k [] false)]:=by
 unfold isE at h
 split at h
 ·rw [aa6 h]
 ·cases h
theorem VX (f:FuncId) (vs:List V) (h:Heap) (nx:Nat) (r:Res) (h' : Heap) (n' : Nat) (e:Yg f vs h nx=some (r,h',n')):bO P0 f vs h nx fun r2 h2 n2=>r2=r/\h2=h'/\n2=n':=by
 unfold Yg at e
 split at e
 ·rename_i he
  obtain ⟨rfl,hl⟩:=yw he;injection e with e
  injection e with e1 e2
  injection e2 with e2 e3
  subst e1 e2 e3;rw [Ti hl];exact Vm.cA [] (by decide) h nx
 ·split at e
  ·rename_i he
   obtain ⟨rfl,hl⟩:=yw he;injection e with e
   injection e with e1 e2
   injection e2 with e2 e3
   subst e1 e2 e3;rw [Ti hl];exact Vm.mW [] (by decide) h nx
  ·cases e
def ZC:List (Nat×aO):=(kB,uS)::(eL,wQ)::aaw
theorem Tj:(rkN Yi Yg ZC Wu [nD] 400).F kB []=some (.bool true):=by kernel_rfl
theorem VY:∀f m,look ZC f=some m->ax P0 f m:=MU ⟨CQ,uU,Ej,dx,I4,Eo,km,c9,lE,qY,Dc,pY,G5,xw,AB,xy,eo,bK,qd,iY,ef,iZ,xI,xJ,sS,sT,pv,AH,AK,AO,rR,rS,s4,s5,s6,AP,rT,tf,aY,eO,ct,zL,px,pz,qZ,lF,x8,tm,tn,tq,tr,uA,nH,rU,AQ,nI,ya,Ds,ql,rV,rW,ox,uB,Ew,yd,AU,ye,q9,uC,tA,rX,ra,vP,tB,rY,rb,nN,ri,uD,qq,uE,tC,rZ,uF,tD,qt,oy,qu,mU,trivial⟩
theorem Tm:∀f m,look Wu f=some m->rE P0 f m:=MZ ⟨Et,trivial⟩
theorem EB:Ret P0 kB [] (.bool true):=XK 400 VU VX VY Tm Tj
end Uw.Tryz.El
namespace Uw.Tryz
open Go Uw
theorem Tn {α:Type} {a b:List α} (hl:a.length=b.length) (h:∀(j:Nat) (h1:j<a.length) (h2:j<b.length),a[j]=b[j]):a=b:=List.ext_getElem hl h
theorem HM (a b:List Int) (ha:a.length<1000000):Ret P0 wO [ae a,ae b] (.bool (decide (a=b))):=by
 have hal:(a.map fun i=>[I i]).length=a.length:=by simp
 have hbl:(b.map fun i=>[I i]).length=b.length:=by simp
 by_cases q:a.length=b.length
 rotate_left 1
 ·rw [decide_eq_false fun e=>q (congrArg List.length e)]
  have q' : ¬(((a.map fun i=>[I i]).length:Nat):Int)=((b.map fun i=>[I i]).length:Nat):=by omega
  refine ao uT rfl ?_
  repeat refine aw ?_
  exact ai rfl rfl rfl rfl rfl
 have q' : (((a.map fun i=>[I i]).length:Nat):Int)=((b.map fun i=>[I i]).length:Nat):=by omega
 have hae:∀(j:Nat) (h:j<a.length),(a.map fun i=>[I i])[(j:Int).toNat]? = some [I a[j]]:=fun j h=>by simp [h]
 have hbe:∀(j:Nat) (h:j<b.length),(b.map fun i=>[I i])[(j:Int).toNat]? = some [I b[j]]:=fun j h=>by simp [h]
 have hone:∀(j:Nat) (h1:j<a.length) (h2:j<b.length),a[j]≠b[j]->decide (a=b)=false:=fun j h1 h2 h=>decide_eq_false fun e=>h (by subst e;rfl);have hall:(∀(j:Nat) (h1:j<a.length) (h2:j<b.length),a[j]=b[j])->decide (a=b)=true:=fun h=>decide_eq_true (Tn q h);generalize decide (a=b)=R at *;refine ao uT rfl ?_
 repeat refine aw ?_
 refine eU a.length (fun j=>⟨[(5,.d (I j)),(4,.d (.bool false)),(1,.d (ae b)),(0,.d (ae a))],[],0,[],0⟩) (fun j=>∀(h1:j<a.length) (h2:j<b.length),a[j]=b[j]) ?_ (fun hg=>?_) (fun j hj _=>?_)
 ·exact Uw.wM
 ·obtain rfl:=hall fun j h1 h2=>hg j h1 h1 h2
  repeat refine aw ?_
  refine aZ ?_
  repeat refine aw ?_
  exact ai rfl rfl rfl rfl rfl
 have he:=hae j hj;have hf:=hbe j (by omega);have ho:=hone j hj (by omega);have hg1:a[j]=b[j]'(by omega)->∀(h1:j<a.length) (h2:j<b.length),a[j]=b[j]:=fun h _ _=>h;clear hae hbe hone hall;generalize a[j]=x at *;generalize b[j]'_=y at *;by_cases e:x=y
 ·have hg1:=hg1 e
  repeat refine aw ?_
  exact eK j hg1 (by exact Uw.wM)
 ·obtain rfl:=ho e
  repeat refine aw ?_
  exact ce (ai rfl rfl rfl rfl rfl)
end Uw.Tryz
namespace Uw.Tryz.El
open Go Uw Uw.Tryz Go.Proofs
theorem yx (a:List Int) (ha:a.length<1000000):Ret P0 xl [ae a,ae a] (.bool true):=by
 have hal:(a.map fun i=>[I i]).length=a.length:=by simp
 have hae:∀(j:Nat) (h:j<a.length),(a.map fun i=>[I i])[(j:Int).toNat]? = some [I a[j]]:=fun j h=>by simp [h]
 refine ao Ep rfl ?_
 repeat refine aw ?_
 refine eU a.length (fun j=>⟨[(5,.d (I j)),(4,.d (.bool false)),(1,.d (ae a)),(0,.d (ae a))],[],0,[],0⟩) (fun j=>True) ?_ (fun hg=>?_) (fun j hj _=>?_)
 ·exact Uw.wM
 ·repeat refine aw ?_
  refine aZ ?_
  repeat refine aw ?_
  exact ai rfl rfl rfl rfl rfl
 have he:=hae j hj;generalize a[j]=x at *
 repeat refine aw ?_
 exact eK j trivial (by exact Uw.wM)
theorem HN (x:Cont) (hk:x.keys.length<1000000) (hv:x.vals.length<1000000):Ret P0 qX [.agg (aR x),.agg (aR x)] (.bool true):=by
 have h1:=yx x.keys hk;have h2:=yx x.vals hv;rw [show Dat.bool true=Dat.bool (decide (x.kind=x.kind)) by simp];refine ao Em rfl ?_
 repeat refine aw ?_
 exact ai rfl rfl rfl rfl rfl
theorem D7 (a:List Cont) (ha:a.length<1000000) (hk:∀x∈a,x.keys.length<1000000/\x.vals.length<1000000):Ret P0 sG [.slice 3 (a.map aR) false,.slice 3 (a.map aR) false] (.bool true):=by
 have hal:(a.map aR).length=a.length:=by simp
 have hae:∀(j:Nat) (h:j<a.length),(a.map aR)[(j:Int).toNat]? = some [I a[j].kind,ae a[j].keys,ae a[j].vals]/\Ret P0 qX [.agg (aR a[j]),.agg (aR a[j])] (.bool true):=fun j h=>by
  have hm:=hk _ (abg h);exact ⟨by simp [h,aR],HN _ hm.1 hm.2⟩
 refine ao Az rfl ?_
 repeat refine aw ?_
 refine eU a.length (fun j=>⟨[(5,.d (I j)),(4,.d (.bool false)),(1,.d (.slice 3 (a.map aR) false)),(0,.d (.slice 3 (a.map aR) false))],[],0,[],0⟩) (fun j=>True) ?_ (fun hg=>?_) (fun j hj _=>?_)
 ·exact Uw.wM
 ·repeat refine aw ?_
  refine aZ ?_
  repeat refine aw ?_
  exact ai rfl rfl rfl rfl rfl
 obtain ⟨he,hs⟩:=hae j hj;generalize a[j]=x at *
 repeat refine aw ?_
 exact eK j trivial (by exact Uw.wM)
theorem D8:Ret P0 uX [.nil,.nil] (.bool true):=by
 refine ao C9 rfl ?_
 repeat refine aw ?_
 refine eU 0 (fun j=>⟨[(5,.d (I j)),(4,.d (.bool false)),(1,.d .nil),(0,.d .nil)],[],0,[],0⟩) (fun j=>True) ?_ (fun hg=>?_) (fun j hj _=>absurd hj (acF _))
 ·exact Uw.wM
 ·repeat refine aw ?_
  refine aZ ?_
  repeat refine aw ?_
  exact ai rfl rfl rfl rfl rfl
theorem HO (e:Int):Ret P0 wV [Ey e,Ey e] (.bool true):=by
 have h1:=(HM [] [] (by decide)).args (ds:=[.nil,.nil]) (.cons (.nil 1) (.cons (.nil 1) (.refl _)));rw [decide_eq_true rfl] at h1;have h2:=(D7 [] (by decide) (by simp)).args (ds:=[.nil,.nil]) (.cons (.nil 3) (.cons (.nil 3) (.refl _)));have h3:=D8;refine ao En rfl ?_
 repeat refine aw ?_
 exact ai rfl rfl rfl rfl rfl
theorem HQ (e:Int):Ret P0 wP [Ey e,Ey e] (.bool true):=by
 have h1:=HO e;refine ao Ei rfl ?_
 repeat refine aw ?_
 refine eU 0 (fun j=>⟨[(5,.d (I j)),(4,.d (.bool false)),(3,.ptr 1 0),(2,.ptr 0 0)],[(1,.var [.d (I e),.d (I 0),.d .nil,.d .nil,.d .nil,.d .nil,.d .nil,.d .nil,.d (I 0),.d (I 0),.d .nil]),(0,.var [.d (I e),.d (I 0),.d .nil,.d .nil,.d .nil,.d .nil,.d .nil,.d .nil,.d (I 0),.d (I 0),.d .nil])],2,[],0⟩) (fun j=>True) ?_ (fun hg=>?_) (fun j hj _=>absurd hj (acF _))
 ·exact Uw.wM
 repeat refine aw ?_
 refine aZ ?_
 repeat refine aw ?_
 refine eU 0 (fun j=>⟨[(6,.d (I j)),(4,.d (.bool false)),(3,.ptr 1 0),(2,.ptr 0 0)],[(1,.var [.d (I e),.d (I 0),.d .nil,.d .nil,.d .nil,.d .nil,.d .nil,.d .nil,.d (I 0),.d (I 0),.d .nil]),(0,.var [.d (I e),.d (I 0),.d .nil,.d .nil,.d .nil,.d .nil,.d .nil,.d .nil,.d (I 0),.d (I 0),.d .nil])],2,[],0⟩) (fun j=>True) ?_ (fun hg=>?_) (fun j hj _=>absurd hj (acF _))
 ·exact Uw.wM
 repeat refine aw ?_
 refine aZ ?_
 repeat refine aw ?_
 exact ai rfl rfl rfl rfl rfl
theorem HS (a b:List Int) (ha:a.length<1000000) (hb:b.length<1000000) (h:bQ a b=true):Ret P0 eL [ae a,ae b] (.bool true):=by
 have hal:(a.map fun i=>[I i]).length=a.length:=by simp
 have hbl:(b.map fun i=>[I i]).length=b.length:=by simp
 have hae:∀(j:Nat) (h:j<a.length),(a.map fun i=>[I i])[(j:Int).toNat]? = some [I (a.getD j 0)]:=fun j h=>by simp [h]
 have hbe:∀(j:Nat) (h:j<b.length),(b.map fun i=>[I i])[(j:Int).toNat]? = some [I (b.getD j 0)]:=fun j h=>by simp [h]
 have hst:∀j,j<a.length->j<b.length->(∀i,i<j->a.getD i 0=b.getD i 0)->bQ (a.drop j) (b.drop j)=true:=by
  intro j h1 h2 hg
  induction j with
  | zero=>exact h
  | succ j ih=>
   have:=ih (by omega) (by omega) fun i hi=>hg i (by omega)
   rwa [vW (by omega) (by omega) (hg j (by omega))] at this
 have hlast:(∀i,i<min a.length b.length->a.getD i 0=b.getD i 0)->a.length<b.length:=by
  intro hg;have key:∀j,j<=min a.length b.length->bQ (a.drop j) (b.drop j)=true:=by
   intro j
   induction j with
   | zero=>intro _;exact h
   | succ j ih=>
    intro hj;have:=ih (by omega)
    rwa [vW (by omega) (by omega) (hg j (by omega))] at this
  have:=key _ (aa8 _);rw [zf (by omega) (by omega) (by omega)] at this;exact of_decide_eq_true this
 have hmm:mmI false ((a.map fun i=>[I i]).length:Nat) ((b.map fun i=>[I i]).length:Nat)=((min a.length b.length:Nat):Int):=by
  show min _ _=_;omega
 have hmm':=hmm.symm;refine ao uU rfl ?_
 repeat refine aw ?_
 refine eU (min a.length b.length) (fun j=>⟨[(11,.d (I j)),(10,.d (I (min a.length b.length:Nat))),(4,.d (.bool false)),(1,.d (ae b)),(0,.d (ae a))],[],0,[],0⟩) (fun j=>a.getD j 0=b.getD j 0) ?_ (fun hg=>?_) (fun j hj hg=>?_)
 ·exact Uw.wM
 ·have hl:=hlast hg
  have hl' : ((a.map fun i=>[I i]).length:Int)<((b.map fun i=>[I i]).length:Nat):=by omega
  rw [show Dat.bool true=Dat.bool (decide (((a.map fun i=>[I i]).length:Int)<((b.map fun i=>[I i]).length:Nat))) by rw [decide_eq_true hl']]
  repeat refine aw ?_
  refine aZ ?_
  repeat refine aw ?_
  exact ai rfl rfl rfl rfl rfl
 have h1:j<a.length:=by omega
 have h2:j<b.length:=by omega
 have g1:=hae j h1;have g2:=hbe j h2;have g3:=hst j h1 h2 hg;have h1' : (j:Int)<((a.map fun i=>[I i]).length:Nat):=by omega
 have h2' : (j:Int)<((b.map fun i=>[I i]).length:Nat):=by omega
 clear hae hbe hst hlast;by_cases e:a.getD j 0=b.getD j 0
 ·rw [<- e] at g2
  generalize a.getD j 0=x at g1 g2
  repeat refine aw ?_
  exact eK j e (by exact Uw.wM)
 ·rw [JV h1 h2 e] at g3
  have g3:=of_decide_eq_true g3;generalize a.getD j 0=x at *;generalize b.getD j 0=y at *;rw [show Dat.bool true=Dat.bool (decide (x<y)) by rw [decide_eq_true g3]]
  repeat refine aw ?_
  exact ce (ai rfl rfl rfl rfl rfl)
end Uw.Tryz.El
