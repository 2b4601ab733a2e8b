/- J9: Gl Bp Xb Xc Xd Xe Xf Xg Xh Xi Xj Aa Bo Gm Bn Br Bl (merged by merge2.py from the working texts). -/
import Derived.Test.YtikpfliiodgonaaGreatDoorJ8
import Derived.Test.YtikpfliiodgonaaGreatDoorJ3
import Derived.Test.YtikpfliiodgonaaGreatDoorJ5
import Derived.Test.YtikpfliiodgonaaGreatDoorJ6
import Derived.Test.YtikpfliiodgonaaGreatDoorJs
import Derived.Lib.AtoiErrMem
set_option maxRecDepth 8000
set_option maxHeartbeats 4000000
set_option linter.unusedSimpArgs false
set_option linter.unnecessarySimpa false
set_option linter.unusedVariables false
set_option linter.unusedSectionVars false
namespace Uw.Tryz
open Go Uw
abbrev sdS (c:Cd) (ba bl:Int) (ins:List In4) (j:Nat):St:=⟨[(48,.d (I j)),(47,.d (I ((ins.map in4).length:Nat))),(46,.d (.slice 4 (ins.map in4) false)),(5,.ptr 1 0),(4,.d (.bool false)),(2,.ptr 0 0)],[(1,.var [.d (I ba),.d (I bl),.d (.slice 4 (ins.map in4) false)]),(0,PU c)],2,[],0⟩
theorem A1 (c:Cd) (hc:c.aA.length<=1000000) (k:Nat) (b:Bd) (hb:c.aA[k]? = some b):Ret P0 lL [cdD c,I k] (.bool (jX c b)):=by
 have hlt:=(abQ.1 hb).1;have hki:(k:Int)<((c.aA.map bdC).length:Nat):=by rw [acI];omega
 have hel:(c.aA.map bdC)[(k:Int).toNat]? = some [I b.args,I b.locals,.slice 4 (b.ins.map in4) false]:=by simp [hb,bdC]
 have hnl:(b.ins.map in4).length=b.ins.length:=by simp
 have hht:∀h:b.ins.length<=400,Ret P0 eO [cdD c,I k] (ae (tZ b.ins)):=fun h=>by
  have:=yu c hc k (fun b2 h2=>by
   rw [show (k:Int).toNat=k from rfl,hb] at h2;injection h2 with h2;subst h2;omega)
  rwa [show jW c k=tZ b.ins by rw [jW,if_neg (by omega),List.getD,show (k:Int).toNat=k from rfl,hb];rfl] at this
 have hna:=fun i=>A0 c hc b i;obtain ⟨a1,ha1⟩:∃a,decide (b.args<0)=a:=⟨_,rfl⟩
 obtain ⟨hl,hhl⟩:∃hl,(tZ b.ins)=hl:=⟨_,rfl⟩
 have hS:jX c b=(!(decide (b.args<0)||decide (b.locals<b.args)||decide (16<b.locals))&&!(decide (b.ins.length<1)||decide (400<b.ins.length)||decide (hl.length=0))&&b.ins.all (gA c b)):=by rw [<- hhl];rfl
 rw [hhl] at hht;rw [hS];clear hhl hS ha1 a1;have hhm:(hl.map fun i=>[I i]).length=hl.length:=by simp
 obtain ⟨ba,bl,ins⟩:=b;simp only at hel hnl hht hna ⊢;by_cases q1:ba<0
 ·simp only [decide_eq_true q1,acL,aco,abO]
  refine au df rfl ?_
  repeat refine aw ?_
  exact aj rfl rfl rfl rfl rfl
 by_cases q2:bl<ba
 ·simp only [decide_eq_true q2,adf,acL,aco,abO]
  refine au df rfl ?_
  repeat refine aw ?_
  exact aj rfl rfl rfl rfl rfl
 by_cases q3:16<bl
 ·simp only [decide_eq_true q3,adf,aco,abO]
  refine au df rfl ?_
  repeat refine aw ?_
  exact aj rfl rfl rfl rfl rfl
 simp only [decide_eq_false q1,decide_eq_false q2,decide_eq_false q3,adU,adr,acn];by_cases q4:ins.length<1
 ·simp only [decide_eq_true q4,acL,aco,abO]
  have q5:(((ins.map in4).length:Nat):Int)<1:=by omega
  refine au df rfl ?_
  repeat refine aw ?_
  exact aj rfl rfl rfl rfl rfl
 have q4' : ¬(((ins.map in4).length:Nat):Int)<1:=by omega
 by_cases q5:400<ins.length
 ·simp only [decide_eq_true q5,adf,acL,aco,abO]
  have q6:(400:Int)<((ins.map in4).length:Nat):=by omega
  refine au df rfl ?_
  repeat refine aw ?_
  exact aj rfl rfl rfl rfl rfl
 have q5' : ¬(400:Int)<((ins.map in4).length:Nat):=by omega
 have hht:=hht (by omega);by_cases q6:hl.length=0
 ·simp only [decide_eq_true q6,adf,aco,abO]
  have q7:(((hl.map fun i=>[I i]).length:Nat):Int)=0:=by omega
  refine au df rfl ?_
  repeat refine aw ?_
  exact aj rfl rfl rfl rfl rfl
 have q6' : ¬(((hl.map fun i=>[I i]).length:Nat):Int)=0:=by omega
 simp only [decide_eq_false q4,decide_eq_false q5,decide_eq_false q6,adU,adr,acn];have hone:∀(j:Nat) (h:j<ins.length),gA c ⟨ba,bl,ins⟩ ins[j]=false->ins.all (gA c ⟨ba,bl,ins⟩)=false:=fun j h e=>by
  rw [acS];exact ⟨_,abD h,by rw [e];simp⟩
 have hall:(∀(j:Nat) (h:j<ins.length),gA c ⟨ba,bl,ins⟩ ins[j]=true)->ins.all (gA c ⟨ba,bl,ins⟩)=true:=fun h=>aby.2 fun i hi=>by
  obtain ⟨j,hj,rfl⟩:=ace.1 hi;exact h j hj
 have ZF:∀(j:Nat) (h:j<ins.length),(ins.map in4)[(j:Int).toNat]? = some (in4 ins[j]):=fun j h=>by simp [h]
 generalize ins.all (gA c ⟨ba,bl,ins⟩)=R at *;refine au df rfl ?_
 repeat (first|refine aw ?_|refine f1 ?_)
 refine kr ins.length (sdS c ba bl ins) (fun j=>∀h:j<ins.length,gA c ⟨ba,bl,ins⟩ ins[j]=true) ?_ (fun hg=>?_) (fun j hj _=>?_)
 ·exact Uw.wM
 ·obtain rfl:=hall fun j h=>hg j h h
  repeat (first|refine aw ?_|refine f1 ?_)
  refine bp ?_
  repeat (first|refine aw ?_|refine f1 ?_)
  exact aj rfl rfl rfl rfl rfl
 have he:=ZF j hj;have hn:=hna ins[j];have ho:=hone j hj;have hg1:gA c ⟨ba,bl,ins⟩ ins[j]=true->∀h:j<ins.length,gA c ⟨ba,bl,ins⟩ ins[j]=true:=fun h _=>h;clear hone hall ZF hna hht;generalize gA c ⟨ba,bl,ins⟩ ins[j]=r at *;generalize ins[j]=i at *;obtain ⟨io,ia,ib,ic⟩:=i;have he:(ins.map in4)[(j:Int).toNat]? = some [I io,I ia,I ib,I ic]:=he;have hn:Ret P0 fK [cdD c,.agg [I ba,I bl,.slice 4 (ins.map in4) false],.agg [I io,I ia,I ib,I ic]] (.bool r):=hn
 cases r with
 | true=>
  have hg1:=hg1 rfl
  repeat (first|refine aw ?_|refine f1 ?_)
  exact gI j hg1 (by exact Uw.wM)
 | false=>
  obtain rfl:=ho rfl
  repeat (first|refine aw ?_|refine f1 ?_)
  exact cD (aj rfl rfl rfl rfl rfl)
abbrev aaC (c:Cd) (j:Nat):St:=⟨[(44,.d (I j)),(43,.d (I ((c.cells.map fun i=>[I i]).length:Nat))),(42,.d (ae c.cells)),(2,.d (.bool false)),(1,.ptr 0 0)],[(0,PU c)],1,[],0⟩
abbrev aaD (c:Cd) (j:Nat):St:=⟨[(71,.d (I j)),(70,.d (I ((c.aA.map bdC).length:Nat))),(2,.d (.bool false)),(1,.ptr 0 0)],[(0,PU c)],1,[],0⟩
theorem lP (c:Cd) (hc:c.aA.length<=1000000) (hcc:c.cells.length<=1000000):Ret P0 dY [cdD c] (.bool (t7 c)):=by
 have hfl:(c.aA.map bdC).length=c.aA.length:=by simp
 have hcl:(c.cells.map fun i=>[I i]).length=c.cells.length:=by simp
 have hso:=A1 c hc;have hbm:=bN c.main (c.aA.length:Nat);have hb1:=bN c.maps 9;have hb2:=bN c.stacks 9;have hb3:=bN c.chans 9;have hbc:=fun v=>bN v 4294967296;rw [<- hfl] at hbm;have hR:t7 c=(!(decide (c.aA.length<1)||decide (32<c.aA.length)||!bP c.main ((c.aA.map bdC).length:Nat))&&!(!decide ((c.aA.getD c.main.toNat default).args=0)||decide (16<c.cells.length))&&(c.cells.all fun v=>bP v 4294967296)&&bP c.maps 9&&bP c.stacks 9&&bP c.chans 9&&c.aA.all (jX c)):=by rw [hfl];rfl
 rw [hR];clear hR;by_cases q1:c.aA.length<1
 ·simp only [decide_eq_true q1,acL,aco,abO]
  have q1' : (((c.aA.map bdC).length:Nat):Int)<1:=by omega
  refine au dF rfl ?_
  repeat refine aw ?_
  exact aj rfl rfl rfl rfl rfl
 have q1' : ¬(((c.aA.map bdC).length:Nat):Int)<1:=by omega
 by_cases q2:32<c.aA.length
 ·simp only [decide_eq_true q2,adf,acL,aco,abO]
  have q2' : (32:Int)<((c.aA.map bdC).length:Nat):=by omega
  refine au dF rfl ?_
  repeat refine aw ?_
  exact aj rfl rfl rfl rfl rfl
 have q2' : ¬(32:Int)<((c.aA.map bdC).length:Nat):=by omega
 simp only [decide_eq_false q1,decide_eq_false q2,adU,adV,Bool.not_not]
 cases q3:bP c.main ((c.aA.map bdC).length:Nat) with
 | false=>
  rw [q3] at hbm;simp only [abO];refine au dF rfl ?_
  repeat refine aw ?_
  exact aj rfl rfl rfl rfl rfl
 | true=>
 rw [q3] at hbm;have q3' : 0<=c.main/\c.main<(c.aA.length:Int):=by simpa [bP] using q3
 have ZG:c.main.toNat<c.aA.length:=by omega
 have hg:c.aA.getD c.main.toNat default=c.aA[c.main.toNat]:=by simp [List.getD,ZG]
 have hel:(c.aA.map bdC)[c.main.toNat]? = some (bdC c.aA[c.main.toNat]):=by simp [ZG]
 have hmr:0<=c.main/\c.main<(((c.aA.map bdC).length:Nat):Int):=by omega
 rw [hg];simp only [acn];clear hg;generalize c.aA[c.main.toNat]=g at *;obtain ⟨ga,gl,gi⟩:=g;have hel:(c.aA.map bdC)[c.main.toNat]? = some [I ga,I gl,.slice 4 (gi.map in4) false]:=hel;simp only;by_cases q4:ga=0
 rotate_left 1
 ·simp only [decide_eq_false q4,adr,acL,aco,abO]
  refine au dF rfl ?_
  repeat refine aw ?_
  exact aj rfl rfl rfl rfl rfl
 simp only [decide_eq_true q4,aco,adV];by_cases q5:16<c.cells.length
 ·simp only [decide_eq_true q5,aco,abO]
  have q5' : (16:Int)<((c.cells.map fun i=>[I i]).length:Nat):=by omega
  refine au dF rfl ?_
  repeat refine aw ?_
  exact aj rfl rfl rfl rfl rfl
 have q5' : ¬(16:Int)<((c.cells.map fun i=>[I i]).length:Nat):=by omega
 simp only [decide_eq_false q5,adr,acn];have hone:∀(j:Nat) (h:j<c.cells.length),bP c.cells[j] 4294967296=false->(c.cells.all fun v=>bP v 4294967296)=false:=fun j h e=>by
  rw [acS];exact ⟨_,abD h,by rw [e];simp⟩
 have hall:(∀(j:Nat) (h:j<c.cells.length),bP c.cells[j] 4294967296=true)->(c.cells.all fun v=>bP v 4294967296)=true:=fun h=>aby.2 fun i hi=>by
  obtain ⟨j,hj,rfl⟩:=ace.1 hi;exact h j hj
 have S4:∀(j:Nat) (h:j<c.aA.length),jX c c.aA[j]=false->c.aA.all (jX c)=false:=fun j h e=>by
  rw [acS];exact ⟨_,abD h,by rw [e];simp⟩
 have S5:(∀(j:Nat) (h:j<c.aA.length),jX c c.aA[j]=true)->c.aA.all (jX c)=true:=fun h=>aby.2 fun i hi=>by
  obtain ⟨j,hj,rfl⟩:=ace.1 hi;exact h j hj
 have Yl:∀(j:Nat) (h:j<c.cells.length),(c.cells.map fun i=>[I i])[(j:Int).toNat]? = some [I c.cells[j]]:=fun j h=>by simp [h]
 generalize (c.cells.all fun v=>bP v 4294967296)=A at *;generalize c.aA.all (jX c)=F at *;generalize bP c.maps 9=b1 at *;generalize bP c.stacks 9=b2 at *;generalize bP c.chans 9=b3 at *;refine au dF rfl ?_
 repeat (first|refine aw ?_|refine f1 ?_)
 refine kr c.cells.length (aaC c) (fun j=>∀h:j<c.cells.length,bP c.cells[j] 4294967296=true) ?_ (fun hg=>?_) (fun j hj _=>?_)
 ·exact Uw.wM
 rotate_left 1
 ·have he:=Yl j hj
  have hn:=hbc c.cells[j];have ho:=hone j hj;have hg1:bP c.cells[j] 4294967296=true->∀h:j<c.cells.length,bP c.cells[j] 4294967296=true:=fun h _=>h;clear hone hall Yl hbc S4 S5 hso;generalize bP c.cells[j] 4294967296=r at *;generalize c.cells[j]=i at *
  cases r with
  | true=>
   have hg1:=hg1 rfl
   repeat (first|refine aw ?_|refine f1 ?_)
   exact gI j hg1 (by exact Uw.wM)
  | false=>
   obtain rfl:=ho rfl
   repeat (first|refine aw ?_|refine f1 ?_)
   exact cD (aj rfl rfl rfl rfl rfl)
 obtain rfl:=hall fun j h=>hg j h h;simp only [acn];clear hone hall Yl hg
 cases b1 with
 | false=>
  simp only [abO]
  repeat (first|refine aw ?_|refine f1 ?_)
  refine bp ?_
  repeat (first|refine aw ?_|refine f1 ?_)
  refine fN 4 ?_;show WT _ _ _;refine aw ?_;refine aw ?_;refine aF [I c.maps] rfl ?_
  repeat refine aw ?_
  exact yP (aj rfl rfl rfl rfl rfl)
 | true=>
 cases b2 with
 | false=>
  simp only [abO,adN]
  repeat (first|refine aw ?_|refine f1 ?_)
  refine bp ?_
  repeat (first|refine aw ?_|refine f1 ?_)
  refine fN 4 ?_;show WT _ _ _;refine aw ?_;refine aw ?_;refine aF [I c.maps] rfl ?_
  repeat refine aw ?_
  refine eM ?_;refine aw ?_;refine aw ?_;refine aF [I c.stacks] rfl ?_
  repeat refine aw ?_
  exact yP (aj rfl rfl rfl rfl rfl)
 | true=>
 cases b3 with
 | false=>
  simp only [abO,adN]
  repeat (first|refine aw ?_|refine f1 ?_)
  refine bp ?_
  repeat (first|refine aw ?_|refine f1 ?_)
  refine fN 4 ?_;show WT _ _ _;refine aw ?_;refine aw ?_;refine aF [I c.maps] rfl ?_
  repeat refine aw ?_
  refine eM ?_;refine aw ?_;refine aw ?_;refine aF [I c.stacks] rfl ?_
  repeat refine aw ?_
  refine eM ?_;refine aw ?_;refine aw ?_;refine aF [I c.chans] rfl ?_
  repeat refine aw ?_
  exact yP (aj rfl rfl rfl rfl rfl)
 | true=>
  simp only [acn]
  repeat (first|refine aw ?_|refine f1 ?_)
  refine bp ?_
  repeat (first|refine aw ?_|refine f1 ?_)
  refine fN 4 ?_;show WT _ _ _;refine aw ?_;refine aw ?_;refine aF [I c.maps] rfl ?_
  repeat refine aw ?_
  refine eM ?_;refine aw ?_;refine aw ?_;refine aF [I c.stacks] rfl ?_
  repeat refine aw ?_
  refine eM ?_;refine aw ?_;refine aw ?_;refine aF [I c.chans] rfl ?_
  repeat refine aw ?_
  refine eM ?_
  repeat refine aw ?_
  refine pZ ?_
  repeat (first|refine aw ?_|refine f1 ?_)
  refine kr c.aA.length (aaD c) (fun j=>∀h:j<c.aA.length,jX c c.aA[j]=true) ?_ (fun hg=>?_) (fun j hj _=>?_)
  ·exact Uw.wM
  rotate_left 1
  ·have hn:=hso j c.aA[j] (abv hj)
   have ho:=S4 j hj;have hg1:jX c c.aA[j]=true->∀h:j<c.aA.length,jX c c.aA[j]=true:=fun h _=>h;clear hbc S4 S5 hso;generalize jX c c.aA[j]=r at *
   cases r with
   | true=>
    have hg1:=hg1 rfl
    repeat (first|refine aw ?_|refine f1 ?_)
    exact gI j hg1 (by exact Uw.wM)
   | false=>
    obtain rfl:=ho rfl
    repeat (first|refine aw ?_|refine f1 ?_)
    exact cD (aj rfl rfl rfl rfl rfl)
  obtain rfl:=S5 fun j h=>hg j h h
  repeat (first|refine aw ?_|refine f1 ?_)
  refine bp ?_
  repeat (first|refine aw ?_|refine f1 ?_)
  exact aj rfl rfl rfl rfl rfl
end Uw.Tryz
namespace Uw.Tryz.El
open Go Uw Uw.Tryz Go.Proofs Go.RowKit
abbrev D6:Ty:=.int .i64
abbrev aaE:Ty:=.struct [D6,D6,D6,D6]
abbrev ZH:Ty:=.struct [D6,D6,.slice 4 aaE]
abbrev Ww:Ty:=.struct [.slice 3 ZH,.slice 1 D6,D6,D6,D6,D6]
structure Rch (c:Cd):Prop where
 aA:c.aA.length<=reachBytes
 cells:c.cells.length<=reachBytes
 ins:∀b∈c.aA,b.ins.length<=reachBytes
theorem VN {ds:List Dat} (h:u0 Ww ds):∃c:Cd,Dat.agg ds=cdD c/\Rch c:=by
 obtain ⟨_,_,rfl,⟨fs,rfl,hfl,hf⟩,_,_,rfl,⟨cs,rfl,hcl,hc⟩,_,_,rfl,⟨m,rfl,_⟩,_,_,rfl,⟨s,rfl,_⟩,_,_,rfl,⟨ch,rfl,_⟩,_,_,rfl,⟨mn,rfl,_⟩,rfl⟩:=h;obtain ⟨fl,rfl,hfq⟩:=A8 (f:=bdC) (Q:=fun b=>b.ins.length<=reachBytes) (fun x hx'=>by
  obtain ⟨_,_,rfl,⟨a,rfl,_⟩,_,_,rfl,⟨b,rfl,_⟩,_,_,rfl,⟨is,rfl,hl,hi⟩,rfl⟩:=hf x hx';obtain ⟨il,rfl,_⟩:=A8 (f:=in4) (Q:=fun _=>True) (fun y hy=>by
   obtain ⟨_,_,rfl,⟨o,rfl,_⟩,_,_,rfl,⟨a,rfl,_⟩,_,_,rfl,⟨b,rfl,_⟩,_,_,rfl,⟨c,rfl,_⟩,rfl⟩:=hi y hy;exact ⟨⟨o,a,b,c⟩,rfl,trivial⟩)
  exact ⟨⟨a,b,il⟩,rfl,by simpa using hl⟩)
 obtain ⟨cl,rfl,_⟩:=A8 (f:=fun i=>[I i]) (Q:=fun _=>True) (fun y hy=>by
  obtain ⟨n,rfl,_⟩:=hc y hy;exact ⟨n,rfl,trivial⟩)
 exact ⟨⟨fl,cl,m,s,ch,mn⟩,rfl,⟨by simpa using hfl,by simpa using hcl,hfq⟩⟩
def yw (l:List Bd):Nat:=(l.map fun b=>b.ins.length).sum
def MA (c:Cd):Bool:=decide (c.aA.length<=40)&&decide (yw c.aA<=1200)&&decide (c.cells.length<=40)
theorem PV {l:List Bd} {j:Nat} (h:j<l.length):yw (l.take (j+1))=yw (l.take j)+l[j].ins.length:=by
 unfold yw;rw [abN h,acN,adH];simp
theorem NI {R:Nat}:∀{l:List Bd},(∀b∈l,b.ins.length<=R)->yw l<=l.length * R
 | [],_=>acD _
 | b::l,h=>by
  have h1:=NI (l:=l) fun x hx=>h x (by simp [hx]);have h2:=h b (by simp);have e:yw (b::l)=b.ins.length+yw l:=by simp [yw]
  rw [e,abI,abK];omega
abbrev feS (c:Cd):Nat×Int->St:=fun (j,n)=>⟨[(4,.d (I j)),(3,.d (I n)),(2,.d (.bool false)),(1,.ptr 0 0)],[(0,.var (cdV c))],1,[],0⟩
theorem JU (c:Cd) (hr:Rch c):Ret P0 zE [cdD c] (.bool (MA c)):=by
 have hR:=QU;have h1:=hr.aA;have h2:=hr.cells;have hfl:(c.aA.map bdC).length=c.aA.length:=by simp
 have hcl:(c.cells.map fun i=>[I i]).length=c.cells.length:=by simp
 have hi:∀j (h:j<c.aA.length),(c.aA.map bdC)[(j:Int).toNat]? = some [I c.aA[j].args,I c.aA[j].locals,.slice 4 (c.aA[j].ins.map in4) false]/\c.aA[j].ins.length<140737488355328:=fun j h=>⟨by simp [h,bdC],by have:=hr.ins _ (abD h);omega⟩
 have hinv:∀(j:Nat) (n:Int) (h:j<c.aA.length),(c.aA.length<=40->n=(yw (c.aA.take j):Nat))->(c.aA.length<=40->0<=n/\n<=40 * 140737488355328)/\(c.aA.length<=40->n+(c.aA[j].ins.length:Nat)=(yw (c.aA.take (j+1)):Nat)):=by
  intro j n h hn;refine ⟨fun h40=>?_,fun h40=>?_⟩
  ·rw [hn h40]
   have:=NI (l:=c.aA.take j) (R:=reachBytes) fun b hb=>hr.ins b (abR hb);have h3:(c.aA.take j).length * reachBytes<=40 * reachBytes:=abH _ (by simp;omega);omega
  ·rw [hn h40,PV h];omega
 have hend:∀n:Int,(c.aA.length<=40->n=(yw (c.aA.take c.aA.length):Nat))->MA c=(decide (c.aA.length<=40)&&decide (n<=1200)&&decide (c.cells.length<=40)):=by
  intro n hn;unfold MA;by_cases h40:c.aA.length<=40
  ·rw [hn h40,acg]
   have e:(((yw c.aA:Nat):Int)<=1200)=(yw c.aA<=1200):=propext (by omega);simp only [e]
  ·simp [h40]
 generalize MA c=R at *;refine au GN rfl ?_
 repeat refine aw ?_
 refine dC (feS c) (fun x=>x.1<=c.aA.length/\(c.aA.length<=40->x.2=(yw (c.aA.take x.1):Nat))) (fun x=>c.aA.length - x.1) (0,0) (by exact Uw.wM) ⟨acD _,fun _=>rfl⟩ ?_;rintro ⟨j,n⟩ ⟨hj,hn⟩;simp only at hj hn;by_cases hlt:j<c.aA.length
 ·obtain ⟨g1,g2⟩:=hi j hlt
  obtain ⟨g3,g4⟩:=hinv j n hlt hn;have g5:(c.aA[j].ins.map in4).length=c.aA[j].ins.length:=by simp
  have hlt' : (j:Int)<((c.aA.map bdC).length:Nat):=by omega
  generalize hL:c.aA[j].ins.map in4=L at *;generalize c.aA[j].ins.length=m at *;generalize c.aA[j].args=A at *;generalize c.aA[j].locals=B at *
  repeat refine aw ?_
  refine bF (fun ht=>?_) (fun ht=>?_)
  ·repeat refine aw ?_
   refine aR (j+1,n+(L.length:Nat)) ⟨hlt,fun h40=>by show n+(L.length:Nat)=_;rw [g5];exact g4 h40⟩ (by show _ - (j+1)<_ - j;omega) (by exact Uw.wM)
  ·have h40:¬c.aA.length<=40:=by
    intro h40;have:=g3 h40;simp [inR] at ht;omega
   repeat refine aw ?_
   refine aR (j+1,IntKind.i64.wrap (n+(L.length:Nat))) ⟨hlt,fun h=>absurd h h40⟩ (by show _ - (j+1)<_ - j;omega) (by exact Uw.wM)
 ·have hje:j=c.aA.length:=by omega
  subst hje;have hlt' : ¬((c.aA.length:Nat):Int)<((c.aA.map bdC).length:Nat):=by omega
  have he:=hend n hn;clear hinv hend hi hn;by_cases q1:c.aA.length<=40
  rotate_left 1
  ·have q1' : ¬((c.aA.map bdC).length:Int)<=40:=by omega
   rw [decide_eq_false q1,abO,abO] at he;subst he
   repeat refine aw ?_
   refine bp ?_
   repeat refine aw ?_
   exact aj rfl rfl rfl rfl rfl
  have q1' : ((c.aA.map bdC).length:Int)<=40:=by omega
  by_cases q2:n<=1200
  rotate_left 1
  ·rw [decide_eq_false q2,adN,abO] at he
   subst he
   repeat refine aw ?_
   refine bp ?_
   repeat refine aw ?_
   exact aj rfl rfl rfl rfl rfl
  have e3:decide (c.cells.length<=40)=decide (((c.cells.map fun i=>[I i]).length:Int)<=40):=decide_eq_decide.2 (by omega);rw [decide_eq_true q1,decide_eq_true q2,e3,acn,acn] at he;subst he
  repeat refine aw ?_
  refine bp ?_
  repeat refine aw ?_
  exact aj rfl rfl rfl rfl rfl
theorem JV {c:Cd} (h:t7 c=true):CO c:=by
 simp only [t7,abq,aci,ab2,decide_eq_false_iff_not,bP,decide_eq_true_eq,aby] at h;obtain ⟨⟨⟨⟨⟨⟨h1,h2⟩,h3⟩,h4⟩,h5⟩,h6⟩,h7⟩:=h;have hs:∀b∈c.aA,b.ins.length<=400/\b.locals<=16:=by
  intro b hb;have:=h7 b hb;simp only [jX,abq,aci,ab2,decide_eq_false_iff_not] at this;omega
 exact ⟨by omega,by omega,fun b hb=>by have:=(hs b hb).1;omega,fun b hb=>by have:=(hs b hb).2;omega,by omega,by omega,by omega⟩
abbrev ua (c:Cd):Vm.Frame×Int:=Vm.dm c c.main [] 1 []
structure Runs (c:Cd):Prop where
 right:t7 c=true
 co:CO c
 start:(ua c).2=0
 err:(fS c).2=0
 done:Done c (db c) (fS c).1
 bnd:DnB (db c) (ua c).1 (fS c).1
theorem NJ {c:Cd} (hc:CO c) (hs:(ua c).2=0) (he:(fS c).2=0) {pre:Wd->Vm.Frame->Int->Int->Prop} {lp:Wd->Vm.Frame->Int->Int->Wd->Vm.Frame->Int->Int->Prop} {dn:Wd->Vm.Frame->Int->Int->Wd->Prop} (I:Ind c pre lp dn) (hp:pre (db c) (ua c).1 0 0):dn (db c) (ua c).1 0 0 (fS c).1:=by
 obtain ⟨e1,e2⟩:=fE hs;refine I.run hc 64 (db c) _ 0 0 (JL hc) (by simp [db]) (by simp [db]) ?_ ?_ ?_ ?_ ?_ ?_ hp he
 ·rw [e1];exact e2
 ·rw [e1];rfl
 ·rw [e1];simp [Vm.gy]
 ·rw [e1];rfl
 ·rw [e1];rfl
 ·rw [e1];rfl
theorem JW (c:Cd) (hf:MA c=true):(∃e,e≠0/\Ret P0 dN [cdD c] (PN e))\/(Runs c/\Ret P0 dN [cdD c] (FY (fS c).1 (jQ (fS c).1.fails))):=by
 simp only [MA,abq,decide_eq_true_eq] at hf;have hR:=lP c (by omega) (by omega)
 cases hr:t7 c with
 | false=>rw [hr] at hR;exact .inl ⟨1,by decide,yq c hR⟩
 | true=>
  rw [hr] at hR;have hc:=JV hr;by_cases hs:(ua c).2=0
  ·by_cases he:(fS c).2=0
   ·have hd:=(ut c hc hs).2 he
    have hb:=NJ hc hs he (Mc c) ⟨by simp [db],by simp [db]⟩;refine .inr ⟨⟨hr,hc,hs,he,hd,hb⟩,yr c hc hR hs he _ (List.Perm.length_eq (DY _)) ?_⟩;refine NG _ (fun x hx=>by have:=hb.short x hx;omega) ?_;have:=hd.wi.fails;have:=hd.wi.vals;omega
   ·exact .inl ⟨_,he,Hz c hc hR hs he⟩
  ·exact .inl ⟨_,hs,Hy c hc hR hs⟩
end Uw.Tryz.El
namespace Uw.Tryz
open Go Uw
end Uw.Tryz
namespace Uw.Tryz
open Go Uw
def endOf (r:List UInt8):Nat:=
 match r with
 | []=>0
 | c::t=>if cls c=5 then (if c.toNat=61/\eqq t=true then 2 else 1)
  else if cls c=1 then 1+(t.takeWhile nameB).length else 1+(t.takeWhile eZ).length
theorem ov (c:UInt8) (t:List UInt8) (h:cls c=5):endOf (c::t)=if c.toNat=61/\eqq t=true then 2 else 1:=by
 rw [endOf,if_pos h]
theorem yx {α:Type} (p:α->Bool) (l:List α) (k:Nat) (h:k<=l.length) (h1:∀(j:Nat) (hj:j<l.length),j<k->p l[j]=true) (h2:∀b,l[k]? = some b->p b=false):(l.takeWhile p).length=k:=by
 have e:l=l.take k++l.drop k:=by simp
 have h1' : ∀a∈l.take k,p a=true:=by
  intro a ha;rw [adP] at ha;obtain ⟨j,hj,rfl⟩:=ha;exact h1 j (by omega) (by omega)
 rw [e,List.takeWhile_append_of_pos h1'];have:(l.drop k).takeWhile p=[]:=by
  cases hd:l.drop k with
  | nil=>rfl
  | cons b r=>
   have hb:l[k]? = some b:=by
    have:=congrArg (fun l=>l[0]?) hd;simpa using this
   rw [ab7,h2 b hb];rfl
 rw [this];simp;omega
end Uw.Tryz
namespace Uw.Tryz
open Go Uw
theorem wc {b:UInt8} (h:eZ b=true):48<=b.toNat/\b.toNat<=57:=by
 simp only [eZ,decide_eq_true_eq] at h;unfold cls at h
 repeat' split at h
 all_goals first|omega|cases h
def A2 (w:List UInt8):Int:=if 10<w.length\/(w.head? = some 48/\1<w.length) then -1 else if 4294967296<=sq w then -1 else ((sq w:Nat):Int)
theorem NK (w:List UInt8) (h:0<w.length):(w.head? = some 48)<->w[0].toNat=48:=by
 cases w with
 | nil=>simp at h
 | cons b r=>
  simp only [List.head?_cons,abL,List.getElem_cons_zero];constructor
  ·intro e;rw [e];rfl
  ·intro e;exact adF.1 e
end Uw.Tryz
namespace Uw.Tryz
open Go Uw
theorem lF (c:UInt8) (t:List UInt8) (h:cls c=1):dj (c::t)=if endOf (c::t)<=12 then some (1,endOf (c::t),0) else none:=by
 have e:endOf (c::t)=1+(t.takeWhile nameB).length:=by simp [endOf,h]
 rw [dj,if_pos h,e]
theorem lG (c:UInt8) (t:List UInt8) (h:cls c=5):dj (c::t)=some (3,endOf (c::t),0):=by
 rw [dj,if_neg (by omega),if_neg (by omega),if_pos h,ov c t h]
 split<;>rfl
theorem gQ (c:UInt8) (t:List UInt8) (h:cls c≠1) (h2:cls c≠2) (h3:cls c≠5):dj (c::t)=none:=by
 rw [dj,if_neg h,if_neg h2,if_neg h3]
theorem zn (c:UInt8) (t:List UInt8) (h:cls c=2):endOf (c::t)=1+(t.takeWhile eZ).length:=by simp [endOf,h]
theorem ub {α:Type} (p:α->Bool):∀(l:List α),l.drop (l.takeWhile p).length=l.dropWhile p
 | []=>rfl
 | y::r=>by
  rw [ab7,List.dropWhile_cons]
  split
  ·rw [abI,adu,ub p r]
  ·rfl
theorem take_takeWhile {α:Type} (p:α->Bool):∀(l:List α),l.take (l.takeWhile p).length=l.takeWhile p
 | []=>rfl
 | y::r=>by
  rw [ab7]
  split
  ·rw [abI,ac1,take_takeWhile p r]
  ·rfl
theorem yy (c:UInt8) (t:List UInt8) (h:cls c=2):(c::t).take (endOf (c::t))=c::t.takeWhile eZ:=by
 rw [zn c t h,ady,ac1,take_takeWhile]
theorem S7 (c:UInt8) (t:List UInt8) (h:cls c=2):(c::t).drop (endOf (c::t))=t.dropWhile eZ:=by
 rw [zn c t h,ady,adu,ub]
theorem all_takeWhile {α:Type} (p:α->Bool) (l:List α):(l.takeWhile p).all p=true:=by
 induction l with
 | nil=>rfl
 | cons y r ih=>
  rw [ab7]
  split
  ·rename_i h;simp [h]
  ·rfl
theorem NL (c:UInt8) (t:List UInt8) (h:cls c=2):((c::t).take (endOf (c::t))).all eZ=true:=by
 rw [yy c t h,ac8,all_takeWhile];simp [eZ,h]
theorem ox (c:UInt8) (t:List UInt8) (h:cls c=2):dj (c::t)=if 0<=A2 ((c::t).take (endOf (c::t)))/\I3 ((c::t).drop (endOf (c::t)))=false then some (2,endOf (c::t),A2 ((c::t).take (endOf (c::t)))) else none:=by
 rw [dj,if_neg (by omega),if_pos h,yy c t h,S7 c t h,zn c t h];have hc:(c.toNat=48)<->((c::t.takeWhile eZ).head? = some 48):=by rw [NK _ (by simp)];rfl
 have n1:(10<(t.takeWhile eZ).length+1\/c.toNat=48/\1<(t.takeWhile eZ).length+1)->A2 (c::t.takeWhile eZ) = -1:=fun h=>by
  rw [A2,if_pos (by rw [<- hc];exact h)]
 have n2:¬(10<(t.takeWhile eZ).length+1\/c.toNat=48/\1<(t.takeWhile eZ).length+1)->A2 (c::t.takeWhile eZ)=if 4294967296<=sq (c::t.takeWhile eZ) then -1 else ((sq (c::t.takeWhile eZ):Nat):Int):=fun h=>by
  rw [A2,if_neg (by rw [<- hc];exact h)]
 generalize A2 (c::t.takeWhile eZ)=R at n1 n2;by_cases h1:1+(t.takeWhile eZ).length<=10/\¬(1<1+(t.takeWhile eZ).length/\c.toNat=48)
 ·have n2:=n2 (by omega)
  by_cases h2:sq (c::t.takeWhile eZ)<4294967296
  ·rw [if_neg (by omega)] at n2
   by_cases h3:I3 (t.dropWhile eZ)=false
   ·rw [if_pos ⟨h1.1,h1.2,h2,h3⟩,if_pos ⟨by omega,h3⟩,n2]
   ·rw [if_neg (fun h=>h3 h.2.2.2),if_neg (fun h=>h3 h.2)]
  ·rw [if_pos (by omega)] at n2
   rw [if_neg (fun h=>h2 h.2.2.1),if_neg (fun h=>by have:=h.1;omega)]
 ·have n1:=n1 (by omega)
  rw [if_neg (fun h=>h1 ⟨h.1,h.2.1⟩),if_neg (fun h=>by have:=h.1;omega)]
theorem JY (c:UInt8) (t:List UInt8):1<=endOf (c::t)/\endOf (c::t)<=t.length+1:=by
 have h1:=mY nameB t;have h2:=mY eZ t;rw [endOf]
 split
 ·split
  ·rename_i h
   cases t with
   | nil=>simp [eqq] at h
   | cons b r=>simp
  ·omega
 ·split<;>omega
def Read (s:List UInt8) (a:Nat) (out:List Tok):Prop:=qC s 0=(qC (s.drop a) (a:Int)).map (out++·)
theorem Read.init (s:List UInt8):Read s 0 []:=by
 rw [Read,abC];simp
theorem Read.blank {s:List UInt8} {a:Nat} {out:List Tok} (h:Read s a out) (ha:a<s.length) (hb:cls s[a]=4):Read s (a+1) out:=by
 rw [Read,ab4 ha,LI _ _ _ hb] at h;rw [Read,h];rfl
theorem Read.none {s:List UInt8} {a:Nat} {out:List Tok} (h:Read s a out) (ha:a<s.length) (hb:cls s[a]≠4) (ht:dj (s.drop a)=none):qC s 0=none:=by
 rw [Read] at h;rw [h];rw [ab4 ha] at ht ⊢;rw [O6 _ _ _ hb ht];rfl
theorem Read.tok {s:List UInt8} {a:Nat} {out:List Tok} (h:Read s a out) (ha:a<s.length) (hb:cls s[a]≠4) {k:Int} {n:Nat} {v:Int} (ht:dj (s.drop a)=some (k,n,v)) :
  Read s (a+n) (out++[⟨k,(s.drop a).take n,v,a⟩]):=by
 rw [Read,h];rw [ab4 ha] at ht ⊢;rw [Rt _ _ _ hb ht,<- ab4 ha,ac6];rw [show ((a:Int)+(n:Int))=((a+n:Nat):Int) by omega]
 cases qC (s.drop (a+n)) ((a+n:Nat):Int) with
 | none=>rfl
 | some l=>simp
theorem Read.end {s:List UInt8} {a:Nat} {out:List Tok} (h:Read s a out) (ha:s.length<=a):qC s 0=some out:=by
 rw [Read] at h;rw [h,adX ha,Rr];simp
def EB (s:List UInt8):Dat:=if 4000<s.length then .tuple [.nil,I 2] else match qC s 0 with|none=>.tuple [.nil,I 3]|some l=>.tuple [Rq l,I 0]
theorem VO (s:List UInt8):DLe (EB s) (LJ (tN s)):=by
 rw [EB,tN];by_cases h:4000<s.length
 ·rw [if_pos h,if_pos h];exact .tuple (.cons (.nil 4) (.refl _))
 ·rw [if_neg h,if_neg h]
  cases qC s 0 with
  | none=>exact .tuple (.cons (.nil 4) (.refl _))
  | some l=>exact .refl _
theorem VP {s:List UInt8} {a n:Nat} (h:a+n<=s.length):((s.drop a).take n).length=n:=by simp;omega
end Uw.Tryz
namespace Uw.Tryz
open Go Uw
def uQ (r:Int):Bool:=decide ((97<=r/\r<=122)\/(65<=r/\r<=90))
def zo (r:Int):Bool:=decide (48<=r/\r<=57)
def D7 (r:Int):Bool:=decide (r=9\/r=10\/r=32)
theorem rI (r:Int):Ret P0 jC [.int .i32 r] (.bool (uQ r)):=by
 refine au pG rfl ?_
 repeat' first|refine aw ?_|refine bw (fun _=>?_) fun _=>?_
 all_goals
  refine aj (P:=P0) rfl rfl rfl rfl ?_;exact congrArg Dat.bool (ab6.2 (by simp only [decide_eq_true_eq,abV,uQ,zo,D7,eq_self,true_iff,abG,false_iff];omega))
theorem zX (r:Int):Ret P0 lg [.int .i32 r] (.bool (zo r)):=by
 refine au rl rfl ?_
 repeat' first|refine aw ?_|refine bw (fun _=>?_) fun _=>?_
 all_goals
  refine aj (P:=P0) rfl rfl rfl rfl ?_;exact congrArg Dat.bool (ab6.2 (by simp only [decide_eq_true_eq,abV,uQ,zo,D7,eq_self,true_iff,abG,false_iff];omega))
theorem JZ (r:Int):Ret P0 sX [.int .i32 r] (.bool (D7 r)):=by
 refine au xG rfl ?_
 repeat' first|refine aw ?_|refine bw (fun _=>?_) fun _=>?_
 all_goals
  refine aj (P:=P0) rfl rfl rfl rfl ?_;exact congrArg Dat.bool (ab6.2 (by simp only [decide_eq_true_eq,abV,uQ,zo,D7,eq_self,true_iff,abG,false_iff];omega))
theorem HE (r:Int):Ret P0 jD [.int .i32 r] (.bool (uQ r||zo r||decide (r=95))):=by
 have h1:=rI r;have h2:=zX r;refine au pI rfl ?_
 repeat' first|refine aw ?_|refine bw (fun _=>?_) fun _=>?_
 all_goals
  refine aj (P:=P0) rfl rfl rfl rfl ?_;exact congrArg Dat.bool (ab6.2 (by simp only [decide_eq_true_eq,abV,uQ,zo,D7,eq_self,true_iff,abG,false_iff];omega))
theorem D8 (r:Int):Ret P0 gn [.int .i32 r] (.bool (uQ r||decide (r=95))):=by
 have h1:=rI r;refine au lN rfl ?_
 repeat' first|refine aw ?_|refine bw (fun _=>?_) fun _=>?_
 all_goals
  refine aj (P:=P0) rfl rfl rfl rfl ?_;exact congrArg Dat.bool (ab6.2 (by simp only [decide_eq_true_eq,abV,uQ,zo,D7,eq_self,true_iff,abG,false_iff];omega))
theorem rJ (f:FuncId) (p:Int->Bool) (hb:mQ P0 f) (hf:∀r,Ret P0 f [.int .i32 r] (.bool (p r))) (hp:∀r,128<=r->p r=false) (s:List UInt8) (hs:s.length<1000000):Ret P0 iM [.str s,.func f] (I ((s.takeWhile (fun b=>p (b.toNat:Int))).length:Nat)):=by
 refine au zO rfl ?_
 repeat' first|refine aw ?_|refine bw (fun _=>?_) fun _=>?_
 refine dC (fun k:Nat=>⟨[(8,.hnd 0),(0,.d (.str s)),(1,.d (.func f))],[(0,.iter s k)],1,[],0⟩)
  (fun k=>k<=s.length/\∀(i:Nat) (hi:i<s.length),i<k->p (s[i].toNat:Int)=true) (fun k=>s.length - k) 0 (by exact Uw.wW) ⟨by omega,by intros;omega⟩ ?_
 rintro k ⟨h1,h2⟩;by_cases hk:k<s.length
 ·have hk' : s[k]? = some s[k]:=by simp [hk]
  have stop:p (s[k].toNat:Int)=false->(s.takeWhile (fun b=>p (b.toNat:Int))).length=k:=fun h=>yx _ s k h1 h2 (fun b hb=>by rw [hk'] at hb;injection hb with hb;rw [<- hb];exact h);by_cases hlow:s[k].toNat<128
  ·have hr:=vF s k s[k] hk' hlow
   have hr1:((bL s k).1:Int)=s[k].toNat:=by rw [hr]
   have hr2:(bL s k).2=1:=by rw [hr]
   have hfr:=hf ((bL s k).1:Int);rw [show p ((bL s k).1:Int)=p (s[k].toNat:Int) by rw [hr1]] at hfr;have hk1:k+(bL s k).2=k+1:=by rw [hr2]
   clear hr hr1
   cases hpk:p (s[k].toNat:Int) with
   | false=>
    rw [hpk] at hfr;have hst:=stop hpk;clear stop h2
    repeat' first|refine aw ?_|refine bw (fun _=>?_) fun _=>?_
    refine bK _ hb rfl hfr ?_
    repeat' first|refine aw ?_|refine bw (fun _=>?_) fun _=>?_
    exact aj (P:=P0) rfl rfl rfl rfl (by rw [hst];rfl)
   | true=>
    rw [hpk] at hfr;have h3:∀(i:Nat) (hi:i<s.length),i<k+(bL s k).2->p (s[i].toNat:Int)=true:=by
     intro i hi hik;by_cases e:i=k
     ·subst e;exact hpk
     ·exact h2 i hi (by omega)
    clear stop h2
    repeat' first|refine aw ?_|refine bw (fun _=>?_) fun _=>?_
    refine bK _ hb rfl hfr ?_
    repeat' first|refine aw ?_|refine bw (fun _=>?_) fun _=>?_
    exact aR (k+(bL s k).2) ⟨by omega,h3⟩ (by omega) (by exact Uw.wW)
  ·obtain ⟨a1,a2,a3,a4,a5⟩:=zC s k s[k] hk' (by omega)
   have hfr:=hf ((bL s k).1:Int);rw [hp _ (by omega)] at hfr;have hst:=stop (hp _ (by omega));clear stop h2 a5
   repeat' first|refine aw ?_|refine bw (fun _=>?_) fun _=>?_
   refine bK _ hb rfl hfr ?_
   repeat' first|refine aw ?_|refine bw (fun _=>?_) fun _=>?_
   exact aj (P:=P0) rfl rfl rfl rfl (by rw [hst];rfl)
 ·have hst:(s.takeWhile (fun b=>p (b.toNat:Int))).length=s.length:=by
   have e:k=s.length:=by omega
   exact yx _ s s.length (abu _) (fun j hj _=>h2 j hj (by omega)) (fun b hb=>by rw [abE (abu _)] at hb;cases hb)
  clear h2
  repeat' first|refine aw ?_|refine bw (fun _=>?_) fun _=>?_
  exact aj (P:=P0) rfl rfl rfl rfl (by rw [hst];rfl)
end Uw.Tryz
namespace Uw.Tryz
open Go Uw Go.Proofs Go.RowKit
theorem zY:∀(l:List UInt8) (n:Nat),l.all eZ=true->Lib.decFrom n l=some (l.foldl (fun n b=>10 * n+(b.toNat - 48)) n)
 | [],n,_=>rfl
 | b::r,n,h=>by
  rw [ac8,abq] at h;have hb:=wc h.1;rw [Lib.decFrom,Lib.digitVal,if_pos hb];simp only;rw [zY r _ h.2,acZ,Nat.mul_comm]
theorem S8 (l:List UInt8) (h0:l≠[]) (h:l.all eZ=true):Lib.atoi l=some (sq l:Nat):=by
 cases l with
 | nil=>exact absurd rfl h0
 | cons b r=>
  have hb:=wc (by rw [ac8,abq] at h;exact h.1);have h1:(b == 45)=false:=by
   rw [beq_eq_false_iff_ne];intro e;subst e;simp at hb
  have h2:(b == 43)=false:=by
   rw [beq_eq_false_iff_ne];intro e;subst e;simp at hb
  rw [Lib.atoi,h1,h2];simp only [abG,if_false];rw [Lib.decNat,zY _ _ h];rfl
theorem D9 (l:List UInt8) (h0:l≠[]) (h:l.all eZ=true) (hl:l.length<=18):Ret P0 CL [.str l] (.tuple [I (sq l:Nat),.nilIface]):=by
 intro w J vs hG hr;obtain ⟨v,vs',rfl,hv,hr⟩:=hr;simp only [aT] at hr;subst hr;simp only [aI] at hv;subst hv;refine (Tryz.strconv_Atoi ⟨l.toArray⟩ (sq l:Nat) (by simpa [ByteArray.size] using hl) (by simpa using S8 l h0 h) w).mono ?_;rintro e w' ⟨rfl,t,rfl⟩;exact ⟨_,rfl,⟨[_,_],rfl,⟨_,_,rfl,rfl,⟨_,_,rfl,rfl,rfl⟩⟩⟩,Lib.bytesWorld_below _ _ _⟩
theorem uR (s p:List UInt8):Ret P0 uy [.str s,.str p] (.bool (Lib.hasPrefix s p)):=by
 intro w J vs hG hr;obtain ⟨v,vs',rfl,hv,u,vs'',rfl,hu,hr⟩:=hr;simp only [aT] at hr;subst hr;simp only [aI] at hv hu;subst hv hu;refine (Tryz.strings_HasPrefix ⟨s.toArray⟩ ⟨p.toArray⟩ w).mono ?_;rintro e w' ⟨rfl,rfl⟩;exact ⟨_,rfl,rfl,Below.refl _ _⟩
theorem uS (s:List UInt8) (c:UInt8):Ret P0 uz [.str s,.int .u8 (c.toNat:Int)] (I (Lib.indexByte s c)):=by
 intro w J vs hG hr;obtain ⟨v,vs',rfl,hv,u,vs'',rfl,hu,hr⟩:=hr;simp only [aT] at hr;subst hr;simp only [aI] at hv hu;subst hv hu;refine (Tryz.strings_IndexByte ⟨s.toArray⟩ (c.toNat:Int) w).mono ?_;rintro e w' ⟨rfl,rfl⟩;refine ⟨_,rfl,?_,Below.refl _ _⟩;simp [aI]
theorem zZ (l:List UInt8) (h0:l≠[]) (h:l.all eZ=true) (hl:l.length<=18):Ret P0 tu [.str l] (I (sq l:Nat)):=by
 have ha:=D9 l h0 h hl;clear h h0;refine au x7 rfl ?_
 repeat' first|refine aw ?_|refine bw (fun _=>?_) fun _=>?_
 exact aj (P:=P0) rfl rfl rfl rfl rfl
end Uw.Tryz
namespace Uw.Tryz
open Go Uw Go.Proofs Go.RowKit
theorem Ea (b:UInt8):uQ (b.toNat:Int)=decide (cls b=1):=by
 refine ab6.2 ?_;simp only [uQ,decide_eq_true_eq];unfold cls;constructor
 ·intro h;rw [if_pos (by omega)]
 ·intro h
  split at h
  ·omega
  ·repeat' split at h
   all_goals omega
theorem Ko (b:UInt8):zo (b.toNat:Int)=decide (cls b=2):=by
 refine ab6.2 ?_;simp only [zo,decide_eq_true_eq];unfold cls;constructor
 ·intro h;rw [if_neg (by omega),if_pos (by omega)]
 ·intro h
  repeat' split at h
  all_goals omega
theorem NM (b:UInt8):decide ((b.toNat:Int)=95)=decide (cls b=3):=by
 refine ab6.2 ?_;simp only [decide_eq_true_eq];unfold cls;constructor
 ·intro h;rw [if_neg (by omega),if_neg (by omega),if_pos (by omega)]
 ·intro h
  repeat' split at h
  all_goals omega
theorem S9 (b:UInt8):D7 (b.toNat:Int)=decide (cls b=4):=by
 refine ab6.2 ?_;simp only [D7,decide_eq_true_eq];unfold cls;constructor
 ·intro h;rw [if_neg (by omega),if_neg (by omega),if_neg (by omega),if_pos (by omega)]
 ·intro h
  repeat' split at h
  all_goals omega
theorem PW (s:List UInt8) (hs:s.length<1000000):Ret P0 iM [.str s,.func jC] (I ((s.takeWhile (fun b=>decide (cls b=1))).length:Nat)):=by
 have:=rJ jC uQ pG.body rI (fun r hr=>by simp [uQ];omega) s hs;simpa only [Ea] using this
theorem Ta (s:List UInt8) (hs:s.length<1000000):Ret P0 iM [.str s,.func lg] (I ((s.takeWhile eZ).length:Nat)):=by
 have:=rJ lg zo rl.body zX (fun r hr=>by simp [zo];omega) s hs;simp only [Ko] at this;exact this
theorem VQ (s:List UInt8) (hs:s.length<1000000):Ret P0 iM [.str s,.func jD] (I ((s.takeWhile nameB).length:Nat)):=by
 have:=rJ jD (fun r=>uQ r||zo r||decide (r=95)) pI.body HE (fun r hr=>by simp [uQ,zo];omega) s hs;simp only [Ea,Ko,NM] at this;exact this
theorem PX (s:List UInt8) (hs:s.length<1000000):Ret P0 iM [.str s,.func gn] (I ((s.takeWhile (fun b=>decide (cls b=1)||decide (cls b=3))).length:Nat)):=by
 have:=rJ gn (fun r=>uQ r||decide (r=95)) lN.body D8 (fun r hr=>by simp [uQ];omega) s hs;simp only [Ea,NM] at this;exact this
def iQ (r:List UInt8):Nat:=match dj r with|some (k,n,_)=>if k=1 then n else 0|none=>0
def kj (r:List UInt8):Nat:=match dj r with|some (k,n,_)=>if k=2 then n else 0|none=>0
def oy (r:List UInt8):Nat:=match dj r with|some (k,n,_)=>if k=3 then n else 0|none=>0
theorem PY (c:UInt8) (t:List UInt8) (h:cls c≠1):iQ (c::t)=0:=by
 rw [iQ];by_cases h2:cls c=2
 ·rw [ox c t h2];split
  ·rename_i h3;split at h3
   ·simp at h3;simp [<- h3.1]
   ·cases h3
  ·rfl
 ·by_cases h5:cls c=5
  ·rw [lG c t h5];rfl
  ·rw [gQ c t h h2 h5]
theorem MB (c:UInt8) (t:List UInt8) (h:cls c=1):iQ (c::t)=if endOf (c::t)<=12 then endOf (c::t) else 0:=by
 rw [iQ,lF c t h];by_cases h2:endOf (c::t)<=12
 ·rw [if_pos h2,if_pos h2];rfl
 ·rw [if_neg h2,if_neg h2]
theorem MC (c:UInt8) (t:List UInt8) (hs:(c::t).length<1000000):Ret P0 fy [.str (c::t)] (I (iQ (c::t))):=by
 have h1:=PW (c::t) hs;have h2:=VQ (c::t) hs;by_cases h:cls c=1
 ·have e1:0<((c::t).takeWhile (fun b=>decide (cls b=1))).length:=by rw [ab7,if_pos (by simp [h])];simp
  have e2:((c::t).takeWhile nameB).length=endOf (c::t):=by rw [ab7,if_pos (by simp [nameB,h])];simp [endOf,h];omega
  have e3:=MB c t h;rw [e2] at h2;generalize endOf (c::t)=E at *;generalize ((c::t).takeWhile (fun b=>decide (cls b=1))).length=A at *;generalize iQ (c::t)=R at *;clear e2;generalize c::t=s at *;by_cases hE:E<=12
  ·rw [if_pos hE] at e3
   subst e3;refine au i6 rfl ?_
   repeat' first|refine aw ?_|refine bw (fun _=>?_) fun _=>?_
   exact aj (P:=P0) rfl rfl rfl rfl rfl
  ·rw [if_neg hE] at e3
   subst e3;refine au i6 rfl ?_
   repeat' first|refine aw ?_|refine bw (fun _=>?_) fun _=>?_
   exact aj (P:=P0) rfl rfl rfl rfl rfl
 ·have e1:((c::t).takeWhile (fun b=>decide (cls b=1))).length=0:=by rw [ab7,if_neg (by simp [h])];rfl
  rw [e1] at h1;have e3:=PY c t h;rw [e3];clear h2 e1 e3 h;generalize c::t=s at *;refine au i6 rfl ?_
  repeat' first|refine aw ?_|refine bw (fun _=>?_) fun _=>?_
  exact aj (P:=P0) rfl rfl rfl rfl rfl
theorem Tc (c:UInt8) (t:List UInt8) (h:cls c≠2):kj (c::t)=0:=by
 rw [kj];by_cases h2:cls c=1
 ·rw [lF c t h2];split
  ·rename_i h3;split at h3
   ·simp at h3;simp [<- h3.1]
   ·cases h3
  ·rfl
 ·by_cases h5:cls c=5
  ·rw [lG c t h5];rfl
  ·rw [gQ c t h2 h h5]
theorem PZ (c:UInt8) (t:List UInt8) (h:cls c=2):kj (c::t)=if 0<=A2 ((c::t).take (endOf (c::t)))/\I3 ((c::t).drop (endOf (c::t)))=false then endOf (c::t) else 0:=by
 rw [kj,ox c t h];by_cases h2:0<=A2 ((c::t).take (endOf (c::t)))/\I3 ((c::t).drop (endOf (c::t)))=false
 ·rw [if_pos h2,if_pos h2];rfl
 ·rw [if_neg h2,if_neg h2]
theorem VR (r:List UInt8):I3 r=decide (0<(r.takeWhile (fun b=>decide (cls b=1)||decide (cls b=3))).length):=by
 cases r with
 | nil=>rfl
 | cons b t=>
  rw [I3,ab7]
  cases decide (cls b=1)||decide (cls b=3)<;>simp
theorem HF (c:UInt8) (t:List UInt8) (hs:(c::t).length<1000000):Ret P0 ei [.str (c::t)] (I (kj (c::t))):=by
 have h1:=Ta (c::t) hs;by_cases h:cls c=2
 ·have e1:((c::t).takeWhile eZ).length=endOf (c::t):=by rw [ab7,if_pos (by simp [eZ,h])];simp [endOf,h];omega
  have hall:=NL c t h;have hle:=JY c t;have e3:=PZ c t h;rw [e1] at h1;have hl0:(c::t).length=t.length+1:=rfl;have hc0:∀hp:0<(c::t).length,(c::t)[0]'hp=c:=fun _=>rfl;have hhd:((c::t).take (endOf (c::t))).head? = some 48<->c.toNat=48:=by
   rw [yy c t h,NK _ (by simp)];rfl
  have h0:0<(c::t).length:=by simp
  generalize endOf (c::t)=E at *;clear e1;generalize kj (c::t)=R at *;generalize c::t=s at *;have hc0:=congrArg UInt8.toNat (hc0 h0);have hwl:(s.take E).length=E:=by simp;omega
  have hsp:=PX ((s.take s.length).drop E) (by simp;omega);have hlt:=VR (s.drop E);have e5:(s.take s.length).drop E=s.drop E:=by rw [acg]
  rw [<- e5] at e3 hlt;generalize I3 ((s.take s.length).drop E)=L at *;generalize (((s.take s.length).drop E).takeWhile (fun b=>decide (cls b=1)||decide (cls b=3))).length=A at *;have hnr:A2 (s.take E)=if 10<E\/(c.toNat=48/\1<E) then -1 else if 4294967296<=sq (s.take E) then -1 else ((sq (s.take E):Nat):Int):=by
   rw [A2,hwl];simp only [hhd]
  by_cases hb:10<E\/(c.toNat=48/\1<E)
  ·rw [if_pos hb] at hnr
   rw [if_neg (by rintro ⟨q,_⟩;omega)] at e3;subst e3;clear hsp hlt hall hhd e5 hnr;refine au eo rfl ?_
   repeat' first|refine aw ?_|refine bw (fun _=>?_) fun _=>?_
   all_goals exact aj (P:=P0) rfl rfl rfl rfl rfl
  ·rw [if_neg hb] at hnr
   have hv:=zZ ((s.take E).drop 0) (by rw [abC];intro e;rw [e] at hwl;simp at hwl;omega) (by rw [abC];exact hall) (by rw [abC,hwl];omega);rw [show sq ((s.take E).drop 0)=sq (s.take E) by rw [abC]] at hv;generalize sq (s.take E)=V at *;by_cases hA:0<A
   ·rw [decide_eq_true hA] at hlt
    rw [if_neg (by rintro ⟨_,q⟩;rw [hlt] at q;cases q)] at e3;subst e3;clear hall hhd e5 hnr;refine au eo rfl ?_
    repeat' first|refine aw ?_|refine bw (fun _=>?_) fun _=>?_
    all_goals exact aj (P:=P0) rfl rfl rfl rfl rfl
   ·rw [decide_eq_false hA] at hlt
    by_cases hV:4294967296<=V
    ·rw [if_pos hV] at hnr
     rw [if_neg (by rintro ⟨q,_⟩;omega)] at e3;subst e3;clear hall hhd e5 hnr hlt;refine au eo rfl ?_
     repeat' first|refine aw ?_|refine bw (fun _=>?_) fun _=>?_
     all_goals exact aj (P:=P0) rfl rfl rfl rfl rfl
    ·rw [if_neg hV] at hnr
     rw [if_pos ⟨by omega,hlt⟩] at e3;subst e3;clear hall hhd e5 hnr hlt;refine au eo rfl ?_
     repeat' first|refine aw ?_|refine bw (fun _=>?_) fun _=>?_
     all_goals exact aj (P:=P0) rfl rfl rfl rfl rfl
 ·have e1:((c::t).takeWhile eZ).length=0:=by rw [ab7,if_neg (by simp [eZ,h])];rfl
  rw [e1] at h1;rw [Tc c t h];clear e1 h;generalize c::t=s at *;refine au eo rfl ?_
  repeat' first|refine aw ?_|refine bw (fun _=>?_) fun _=>?_
  exact aj (P:=P0) rfl rfl rfl rfl rfl
end Uw.Tryz
namespace Uw.Tryz
open Go Uw Go.Proofs Go.RowKit
def HG:List UInt8:=[40,41,123,125,44,59,46,61,43,45,42,60]
theorem P1:∀n:Fin 256,decide (0<=Lib.indexByte HG (UInt8.ofNat n.val))=decide (cls (UInt8.ofNat n.val)=5):=by decide +kernel
theorem P2 (c:UInt8):0<=Lib.indexByte HG c<->cls c=5:=by
 have h:=P1 ⟨c.toNat,c.toNat_lt⟩;simp only [UInt8.ofNat_toNat] at h;exact decide_eq_decide.1 h
theorem MD (c:UInt8) (t:List UInt8):Lib.hasPrefix (c::t) [61,61]=(decide (c.toNat=61)&&eqq t):=by
 have key:∀b:UInt8,(61 == b)=decide (b.toNat=61):=by
  intro b;rw [ab6,beq_iff_eq,decide_eq_true_eq];exact ⟨fun h=>by rw [<- h];rfl,fun h=>(adF.1 (by rw [h];rfl)).symm⟩
 rw [Lib.hasPrefix]
 cases t with
 | nil=>simp [List.isPrefixOf,eqq]
 | cons b r=>simp only [List.isPrefixOf,eqq,key,Bool.and_true]
theorem F4 (c:UInt8) (t:List UInt8) (h:cls c=5):oy (c::t)=endOf (c::t):=by rw [oy,lG c t h];rfl
theorem Td (c:UInt8) (t:List UInt8) (h:cls c≠5):oy (c::t)=0:=by
 rw [oy];by_cases h1:cls c=1
 ·rw [lF c t h1];split
  ·rename_i h3;split at h3
   ·simp at h3;simp [<- h3.1]
   ·cases h3
  ·rfl
 ·by_cases h2:cls c=2
  ·rw [ox c t h2];split
   ·rename_i h3;split at h3
    ·simp at h3;simp [<- h3.1]
    ·cases h3
   ·rfl
  ·rw [gQ c t h1 h2 h]
theorem ME (c:UInt8) (t:List UInt8) (hs:(c::t).length<1000000):Ret P0 fB [.str (c::t)] (I (oy (c::t))):=by
 have h1:=uR (c::t) [61,61];have h2:=uS HG c;rw [MD] at h1;have h3:=P2 c;have h0:0<(c::t).length:=by simp
 have hc0:∀hp:0<(c::t).length,(c::t)[0]'hp=c:=fun _=>rfl;have hc0:=hc0 h0;have he:cls c=5->(decide (c.toNat=61)&&eqq t)=true->oy (c::t)=2:=fun h h'=>by
  simp at h';rw [F4 c t h,ov c t h,if_pos h']
 have he2:cls c=5->(decide (c.toNat=61)&&eqq t)=false->oy (c::t)=1:=fun h h'=>by
  rw [F4 c t h,ov c t h,if_neg (by rintro ⟨q1,q2⟩;rw [decide_eq_true q1,q2] at h';cases h')]
 have he3:cls c≠5->oy (c::t)=0:=Td c t;have h61:(decide (c.toNat=61)&&eqq t)=true->cls c=5:=fun h=>by
  simp at h;have:c=61:=adF.1 h.1;subst this;rfl
 generalize (decide (c.toNat=61)&&eqq t)=q at *;generalize oy (c::t)=R at *;generalize Lib.indexByte HG c=X at *;by_cases h5:cls c=5
 ·have hX:0<=X:=h3.2 h5
  cases q with
  | true=>
   have he:=he h5 rfl;subst he;clear h2 h3 hX he2 he3 h61 hc0;generalize c::t=s at *;refine au i7 rfl ?_
   repeat' first|refine aw ?_|refine bw (fun _=>?_) fun _=>?_
   exact aj (P:=P0) rfl rfl rfl rfl rfl
  | false=>
   have he:=he2 h5 rfl;subst he;clear he2 he3 h61;rw [<- hc0] at h2;clear hc0 h3;generalize c::t=s at *;refine au i7 rfl ?_
   repeat' first|refine aw ?_|refine bw (fun _=>?_) fun _=>?_
   exact aj (P:=P0) rfl rfl rfl rfl rfl
 ·have hX:¬0<=X:=fun h=>h5 (h3.1 h)
  have he:=he3 h5;subst he
  cases q with
  | true=>exact absurd (h61 rfl) h5
  | false=>
   clear he2 he3 h61;rw [<- hc0] at h2;clear hc0 h3;generalize c::t=s at *;refine au i7 rfl ?_
   repeat' first|refine aw ?_|refine bw (fun _=>?_) fun _=>?_
   exact aj (P:=P0) rfl rfl rfl rfl rfl
def lQ (r:List UInt8):Tok×Bool:=match dj r with|none=>(⟨0,[],0,0⟩,false)|some (k,n,v)=>(⟨k,r.take n,v,0⟩,true)
def Tf (x:Tok×Bool):Dat:=.tuple [.agg (UW x.1),.bool x.2]
def Ti:Dat:=.slice 2 [[I 1,.func fy],[I 2,.func ei],[I 3,.func fB]] false
theorem Kp {r:List UInt8} {k:Int} {n:Nat} {v:Int} (h:dj r=some (k,n,v)) :
  (k=1/\v=0/\n<=12)\/(k=2/\v=(sq (r.take n):Nat)/\(r.take n).all eZ=true/\n<=10/\v<4294967296)\/(k=3/\v=0/\n<=2):=by
 cases r with
 | nil=>simp [dj] at h
 | cons c t=>
  by_cases h1:cls c=1
  ·rw [lF c t h1] at h
   split at h
   ·simp only [abL,acw] at h;omega
   ·cases h
  ·by_cases h2:cls c=2
   ·have ha:=NL c t h2
    rw [ox c t h2] at h
    split at h
    ·rename_i hc
     simp only [abL,acw] at h;obtain ⟨q1,q2,q3⟩:=h;have hc:=hc.1;have hel:=JY c t;rw [q2] at ha hc q3 hel;have hl:((c::t).take n).length=n:=by simp;omega
     rw [A2] at q3 hc
     split at hc
     ·omega
     ·rename_i q4
      rw [if_neg q4] at q3
      split at hc
      ·omega
      ·rename_i q5
       rw [if_neg q5] at q3;right;left;exact ⟨q1.symm,q3.symm,ha,by omega,by omega⟩
    ·cases h
   ·by_cases h5:cls c=5
    ·rw [lG c t h5] at h
     simp only [abL,acw] at h;have:=ov c t h5
     split at this<;>omega
    ·rw [gQ c t h1 h2 h5] at h;cases h
theorem Kq (r:List UInt8):(iQ r≠0->lQ r=(⟨1,r.take (iQ r),0,0⟩,true)/\iQ r<=r.length)/\
  (iQ r=0->kj r≠0->lQ r=(⟨2,r.take (kj r),(sq (r.take (kj r)):Nat),0⟩,true)/\(r.take (kj r)).all eZ=true/\kj r<=10/\kj r<=r.length)/\
  (iQ r=0->kj r=0->oy r≠0->lQ r=(⟨3,r.take (oy r),0,0⟩,true)/\oy r<=r.length)/\(iQ r=0->kj r=0->oy r=0->lQ r=(⟨0,[],0,0⟩,false)):=by
 rw [iQ,kj,oy,lQ]
 cases h:dj r with
 | none=>simp
 | some x=>
  obtain ⟨k,n,v⟩:=x;have hn:=ui h
  rcases Kp h with ⟨rfl,rfl,_⟩|⟨rfl,rfl,h2,h3,_⟩|⟨rfl,rfl,_⟩
  ·simp only [if_true]
   exact ⟨fun _=>⟨trivial,hn.2⟩,fun h=>by omega,fun h=>by omega,fun h=>by omega⟩
  ·simp only [show ¬(2:Int)=1 by omega,if_false,if_true]
   exact ⟨fun h=>by omega,fun _ _=>⟨trivial,h2,h3,hn.2⟩,fun _ h=>by omega,fun _ h=>by omega⟩
  ·simp only [show ¬(3:Int)=1 by omega,show ¬(3:Int)=2 by omega,if_false,if_true]
   exact ⟨fun h=>by omega,fun _ h=>by omega,fun _ _ _=>⟨trivial,hn.2⟩,fun _ _ h=>by omega⟩
theorem Kr (c:UInt8) (t:List UInt8) (hs:(c::t).length<1000000):Ret P0 oQ [Ti,.str (c::t)] (Tf (lQ (c::t))):=by
 have h1:=MC c t hs;have h2:=HF c t hs;have h3:=ME c t hs;obtain ⟨f1,f2,f3,f4⟩:=Kq (c::t);have hv:=fun (q:(iQ (c::t)=0/\kj (c::t)≠0))=>zZ (((c::t).take (kj (c::t))).drop 0) (by rw [abC];intro e;have:=congrArg List.length e;rw [acU] at this;have:=(f2 q.1 q.2).2.2.2;simp at *;omega) (by rw [abC];exact (f2 q.1 q.2).2.1) (by rw [abC,acU];have:=(f2 q.1 q.2).2.2.1;omega);simp only [abC] at hv;generalize iQ (c::t)=A at *;generalize kj (c::t)=B at *;generalize oy (c::t)=C at *;generalize lQ (c::t)=R at *;generalize c::t=s at *;refine au xH rfl ?_
 repeat' first|refine aw ?_|refine bw (fun _=>?_) fun _=>?_
 refine dC (fun k:Nat=>⟨[(12,.d (I k)),(11,.d (I (↑[[I 1,Dat.func fy],[I 2,Dat.func ei],[I 3,Dat.func fB]].length))),(10,.d Ti),(4,.ptr 0 0),(1,.d (.str s))],[(0,.var [.d (I 0),.d (.str []),.d (I 0),.d (I 0)])],1,[],0⟩)
  (fun k=>k<=3/\(1<=k->A=0)/\(2<=k->B=0)/\(3<=k->C=0)) (fun k=>3 - k) 0 (by exact Uw.wW) (by omega) ?_
 rintro k ⟨k1,k2,k3,k4⟩;have hk:k=0\/k=1\/k=2\/k=3:=by omega
 rcases hk with rfl|rfl|rfl|rfl
 ·by_cases hA:A=0
  ·clear f1 f2 f3 f4 hv
   subst hA
   repeat' first|refine aw ?_|refine bw (fun _=>?_) fun _=>?_
   refine aF _ rfl ?_
   repeat' first|refine aw ?_|refine bw (fun _=>?_) fun _=>?_
   refine bK _ i6.body rfl h1 ?_
   repeat' first|refine aw ?_|refine bw (fun _=>?_) fun _=>?_
   exact aR 1 (by omega) (by omega) (by exact Uw.wW)
  ·obtain ⟨e,hle⟩:=f1 hA
   subst e;clear f1 f2 f3 f4 hv
   repeat' first|refine aw ?_|refine bw (fun _=>?_) fun _=>?_
   refine aF _ rfl ?_
   repeat' first|refine aw ?_|refine bw (fun _=>?_) fun _=>?_
   refine bK _ i6.body rfl h1 ?_
   repeat' first|refine aw ?_|refine bw (fun _=>?_) fun _=>?_
   refine br ⟨[(7,.ptr 1 0),(9,.ptr 2 0),(4,.ptr 0 0)],[(2,.var [.d (I 1),.d (.str ((s.take A).drop 0)),.d (I 0),.d (I 0)]),(1,.var [.d (I 1),.d (.func fy)]),(0,.var [.d (I 0),.d (.str []),.d (I 0),.d (I 0)])],3,[],0⟩ ?_ ?_
   ·repeat' first|refine aw ?_|refine bw (fun _=>?_) fun _=>?_
    exact al (.inl ⟨rfl,by exact Uw.wW⟩)
   ·repeat' first|refine aw ?_|refine bw (fun _=>?_) fun _=>?_
    exact cD (aj (P:=P0) rfl rfl rfl rfl rfl)
 ·have hA:=k2 (by omega)
  by_cases hB:B=0
  ·clear f1 f2 f3 f4 hv
   subst hB
   repeat' first|refine aw ?_|refine bw (fun _=>?_) fun _=>?_
   refine aF _ rfl ?_
   repeat' first|refine aw ?_|refine bw (fun _=>?_) fun _=>?_
   refine bK _ eo.body rfl h2 ?_
   repeat' first|refine aw ?_|refine bw (fun _=>?_) fun _=>?_
   exact aR 2 (by omega) (by omega) (by exact Uw.wW)
  ·obtain ⟨e,q1,q2,hle⟩:=f2 hA hB
   have hv:=hv ⟨hA,hB⟩;subst e;clear f1 f2 f3 f4
   repeat' first|refine aw ?_|refine bw (fun _=>?_) fun _=>?_
   refine aF _ rfl ?_
   repeat' first|refine aw ?_|refine bw (fun _=>?_) fun _=>?_
   refine bK _ eo.body rfl h2 ?_
   repeat' first|refine aw ?_|refine bw (fun _=>?_) fun _=>?_
   refine br ⟨[(7,.ptr 1 0),(9,.ptr 2 0),(4,.ptr 0 0)],[(2,.var [.d (I 2),.d (.str ((s.take B).drop 0)),.d (I 0),.d (I 0)]),(1,.var [.d (I 2),.d (.func ei)]),(0,.var [.d (I 0),.d (.str []),.d (I 0),.d (I 0)])],3,[],0⟩ ?_ ?_
   ·repeat' first|refine aw ?_|refine bw (fun _=>?_) fun _=>?_
    exact al (.inl ⟨rfl,by exact Uw.wW⟩)
   ·repeat' first|refine aw ?_|refine bw (fun _=>?_) fun _=>?_
    exact cD (aj (P:=P0) rfl rfl rfl rfl rfl)
 ·have hA:=k2 (by omega)
  have hB:=k3 (by omega);by_cases hC:C=0
  ·clear f1 f2 f3 f4 hv
   subst hC
   repeat' first|refine aw ?_|refine bw (fun _=>?_) fun _=>?_
   refine aF _ rfl ?_
   repeat' first|refine aw ?_|refine bw (fun _=>?_) fun _=>?_
   refine bK _ i7.body rfl h3 ?_
   repeat' first|refine aw ?_|refine bw (fun _=>?_) fun _=>?_
   exact aR 3 (by omega) (by omega) (by exact Uw.wW)
  ·obtain ⟨e,hle⟩:=f3 hA hB hC
   subst e;clear f1 f2 f3 f4 hv
   repeat' first|refine aw ?_|refine bw (fun _=>?_) fun _=>?_
   refine aF _ rfl ?_
   repeat' first|refine aw ?_|refine bw (fun _=>?_) fun _=>?_
   refine bK _ i7.body rfl h3 ?_
   repeat' first|refine aw ?_|refine bw (fun _=>?_) fun _=>?_
   refine br ⟨[(7,.ptr 1 0),(9,.ptr 2 0),(4,.ptr 0 0)],[(2,.var [.d (I 3),.d (.str ((s.take C).drop 0)),.d (I 0),.d (I 0)]),(1,.var [.d (I 3),.d (.func fB)]),(0,.var [.d (I 0),.d (.str []),.d (I 0),.d (I 0)])],3,[],0⟩ ?_ ?_
   ·repeat' first|refine aw ?_|refine bw (fun _=>?_) fun _=>?_
    exact al (.inl ⟨rfl,by exact Uw.wW⟩)
   ·repeat' first|refine aw ?_|refine bw (fun _=>?_) fun _=>?_
    exact cD (aj (P:=P0) rfl rfl rfl rfl rfl)
 ·have hA:=k2 (by omega)
  have hB:=k3 (by omega);have hC:=k4 (by omega);have e:=f4 hA hB hC;subst e;clear f1 f2 f3 f4 hv k2 k3 k4
  repeat' first|refine aw ?_|refine bw (fun _=>?_) fun _=>?_
  exact aj (P:=P0) rfl rfl rfl rfl rfl
end Uw.Tryz
namespace Uw.Tryz
open Go Uw Go.Proofs Go.RowKit
theorem Ag {r:List UInt8} (h:dj r=none):lQ r=(⟨0,[],0,0⟩,false):=by rw [lQ,h]
theorem Ks {r:List UInt8} {k:Int} {n:Nat} {v:Int} (h:dj r=some (k,n,v)):lQ r=(⟨k,r.take n,v,0⟩,true):=by rw [lQ,h]
theorem P3 {b:UInt8} (h:nameB b=true):b.toNat<128:=by
 simp only [nameB,abV,decide_eq_true_eq] at h;unfold cls at h
 repeat' split at h
 all_goals omega
theorem BD {b:UInt8} (h:cls b≠0):b.toNat<128:=by
 unfold cls at h
 repeat' split at h
 all_goals omega
theorem vo {α:Type} (p:α->Bool) (l:List α):∀x∈l.takeWhile p,p x=true:=aby.1 (all_takeWhile p l)
theorem VS {r:List UInt8} {k:Int} {n:Nat} {v:Int} (h:dj r=some (k,n,v)):∀b∈r.take n,b.toNat<128:=by
 cases r with
 | nil=>simp [dj] at h
 | cons c t=>
  by_cases h1:cls c=1
  ·rw [lF c t h1] at h
   have e:endOf (c::t)=1+(t.takeWhile nameB).length:=by simp [endOf,h1]
   split at h
   ·simp only [abL,acw] at h
    rw [<- h.2.1,e,ady,ac1,take_takeWhile];intro b hb
    rcases abY.1 hb with rfl|hb
    ·exact BD (by omega)
    ·exact P3 (vo _ _ b hb)
   ·cases h
  ·by_cases h2:cls c=2
   ·have hd:=yy c t h2
    rw [ox c t h2] at h
    split at h
    ·simp only [abL,acw] at h
     rw [<- h.2.1,hd];intro b hb
     rcases abY.1 hb with rfl|hb
     ·exact BD (by omega)
     ·have:=wc (vo _ _ b hb);omega
    ·cases h
   ·by_cases h5:cls c=5
    ·have he:=ov c t h5
     rw [lG c t h5] at h;simp only [abL,acw] at h;rw [<- h.2.1,he];intro b hb
     split at hb
     ·rename_i q
      cases t with
      | nil=>simp [eqq] at q
      | cons d u=>
       simp only [eqq,decide_eq_true_eq] at q;simp at hb
       rcases hb with rfl|rfl<;>omega
     ·simp at hb;subst hb;exact BD (by omega)
    ·rw [gQ c t h1 h2 h5] at h;cases h
def NN (s:List UInt8) (k b:Nat):Prop:=∀i,k<=i->i<b->∀c,s[i]? = some c->c.toNat<128
theorem Kt (s:List UInt8) (hs:s.length<1000000):Ret P0 oO [.str s] (LJ (tN s)):=by
 refine Ret.res (r:=EB s) ?_ (VO s);by_cases h4:4000<s.length
 ·have e:EB s = .tuple [.nil,I 2]:=by rw [EB,if_pos h4]
  rw [e];refine au rj rfl ?_
  repeat' first|refine aw ?_|refine bw (fun _=>?_) fun _=>?_
  exact aj (P:=P0) rfl rfl rfl rfl rfl
 ·have bad:qC s 0=none->EB s = .tuple [.nil,I 3]:=fun h=>by rw [EB,if_neg h4,h]
  have good:∀l,qC s 0=some l->EB s = .tuple [Rq l,I 0]:=fun l h=>by rw [EB,if_neg h4,h]
  generalize EB s=R at bad good;refine au rj rfl ?_
  repeat' first|refine aw ?_|refine bw (fun _=>?_) fun _=>?_
  refine dC (fun ((k,b,n,xs):Nat×Nat×Nat×List (List Dat))=>⟨[(19,.hnd 0),(6,.d (I b)),(5,.ref 1 0 0 n),(4,.d (Dat.slice 2 ((((List.replicate 3 [Dat.int IntKind.i64 0,Dat.nilFunc]).set 0 [Dat.int IntKind.i64 1,Dat.func fy]).set 1 [Dat.int IntKind.i64 2,Dat.func ei]).set 2 [Dat.int IntKind.i64 3,Dat.func fB]) true)),(0,.d (.str s))],[(1,.arr 4 xs),(0,.iter s k)],2,[],0⟩)
   (fun (k,b,n,xs)=>k<=s.length/\b<=s.length/\n=xs.length/\n<=b/\n<=k/\NN s k b/\∃out,xs=out.map UW/\Read s (max k b) out) (fun (k,_)=>s.length - k) (0,0,0,[]) (by exact Uw.wW) ⟨by omega,by omega,rfl,by omega,by omega,by intro i h1 h2;omega,[],rfl,Read.init s⟩ ?_
  rintro ⟨k,b,n,xs⟩ ⟨h1,h2,h3,h3',aa0,hlow,out,h5,h6⟩;by_cases hk:k<s.length
  ·have hk' : s[k]? = some s[k]:=by simp [hk]
   have hd:s.drop k=s[k]::s.drop (k+1):=ab4 hk;by_cases hkb:k<b
   ·have hl:=hlow k (abu _) hkb s[k] hk'
    have hr:=vF s k s[k] hk' hl;have hr2:(bL s k).2=1:=by rw [hr]
    clear hr;have hm:max (k+(bL s k).2) b=max k b:=by omega
    have h7:Read s (max (k+(bL s k).2) b) out:=by rw [hm];exact h6
    have hl2:NN s (k+(bL s k).2) b:=fun i q1 q2=>hlow i (by omega) q2;clear good bad h6 hd hlow
    repeat' first|refine aw ?_|refine bw (fun _=>?_) fun _=>?_
    exact aR (k+(bL s k).2,b,n,xs) ⟨by omega,h2,h3,h3',by omega,hl2,out,h5,h7⟩ (by simp only;omega) (by exact Uw.wW)
   ·have hm:max k b=k:=by omega
    rw [hm] at h6;have hbl:=JZ ((bL s k).1:Int);have hfi:=(Kr s[k] (s.drop (k+1)) (by rw [<- hd];simp;omega)).args (ds:=[.slice 2 [[I 1,.func fy],[I 2,.func ei],[I 3,.func fB]] true,.str (s[k]::s.drop (k+1))]) (.cons (.slice (.refl _)) (.refl _));rw [<- hd] at hfi;have VT : Ret P0 oQ [.slice 2 [[I 1,.func fy],[I 2,.func ei],[I 3,.func fB]] true,.str ((s.take s.length).drop k)] (Tf (lQ (s.drop k))):=by rw [acg];exact hfi
    clear hfi;by_cases hl:s[k].toNat<128
    ·have hr:=vF s k s[k] hk' hl
     have hr1:((bL s k).1:Int)=s[k].toNat:=by rw [hr]
     have hr2:(bL s k).2=1:=by rw [hr]
     clear hr;rw [show D7 ((bL s k).1:Int)=decide (cls s[k]=4) by rw [hr1,S9]] at hbl;by_cases k4:cls s[k]=4
     ·rw [decide_eq_true k4] at hbl
      have h7:Read s (max (k+(bL s k).2) b) out:=by rw [hr2,show max (k+1) b=k+1 by omega];exact h6.blank hk k4
      have hl2:NN s (k+(bL s k).2) b:=fun i q1 q2=>by omega
      clear good bad h6 hd hlow VT
      repeat' first|refine aw ?_|refine bw (fun _=>?_) fun _=>?_
      exact aR (k+(bL s k).2,b,n,xs) ⟨by omega,h2,h3,h3',by omega,hl2,out,h5,h7⟩ (by simp only;omega) (by exact Uw.wW)
     ·rw [decide_eq_false k4] at hbl
      cases ht:dj (s.drop k) with
      | none=>
       rw [Ag ht] at VT;have hb:=bad (h6.none hk k4 ht);subst hb;clear good bad h6 hd hlow ht
       repeat' first|refine aw ?_|refine bw (fun _=>?_) fun _=>?_
       exact cD (aj (P:=P0) rfl rfl rfl rfl rfl)
      | some x=>
       obtain ⟨K,N,v⟩:=x;rw [Ks ht] at VT;have hn:=ui ht;have hlw:=VS ht;have h8:=h6.tok hk k4 ht;have hN:k+N<=s.length:=by have:=hn.2;simp at this;omega
       have hxl:((s.drop k).take N).length=N:=VP hN;have h7:Read s (max (k+(bL s k).2) (k+N)) (out++[⟨K,(s.drop k).take N,v,k⟩]):=by rw [hr2,show max (k+1) (k+N)=k+N by omega];exact h8
       have hl2:NN s (k+(bL s k).2) (k+N):=by
        intro i q1 q2 c hc;refine hlw c ?_;rw [adP];refine ⟨i - k,by simp;have:=(abQ.1 hc).1;omega,?_⟩;rw [adB];have:=(abQ.1 hc).2;simp only [show k+(i - k)=i by omega];exact this
       generalize (s.drop k).take N=w at *;clear good bad h6 hd hlow ht h8 hlw;have hen:(k:Int)+(w.length:Int)=((k+N:Nat):Int):=by omega
       repeat' first|refine aw ?_|refine bw (fun _=>?_) fun _=>?_
       refine aR (k+(bL s k).2,k+N,n+1,xs++[[I K,.str w,I v,I k]]) ⟨by omega,hN,by simp [h3],by omega,by omega,hl2,out++[⟨K,w,v,k⟩],?_,h7⟩ (by simp only;omega) (by exact Uw.wW);rw [h5];simp [UW]
    ·obtain ⟨a1,a2,a3,a4,a5⟩:=zC s k s[k] hk' (by omega)
     have hc0:cls s[k]=0:=by
      by_cases h:cls s[k]=0
      ·exact h
      ·exact absurd (BD h) hl
     have ht:dj (s.drop k)=none:=by rw [hd];exact gQ _ _ (by omega) (by omega) (by omega)
     rw [show D7 ((bL s k).1:Int)=false by simp [D7];omega] at hbl;rw [Ag ht] at VT;have hb:=bad (h6.none hk (by omega) ht);subst hb;clear good bad h6 hd hlow ht a5
     repeat' first|refine aw ?_|refine bw (fun _=>?_) fun _=>?_
     exact cD (aj (P:=P0) rfl rfl rfl rfl rfl)
  ·have hg:=good out (h6.end (by omega))
   subst hg;clear good bad h6 hlow
   repeat' first|refine aw ?_|refine bw (fun _=>?_) fun _=>?_
   exact aj (P:=P0) rfl rfl rfl rfl (by rw [Xq h3 h5];rfl)
end Uw.Tryz
namespace Uw.Tryz
open Go Uw
def elT:List UInt8:=[99,101,108,108,32,120,59,32,102,117,110,99,32,102,40,97,41,32,123,32,120,32,61,32,120,32,43,32,97,59,32,114,101,116,117,114,110,32,53,59,32,125,32,102,117,110,99,32,109,97,105,110,40,41,32,123,32,120,32,61,32,49,59,32,97,32,61,32,115,112,97,119,110,32,102,40,50,41,59,32,114,101,116,117,114,110,32,97,32,43,32,120,59,32,125]
def elP:Pg:=(ofR elT).1
def Ym (f:FuncId) (ds:List Dat):Option Dat:=
 match Nat.beq f oO,ds with
 | true,[.str s]=>match Nat.blt s.length 1000000 with
  | true=>some (LJ (tN s))
  | false=>none
 | _,_=>match Nat.beq f bn&&CJ ds [pgD elP] with
  | true=>some (ae (fC elP))
  | false=>match Nat.beq f dt,ds with
   | true,[.slice 1 [] false]=>some (.slice 1 [] false)
   | _,_=>none
def aaF:List (Nat×aP):=[(wR,wS),(dY,rQ),(CU,CV),(wV,wX),(iF,rR),(lL,rS),(dt,sR),(oO,zH),(va,vd),(jz,jA),(zI,zJ),(qf,qg),(nG,sW),(qh,qi),(eO,oP),(fK,rT),(fL,rU),(fy,Dh),(ei,xF),(fB,Di),(sX,zM),(oQ,zN),(lU,lV),(lW,lX),(ja,jc),(s4,s5),(s6,s7),(s9,tf),(kU,kV),(kW,kX),(lY,lZ),(l4,l5),(l6,l7),(tm,tn),(kY,kZ),(l8,l9),(eV,qk),(eW,ql),(eX,qm),(iM,Dj),(jC,x5),(jD,x6),(lg,zP),(gn,tt),(tu,zQ),(mf,mg),(mh,mj),(mq,mr),(mA,mB),(nI,nJ),(gU,gV),(lh,li),(tC,tD),(o7,o8),(qp,qq),(vk,vm),(jE,jF),(lj,ll),(ln,lq),(iw,ix),(nM,nN),(ya,yb),(qu,qw),(tG,tH),(qx,qy),(j6,j7),(nO,nP),(cm,mC),(lr,lu),(j8,j9),(o9,pa),(mD,mE),(lv,lw),(ka,kb),(gW,gX),(kc,kd),(nR,nS),(jG,jH),(nT,nU),(mF,mG),(lx,ly),(nV,nW),(mH,mI),(jI,jJ),(iy,iz),(jK,jL),(gq,gw)]
def Wx:List (Nat×yS):=[(xj,xl)]
def isE:Nat->List V->Bool
 | k,[.d (.slice k' [] false)]=>Nat.beq k k'
 | _,_=>false
def Yn (f:FuncId) (vs:List V) (h:Heap) (nx:Nat):Option (Res×Heap×Nat):=
 match Nat.beq f dt&&isE 1 vs with
 | true=>some (.val (.ref nx 1 0 0),(nx,.mt 1 1 [])::h,nx+1)
 | false=>match Nat.beq f fL&&isE 2 vs with
  | true=>some (.val (.ref nx 1 0 0),(nx,.mt 2 1 [])::h,nx+1)
  | false=>none
end Uw.Tryz
namespace Uw.Tryz.El
open Go Uw Uw.Tryz
def elC:Cd:=⟨[⟨1,1,[⟨4,0,0,0⟩,⟨2,0,0,0⟩,⟨6,0,0,0⟩,⟨5,0,0,0⟩,⟨1,5,0,0⟩,⟨17,0,0,0⟩,⟨1,0,0,0⟩,⟨17,0,0,0⟩]⟩,⟨0,1,[⟨1,1,0,0⟩,⟨5,0,0,0⟩,⟨1,2,0,0⟩,⟨13,0,1,0⟩,⟨2,0,0,0⟩,⟨4,0,0,0⟩,⟨6,0,0,0⟩,⟨17,0,0,0⟩,⟨1,0,0,0⟩,⟨17,0,0,0⟩]⟩],[0],0,0,0,1⟩
def elW:Wd:=⟨[3],[],[],[],[⟨0,[],0,0,⟨1,0,1,0⟩,0,false⟩,⟨1,[0],0,0,⟨0,0,0,0⟩,1,false⟩,⟨1,[0],0,0,⟨1,0,3,0⟩,0,false⟩,⟨3,[],0,0,⟨0,0,0,0⟩,3,false⟩],[⟨1,0,1,2,3⟩,⟨2,1,0,0,3⟩,⟨3,2,0,0,3⟩],4,[8,5],14,[]⟩
theorem Tj:(ua elC).2=0:=by kernel_rfl
theorem HI:fS elC=(elW,0):=by kernel_rfl
theorem Ku:t7 elC=true:=by kernel_rfl
theorem Yo:Ret P0 dN [cdD elC] (FY elW []):=by
 have hR:=lP elC (by decide) (by decide);rw [Ku] at hR;have h:=yr elC (JV Ku) hR Tj (by rw [HI]) [] (by rw [HI];rfl) (by rw [HI];have:=NG [] (by simp) (by decide);rw [show jQ []=[] by simp [jQ]] at this;exact this);rw [HI] at h;exact h
def noC:Cd:=⟨[],[],0,0,0,0⟩
theorem VU:Ret P0 dN [cdD noC] (PN 1):=by
 have hR:=lP noC (by decide) (by decide);rw [show t7 noC=false by kernel_rfl] at hR;exact yq noC hR
def Yp (f:FuncId) (ds:List Dat):Option Dat:=
 match Nat.beq f dN&&CJ ds [cdD elC] with
 | true=>some (FY elW [])
 | false=>match Nat.beq f dN&&CJ ds [cdD noC] with
  | true=>some (PN 1)
  | false=>Ym f ds
theorem yz {f n:Nat} {b:Bool} (h:(Nat.beq f n&&b)=true):f=n/\b=true:=by
 rw [abq] at h;exact ⟨abr h.1,h.2⟩
theorem P4:mZ elP=true:=by kernel_rfl
theorem Yq:Lim elP:=⟨by decide +kernel,by decide +kernel,by decide +kernel,by decide +kernel,by decide +kernel⟩
theorem VX (f:FuncId) (ds:List Dat) (r:Dat) (h:Ym f ds=some r):Ret P0 f ds r:=by
 unfold Ym at h
 split at h
 ·rename_i hf
  have hf:=abr hf
  split at h
  ·rename_i hl
   injection h with h
   subst h hf;exact Kt _ (by rw [Nat.blt_eq] at hl;exact hl)
  ·cases h
 ·split at h
  ·rename_i he
   obtain ⟨rfl,hl⟩:=yz he;injection h with h
   subst h;exact (Dv elP P4 Yq).args (rb _ _ hl)
  ·split at h
   ·have hf:Nat.beq f dt=true:=by assumption
    have hf:=abr hf;injection h with h
    subst h hf;exact dw [] (by decide)
   ·cases h
theorem VY (f:FuncId) (ds:List Dat) (r:Dat) (h:Yp f ds=some r):Ret P0 f ds r:=by
 unfold Yp at h
 split at h
 ·rename_i he
  obtain ⟨rfl,hl⟩:=yz he;injection h with h
  subst h;exact Yo.args (rb _ _ hl)
 ·split at h
  ·rename_i he
   obtain ⟨rfl,hl⟩:=yz he;injection h with h
   subst h;exact VU.args (rb _ _ hl)
  ·exact VX f ds r h
theorem Tm {k:Nat} {vs:List V} (h:isE k vs=true):vs=[.d (.slice k [] false)]:=by
 unfold isE at h
 split at h
 ·rw [abr h]
 ·cases h
theorem VZ (f:FuncId) (vs:List V) (h:Heap) (nx:Nat) (r:Res) (h' : Heap) (n' : Nat) (e:Yn f vs h nx=some (r,h',n')):bQ P0 f vs h nx fun r2 h2 n2=>r2=r/\h2=h'/\n2=n':=by
 unfold Yn at e
 split at e
 ·rename_i he
  obtain ⟨rfl,hl⟩:=yz he;injection e with e
  injection e with e1 e2
  injection e2 with e2 e3
  subst e1 e2 e3;rw [Tm hl];exact Vm.cB [] (by decide) h nx
 ·split at e
  ·rename_i he
   obtain ⟨rfl,hl⟩:=yz he;injection e with e
   injection e with e1 e2
   injection e2 with e2 e3
   subst e1 e2 e3;rw [Tm hl];exact Vm.m7 [] (by decide) h nx
  ·cases e
def ZI:List (Nat×aP):=(kH,u5)::(gJ,wQ)::aaF
theorem Tn:(rkN Yp Yn ZI Wx [nG] 400).F kH []=some (.bool true):=by kernel_rfl
theorem V0:∀f m,look ZI f=some m->az P0 f m:=M1 ⟨CM,Em,En,dF,IB,Ep,kx,df,lM,rj,CY,qe,GV,xq,AH,xr,eA,bM,qj,i6,eo,i7,xG,xH,sY,sZ,pD,AO,AP,AU,sa,sb,tg,ti,tj,AV,sc,tq,aY,eQ,cu,zO,pG,pI,rl,lN,x7,tw,tz,tA,tB,uI,nK,sd,AW,nL,x8,Dk,qt,sg,si,oD,uJ,Eu,yc,AX,yd,rn,uK,tI,sj,rq,vX,tJ,sk,rx,nQ,ry,uL,qz,uM,tK,sn,uN,tL,qA,oG,qB,mX,trivial⟩
theorem Tq:∀f m,look Wx f=some m->rP P0 f m:=M7 ⟨Es,trivial⟩
theorem EC:Ret P0 kH [] (.bool true):=XR 400 VY VZ V0 Tq Tn
end Uw.Tryz.El
namespace Uw.Tryz
open Go Uw
end Uw.Tryz
namespace Uw.Tryz.El
open Go Uw Uw.Tryz Go.Proofs
end Uw.Tryz.El
namespace Uw.Tryz.El
open Go Uw Uw.Tryz
def upd (σ:Int->Int) (k v:Int):Int->Int:=fun x=>if x=k then v else σ x
theorem upd_same {σ:Int->Int} {k v:Int}:upd σ k v k=v:=if_pos rfl
theorem upd_ne {σ:Int->Int} {k v x:Int} (h:x≠k):upd σ k v x=σ x:=if_neg h
structure Sm where
 σ:Int->Int
 many:Int
 forks:Int
 ends:Int
def s0m:Sm:=⟨upd (fun _=>0) 0 2,1,0,0⟩
def Tt (S:Sm) (s:Spl):Option Sm:=
 if s.b=S.many/\s.c=S.many+1 then
  if s.d=S.many+2 then some ⟨upd (upd (upd (upd S.σ s.a 3) s.b 2) s.c 2) s.d 1,S.many+3,S.forks+1,S.ends⟩
  else if 0<=s.d/\s.d<S.many+2/\upd (upd (upd S.σ s.a 3) s.b 2) s.c 2 s.d=1 then some ⟨upd (upd (upd S.σ s.a 3) s.b 2) s.c 2,S.many+2,S.forks+1,S.ends⟩ else none
 else none
def rK (S:Sm) (s:Spl):Option Sm:=
 if S.σ s.a=2 then
  if s.kind=1 then Tt S s
  else if s.kind=2 then (if upd S.σ s.a 3 s.d=1 then some ⟨upd S.σ s.a 3,S.many,S.forks,S.ends+1⟩ else none)
  else if s.kind=3 then (if upd S.σ s.a 3 s.d=1 then some ⟨upd (upd S.σ s.a 3) s.d 2,S.many,S.forks,S.ends⟩ else none)
  else none
 else none
def oH:List Spl->Sm->Option Sm
 | [],S=>some S
 | s::l,S=>(rK S s).bind (oH l)
theorem Kv:∀(l l' : List Spl) (S:Sm),oH (l++l') S=(oH l S).bind (oH l')
 | [],l',S=>rfl
 | s::l,l',S=>by
  rw [acH,oH,oH]
  cases rK S s with
  | none=>rfl
  | some S'=>exact Kv l l' S'
theorem uc {l:List Spl} {S0 S S' : Sm} {s:Spl} (h:oH l S0=some S) (h2:rK S s=some S'):oH (l++[s]) S0=some S':=by
 rw [Kv,h];show (rK S s).bind _=_;rw [h2];rfl
def Sup (S:Sm):Prop:=∀x,S.σ x≠0->0<=x/\x<S.many
theorem Wy {S S' : Sm} {s:Spl} (h:Sup S) (he:rK S s=some S'):Sup S':=by
 unfold rK at he
 split at he
 ·rename_i ha
  have q:=h s.a (by rw [ha];decide)
  split at he
  ·unfold Tt at he
   split at he
   ·rename_i hb
    split at he
    ·injection he with he;subst he
     intro x hx;simp only [upd] at hx ⊢;have:=h x;by_cases h1:x=s.d
     ·omega
     by_cases h2:x=s.c
     ·omega
     by_cases h3:x=s.b
     ·omega
     by_cases h4:x=s.a
     ·omega
     rw [if_neg h1,if_neg h2,if_neg h3,if_neg h4] at hx;have:=this hx;omega
    ·split at he
     ·injection he with he;subst he
      intro x hx;simp only [upd] at hx ⊢;have:=h x;by_cases h2:x=s.c
      ·omega
      by_cases h3:x=s.b
      ·omega
      by_cases h4:x=s.a
      ·omega
      rw [if_neg h2,if_neg h3,if_neg h4] at hx;have:=this hx;omega
     ·cases he
   ·cases he
  ·split at he
   ·split at he
    ·injection he with he;subst he
     intro x hx;simp only [upd] at hx ⊢;by_cases h4:x=s.a
     ·omega
     rw [if_neg h4] at hx;exact h x hx
    ·cases he
   ·split at he
    ·split at he
     ·rename_i hd
      injection he with he;subst he
      intro x hx;simp only [upd] at hx hd ⊢;by_cases h4:x=s.a
      ·omega
      by_cases h5:x=s.d
      ·subst h5
       rw [if_neg h4] at hd;exact h _ (by rw [hd];decide)
      rw [if_neg h5,if_neg h4] at hx;exact h x hx
     ·cases he
    ·cases he
 ·cases he
theorem Wz:∀{l:List Spl} {S S' : Sm},Sup S->oH l S=some S'->Sup S'
 | [],S,S',h,he=>by injection he with he;subst he;exact h
 | s::l,S,S',h,he=>by
  rw [oH] at he
  cases h1:rK S s with
  | none=>rw [h1] at he;cases he
  | some S1=>rw [h1] at he;exact Wz (Wy h h1) he
theorem Tv:Sup s0m:=by
 intro x hx;simp only [s0m,upd] at hx ⊢
 split at hx
 ·omega
 ·exact absurd rfl hx
theorem pL {l:List Spl} {S:Sm} (h:oH l s0m=some S):Sup S:=Wz Tv h
theorem Kw {w:Wd} {S:Sm} {s b:Int} {n:Bool} (hu:Sup S) (hm:S.many=w.ai) (h2:S.σ s=2) (hb:n=true->S.σ b=1/\b≠s) :
  ∃S',rK S (Dy w s b n)=some S'/\S'.many=(bX w s b n).ai/\S'.forks=S.forks+1/\S'.ends=S.ends/\∀x,S'.σ x=if x=(if n then b else w.ai+2) then 1 else if x=w.ai\/x=w.ai+1 then 2 else if x=s then 3 else S.σ x:=by
 have hs:=hu s (by rw [h2];decide)
 cases n with
 | false=>
  refine ⟨⟨upd (upd (upd (upd S.σ s 3) w.ai 2) (w.ai+1) 2) (w.ai+2) 1,S.many+3,S.forks+1,S.ends⟩,?_,?_,rfl,rfl,?_⟩
  ·simp [rK,Tt,Dy,h2,hm]
  ·simp [bX,hm]
  ·intro x
   simp only [upd,abG,if_false];by_cases e1:x=w.ai+2
   ·simp [e1]
   ·rw [if_neg e1,if_neg e1]
    by_cases e2:x=w.ai+1
    ·simp [e2]
    ·rw [if_neg e2]
     by_cases e3:x=w.ai
     ·simp [e3]
     ·rw [if_neg e3,if_neg (show ¬(x=w.ai\/x=w.ai+1) by omega)]
 | true=>
  obtain ⟨hb1,hb2⟩:=hb rfl;have hbb:=hu b (by rw [hb1];decide);have e0:upd (upd (upd S.σ s 3) w.ai 2) (w.ai+1) 2 b=1:=by
   rw [upd_ne (by omega),upd_ne (by omega),upd_ne hb2,hb1]
  refine ⟨⟨upd (upd (upd S.σ s 3) w.ai 2) (w.ai+1) 2,S.many+2,S.forks+1,S.ends⟩,?_,?_,rfl,rfl,?_⟩
  ·have n1:¬b=w.ai+2:=by omega
   have n2:0<=b/\b<w.ai+2:=by omega
   simp only [rK,Tt,Dy,h2,hm,if_true,and_self,if_neg n1,e0,n2,if_pos n2]
  ·simp [bX,hm]
  ·intro x
   simp only [if_true];by_cases e1:x=b
   ·subst e1;rw [if_pos rfl];exact e0
   ·rw [if_neg e1]
    simp only [upd];by_cases e2:x=w.ai+1
    ·simp [e2]
    ·rw [if_neg e2]
     by_cases e3:x=w.ai
     ·simp [e3]
     ·rw [if_neg e3,if_neg (show ¬(x=w.ai\/x=w.ai+1) by omega)]
def V1 (w:Wd):Prop:=∀u∈w.uses,0<=u.aG/\u.aG<w.ai
structure PrT (w:Wd) (f:Vm.Frame) (s ab:Int):Prop where
 sim:∃S,oH w.splits s0m=some S/\S.many=w.ai/\S.forks=w.values.length/\S.σ s=2/\(1<f.task->S.σ ab=1)
 us:V1 w
structure LpX (w0:Wd) (f0:Vm.Frame) (s0 ab:Int) (w:Wd) (f:Vm.Frame) (s b:Int) (S0 S:Sm):Prop where
 Eb:oH w0.splits s0m=some S0
 qG:S0.many=w0.ai
 b0:S0.σ s0=2
 ab0:1<f0.task->S0.σ ab=1
 sim:oH w.splits s0m=some S
 many:S.many=w.ai
 le:w0.ai<=w.ai
 forks:S.forks+1=w.values.length
 ends:S.ends=S0.ends+((w.values.length:Int) - w0.values.length - 1)
 cur:S.σ s=2
 Ec:s=s0\/(w0.ai<=s/\S.σ s0=3)
 old:∀x,x<w0.ai->x≠s0->S.σ x=S0.σ x
 new:∀x,w0.ai<=x->x<w.ai->x≠s->(f.kids≠[]->x≠b)->S.σ x=3
 blk:f.kids≠[]->S.σ b=1/\w0.ai<=b/\b≠s
structure LpT (w0:Wd) (f0:Vm.Frame) (s0 ab:Int) (w:Wd) (f:Vm.Frame) (s b:Int):Prop where
 task:f.task=f0.task
 us:V1 w
 sm:∃S0 S,LpX w0 f0 s0 ab w f s b S0 S
structure DnX (w0:Wd) (f0:Vm.Frame) (s0 ab:Int) (w:Wd) (S0 S:Sm) (s:Int):Prop where
 Eb:oH w0.splits s0m=some S0
 sim:oH w.splits s0m=some S
 many:S.many=w.ai
 le:w0.ai<=w.ai
 forks:S.forks+1=w.values.length
 ends:S.ends=S0.ends+((w.values.length:Int) - w0.values.length - 1)+(if 1<f0.task then 1 else 0)
 cur:S.σ s=if 1<f0.task then 3 else 2
 Ec:s=s0\/(w0.ai<=s/\S.σ s0=3)
 old:∀x,x<w0.ai->x≠s0->S.σ x=S0.σ x
 new:∀x,w0.ai<=x->x<w.ai->x≠s->S.σ x=3
structure DnT (w0:Wd) (f0:Vm.Frame) (s0 ab:Int) (w:Wd):Prop where
 us:V1 w
 sm:∃S0 S s,DnX w0 f0 s0 ab w S0 S s
theorem LpX.rng {w0:Wd} {f0:Vm.Frame} {s0 ab:Int} {w:Wd} {f:Vm.Frame} {s b:Int} {S0 S:Sm} (h:LpX w0 f0 s0 ab w f s b S0 S):0<=s/\s<w.ai:=by
 have:=pL h.sim s (by rw [h.cur];decide);rw [h.many] at this;exact this
theorem LpT.one {w0:Wd} {f0:Vm.Frame} {s0 ab:Int} {w w' : Wd} {f f' : Vm.Frame} {s b:Int} (h:LpT w0 f0 s0 ab w f s b) (u:X8) (e1:w'.uses=w.uses++[u]) (e2:u.aG=s) (e3:w'.splits=w.splits) (e4:w'.ai=w.ai) (e5:w'.values=w.values) (e6:f'.task=f.task) (e7:f'.kids=f.kids):LpT w0 f0 s0 ab w' f' s b:=by
 obtain ⟨h1,h2,S0,S,h3⟩:=h;have hr:=h3.rng;refine ⟨e6.trans h1,?_,S0,S,?_⟩
 ·intro v hv
  rw [e1] at hv;rw [e4]
  rcases abM.1 hv with q|q
  ·exact h2 v q
  ·simp at q;rw [q,e2];exact hr
 ·obtain ⟨a1,a2,a3,a4,a5,a6,a7,a8,a9,a10,a11,a12,a13,a14⟩:=h3
  exact ⟨a1,a2,a3,a4,by rw [e3];exact a5,by rw [e4];exact a6,by rw [e4];exact a7,by rw [e5];exact a8,by rw [e5];exact a9,a10,a11,a12,by rw [e4,e7];exact a13,by rw [e7];exact a14⟩
theorem Kx (c:Cd):Ind c PrT LpT DnT where
 start {w f s ab} hw hr ht hm hk hs hp:=by
  obtain ⟨⟨S,p1,p2,p3,p4,p5⟩,hu⟩:=hp;refine ⟨rfl,hu,S,S,p1,p2,p4,p5,p1,p2,acO _,?_,?_,p4,.inl rfl,fun x _ _=>rfl,?_,fun h=>absurd hk h⟩
  ·show S.forks+1=((w.values++[0]).length:Nat)
   rw [p3];simp
  ·show S.ends=S.ends+((((w.values++[0]).length:Nat):Int) - w.values.length - 1)
   simp;omega
  ·intro x h1 h2
   have h2:x<w.ai:=h2;omega
 load {w0 f0 s0 ab w f s b g a} h0 hl hi hn k ht:=by
  obtain ⟨_,ht,hk⟩:=bI hl.right hn;exact hi.one _ rfl rfl rfl rfl rfl ht hk.kids
 store {w0 f0 s0 ab w f s b g a} h0 hl hi hn k ht:=by
  obtain ⟨_,ht,hk⟩:=bI hl.right hn;exact hi.one _ rfl rfl rfl rfl rfl ht hk.kids
 call {w0 f0 s0 ab w f s b g a} h0 hl hi hn k ht:=by
  obtain ⟨_,ht,hk⟩:=bI hl.right hn;obtain ⟨c1,c2,c3,c4,c5,_⟩:=DZ w g.path s (opA a);exact hi.one ⟨s,g.path,ofK (opA a).kind,(opA a).obj,opA a,(doS (kB w (opA a)) (opA a)).2.1,(doS (kB w (opA a)) (opA a)).2.2⟩ rfl rfl c4 c5 c1 ht hk.kids
 kid {w0 f0 s0 ab w f s b g a} h0 hl hi hn k hz:=by
  obtain ⟨_,ht,hk⟩:=bI hl.right hn;obtain ⟨h1,h2,S0,S,h3⟩:=hi;have hu:=pL h3.sim;have hna:isNamed g=true->f.kids≠[]:=by
   intro h e;unfold isNamed at h;rw [hk.kids,e] at h;simp at h
  obtain ⟨S',q1,q2,q3,q4,q5⟩:=Kw (b:=b) (n:=isNamed g) hu h3.many h3.cur (fun h=>by have:=h3.blk (hna h);exact ⟨this.1,this.2.2⟩);have hst:w.ai<=(bX w s b (isNamed g)).ai:=by simp only [bX];split<;>omega
  refine ⟨⟨S',uc h3.sim q1,q2,by rw [q3];exact h3.forks,?_,fun _=>?_⟩,?_⟩
  ·have hr:=h3.rng
   have hb:¬w.ai=bD w g b:=by
    unfold bD
    split
    ·rename_i hn
     have:=hu b (by rw [(h3.blk (hna hn)).1];decide);rw [h3.many] at this;omega
    ·omega
   rw [q5,if_neg hb,if_pos (.inl rfl)]
  ·rw [q5,if_pos rfl]
  ·intro u hu
   have:=h2 u hu;omega
 spawn {w0 f0 s0 ab w f s b g a W} h0 hl hi hn k hz hD hd:=by
  obtain ⟨_,ht,hk⟩:=bI hl.right hn;obtain ⟨h1,h2,S0,S,h3⟩:=hi;have hu:=pL h3.sim;have hna:isNamed g=true->f.kids≠[]:=by
   intro h e;unfold isNamed at h;rw [hk.kids,e] at h;simp at h
  have hnb:isNamed g=false->f.kids=[]:=by
   intro h;unfold isNamed at h;rw [hk.kids] at h;simpa using h
  obtain ⟨S',q1,q2,q3,q4,q5⟩:=Kw (b:=b) (n:=isNamed g) hu h3.many h3.cur (fun h=>by have:=h3.blk (hna h);exact ⟨this.1,this.2.2⟩);have dp:=uc h3.sim q1;obtain ⟨u1,S1,S2,t,d⟩:=hd;have es:S1=S':=by
   have:=d.Eb;rw [show (bX w s b (isNamed g)).splits=w.splits++[Dy w s b (isNamed g)] from rfl,dp] at this;injection this with this;exact this.symm
  subst es;have hr:=h3.rng;have vn:(dQ c w g a).1.task=(w.values.length:Int)+1:=by rw [(fE hz).1];rfl
  have hpos:1<(dQ c w g a).1.task:=by have:=hl.task1;have:=hl.JC;omega
  have dc:=d.cur;have de:=d.ends;rw [if_pos hpos] at dc de;have dl:=d.le;have aaG:=d.old;have aaH:=d.new;have hst:(bX w s b (isNamed g)).ai=if isNamed g then w.ai+2 else w.ai+3:=rfl
  generalize hF:(bX w s b (isNamed g)).ai=F at *;have hbD:(isNamed g=true/\bD w g b=b/\F=w.ai+2/\w0.ai<=b/\b≠s/\0<=b/\b<w.ai)\/(isNamed g=false/\bD w g b=w.ai+2/\F=w.ai+3):=by
   cases hn2:isNamed g with
   | true=>
    rw [hn2] at hst;have q:=h3.blk (hna hn2);have q2:=hu b (by rw [q.1];decide);rw [h3.many] at q2;exact .inl ⟨rfl,by simp [bD,hn2],by simpa using hst,q.2.1,q.2.2,q2.1,q2.2⟩
   | false=>
    rw [hn2] at hst;exact .inr ⟨rfl,by simp [bD,hn2],by simpa using hst⟩
  have hle:=h3.le
  -- the state behind the child
  have hB:S2.σ w.ai=3:=by
   rcases d.Ec with e|⟨_,e⟩
   ·rw [<- e];exact dc
   ·exact e
  have ho:∀x,x<F->x≠w.ai->S2.σ x=S1.σ x:=aaG;have hn3:∀x,F<=x->x<W.ai->S2.σ x=3:=by
   intro x x1 x2;by_cases e:x=t
   ·rw [e];exact dc
   ·exact aaH x x1 x2 e
  have hC:S2.σ (w.ai+1)=2:=by
   rw [ho _ (by rcases hbD with q|q<;>omega) (by omega),q5,if_neg (by show ¬w.ai+1=bD w g b;rcases hbD with q|q<;>omega),if_pos (.inr rfl)]
  have hDD:S2.σ (bD w g b)=1:=by
   rw [ho _ (by rcases hbD with q|q<;>omega) (by rcases hbD with q|q<;>omega),q5];exact if_pos rfl
  have hS:S2.σ s=3:=by
   rw [ho _ (by rcases hbD with q|q<;>omega) (by omega),q5,if_neg (by show ¬s=bD w g b;rcases hbD with q|q<;>omega),if_neg (by omega),if_pos rfl]
  have hre:∀x,x<w.ai->x≠bD w g b->x≠s->S2.σ x=S.σ x:=by
   intro x x1 x2 x3;rw [ho _ (by rcases hbD with q|q<;>omega) (by omega),q5,if_neg x2,if_neg (by omega),if_neg x3]
  have hs0:=pL h3.Eb s0 (by rw [h3.b0];decide);rw [h3.qG] at hs0;have hvl:(bX w s b (isNamed g)).values.length=w.values.length:=rfl;rw [hvl] at de;have hfe:=h3.ends;refine ⟨ht.trans h1,u1,S0,S2,h3.Eb,h3.qG,h3.b0,h3.ab0,d.sim,d.many,by rcases hbD with q|q<;>omega,d.forks,by omega,hC,.inr ⟨by omega,?_⟩,?_,?_,?_⟩
  ·rcases h3.Ec with e|⟨e1,e2⟩
   ·rw [<- e];exact hS
   ·rw [hre s0 (by omega) (by rcases hbD with q|q<;>omega) (by omega)];exact e2
  ·intro x x1 x2
   by_cases e:x=s
   ·rcases h3.Ec with e1|⟨e1,_⟩
    ·exact absurd (e.trans e1) x2
    ·omega
   ·rw [hre x (by omega) (by rcases hbD with q|q<;>omega) e]
    exact h3.old x x1 x2
  ·intro x x1 x2 x3 x4
   have x4:=x4 (by show g.kids++[_]≠[];simp);by_cases e1:F<=x
   ·exact hn3 x e1 x2
   by_cases e2:x=w.ai
   ·rw [e2];exact hB
   by_cases e3:x=s
   ·rw [e3];exact hS
   have e4:x<w.ai:=by rcases hbD with q|q<;>omega
   rw [hre x e4 x4 e3];refine h3.new x x1 e4 e3 (fun hkk=>?_)
   rcases hbD with q|q
   ·rw [<- q.2.1];exact x4
   ·exact absurd (hnb q.1) hkk
  ·intro _
   exact ⟨hDD,by rcases hbD with q|q<;>omega,by rcases hbD with q|q<;>omega⟩
 sync {w0 f0 s0 ab w f s b g a} h0 hl hi hn k ht:=by
  obtain ⟨_,ht,hk⟩:=bI hl.right hn;obtain ⟨h1,h2,S0,S,h3⟩:=hi;have hne:f.kids≠[]:=by rw [<- hk.kids];exact hk.wait k
  obtain ⟨b1,b2,b3⟩:=h3.blk hne;have hu:=pL h3.sim;have hbr:=hu b (by rw [b1];decide);rw [h3.many] at hbr;have hr:=h3.rng;have hle:=h3.le;have e1:upd S.σ s 3 b=1:=by rw [upd_ne b3];exact b1
  have hs:rK S ⟨3,s,0,0,b⟩=some ⟨upd (upd S.σ s 3) b 2,S.many,S.forks,S.ends⟩:=by
   simp [rK,h3.cur,e1]
  have hs0:=pL h3.Eb s0 (by rw [h3.b0];decide);rw [h3.qG] at hs0;have hS:upd (upd S.σ s 3) b 2 s=3:=by rw [upd_ne (by omega),upd_same]
  refine ⟨ht.trans h1,h2,S0,_,h3.Eb,h3.qG,h3.b0,h3.ab0,uc h3.sim hs,h3.many,h3.le,h3.forks,h3.ends,upd_same,.inr ⟨b2,?_⟩,?_,?_,fun h=>absurd rfl h⟩
  ·rcases h3.Ec with e|⟨e1,e2⟩
   ·rw [<- e];exact hS
   ·show upd (upd S.σ s 3) b 2 s0=3
    rw [upd_ne (by omega),upd_ne (by omega)];exact e2
  ·intro x x1 x2
   show upd (upd S.σ s 3) b 2 x=_;by_cases e:x=s
   ·rcases h3.Ec with e1|⟨e1,_⟩
    ·exact absurd (e.trans e1) x2
    ·omega
   ·rw [upd_ne (by omega),upd_ne e];exact h3.old x x1 x2
  ·intro x x1 x2 x3 _
   show upd (upd S.σ s 3) b 2 x=3;by_cases e:x=s
   ·rw [e];exact hS
   ·rw [upd_ne x3,upd_ne e]
    exact h3.new x x1 x2 e (fun _=>x3)
 fin {w0 f0 s0 ab w f s b g a} h0 hl hi hn k:=by
  obtain ⟨_,ht,hk⟩:=bI hl.right hn;obtain ⟨h1,h2,S0,S,h3⟩:=hi;have hk0:f.kids=[]:=by rw [<- hk.kids];exact (JR hl.right hn k).1
  have hr:=h3.rng;have hle:=h3.le;have hnew:∀x,w0.ai<=x->x<w.ai->x≠s->S.σ x=3:=fun x x1 x2 x3=>h3.new x x1 x2 x3 (fun h=>absurd hk0 h);have hv:((endW w g a.a s ab).values.length:Int)=w.values.length:=by simp [endW]
  have hs0:=pL h3.Eb s0 (by rw [h3.b0];decide);rw [h3.qG] at hs0;have hgt:g.task=f0.task:=ht.trans h1;refine ⟨h2,?_⟩;by_cases h:1<f0.task
  ·have hab:=h3.ab0 h
   have ZJ:=pL h3.Eb ab (by rw [hab];decide);rw [h3.qG] at ZJ;have habs:ab≠s0:=by intro e;rw [e,h3.b0] at hab;cases hab
   have ZK:ab≠s:=by rcases h3.Ec with e|⟨e,_⟩<;>omega
   have e1:upd S.σ s 3 ab=1:=by rw [upd_ne ZK,h3.old ab ZJ.2 habs];exact hab
   have hs:rK S ⟨2,s,0,0,ab⟩=some ⟨upd S.σ s 3,S.many,S.forks,S.ends+1⟩:=by
    simp [rK,h3.cur,e1]
   have esp:(endW w g a.a s ab).splits=w.splits++[⟨2,s,0,0,ab⟩]:=by simp [endW,hgt,h]
   refine ⟨S0,⟨upd S.σ s 3,S.many,S.forks,S.ends+1⟩,s,h3.Eb,by rw [esp];exact uc h3.sim hs,h3.many,h3.le,by rw [hv];exact h3.forks,?_,?_,?_,?_,?_⟩
   ·rw [hv,if_pos h];have:=h3.ends;show S.ends+1=_;omega
   ·rw [if_pos h];exact upd_same
   ·rcases h3.Ec with e|⟨e1,e2⟩
    ·exact .inl e
    ·exact .inr ⟨e1,by show upd S.σ s 3 s0=3;rw [upd_ne (by omega)];exact e2⟩
   ·intro x x1 x2
    have:x≠s:=by rcases h3.Ec with e|⟨e,_⟩<;>omega
    show upd S.σ s 3 x=_;rw [upd_ne this];exact h3.old x x1 x2
   ·intro x x1 x2 x3
    show upd S.σ s 3 x=3;rw [upd_ne x3];exact hnew x x1 x2 x3
  ·have esp:(endW w g a.a s ab).splits=w.splits:=by simp [endW,hgt,h]
   refine ⟨S0,S,s,h3.Eb,by rw [esp];exact h3.sim,h3.many,h3.le,by rw [hv];exact h3.forks,?_,?_,h3.Ec,h3.old,hnew⟩
   ·rw [hv,if_neg h];have:=h3.ends;omega
   ·rw [if_neg h];exact h3.cur
end Uw.Tryz.El
namespace Uw.Tryz.El
open Go Uw Uw.Tryz
def lH (σ:Int->Int) (n:Nat):List (List Dat):=(List.range n).map fun i=>[I (σ (i:Nat))]
theorem Ed (σ:Int->Int) (n:Nat):(lH σ n).length=n:=by simp [lH]
theorem yA {σ:Int->Int} {n:Nat} {s:Int} (h0:0<=s) (h1:s<n):(lH σ n)[s.toNat]? = some [I (σ s)]:=by
 have h:s.toNat<n:=by omega
 simp [lH,h,show ((s.toNat:Nat):Int)=s by omega]
theorem Ky {σ:Int->Int} {n:Nat} {s v:Int} (h0:0<=s) (h1:s<n):(lH σ n).set s.toNat [I v]=lH (upd σ s v) n:=by
 apply acz;intro k;rw [acQ];simp only [lH,abT,List.getElem?_range',acI,List.length_range];by_cases hk:s.toNat=k
 ·subst hk
  have h:s.toNat<n:=by omega
  simp [h,upd,show ((s.toNat:Nat):Int)=s by omega]
 ·rw [if_neg hk]
  by_cases h:k<n
  ·simp [h,upd,show ¬(k:Int)=s by omega]
  ·simp [h]
theorem wd (n:Nat) (σ:Int->Int) (s a b:Int) (hn:n<1000000) (h0:0<=s) (h1:s<n) (h2:σ s=a):eN P0 jy [.d (I s),.d (I a),.d (I b),.ptr 0 0] [.var [.ref 1 0 0 n],.mt 1 0 (lH σ n)] (.d (.bool true)) [.var [.ref 1 0 0 n],.mt 1 0 (lH (upd σ s b) n)]:=by
 have g1:(lH σ n)[0+s.toNat]? = some [I (σ s)]:=by rw [abJ];exact yA h0 h1
 have g2:(lH σ n).set (0+s.toNat) (setAt [I a] 0 [I b])=lH (upd σ s b) n:=by rw [abJ];exact Ky h0 h1
 have g3:=Ed σ n;rw [h2] at g1;generalize lH σ n=r at *;generalize lH (upd σ s b) n=r' at *;refine dD qc rfl ?_
 repeat refine aw ?_
 refine dh 2 rfl rfl ?_;rw [<- g2];exact Uw.wM
theorem F5 {S S' : Sm} {s:Spl} (hu:Sup S) (h:rK S s=some S'):S.σ s.a=2/\0<=s.a/\s.a<S.many/\
  ((s.kind=1/\s.b=S.many/\s.c=S.many+1/\s.d=S.many+2/\S' = ⟨upd (upd (upd (upd S.σ s.a 3) s.b 2) s.c 2) s.d 1,S.many+3,S.forks+1,S.ends⟩)\/
    (s.kind=1/\s.b=S.many/\s.c=S.many+1/\s.d≠S.many+2/\0<=s.d/\s.d<S.many+2/\upd (upd (upd S.σ s.a 3) s.b 2) s.c 2 s.d=1/\S' = ⟨upd (upd (upd S.σ s.a 3) s.b 2) s.c 2,S.many+2,S.forks+1,S.ends⟩)\/
    (s.kind=2/\0<=s.d/\s.d<S.many/\upd S.σ s.a 3 s.d=1/\S' = ⟨upd S.σ s.a 3,S.many,S.forks,S.ends+1⟩)\/
    (s.kind=3/\0<=s.d/\s.d<S.many/\upd S.σ s.a 3 s.d=1/\S' = ⟨upd (upd S.σ s.a 3) s.d 2,S.many,S.forks,S.ends⟩)):=by
 unfold rK at h
 split at h
 ·rename_i ha
  have q:=hu s.a (by rw [ha];decide);have hd:upd S.σ s.a 3 s.d=1->0<=s.d/\s.d<S.many:=by
   intro e;by_cases e1:s.d=s.a
   ·rw [e1];exact q
   ·rw [upd_ne e1] at e;exact hu _ (by rw [e];decide)
  refine ⟨ha,q.1,q.2,?_⟩
  split at h
  ·rename_i hk
   unfold Tt at h
   split at h
   ·rename_i hb
    split at h
    ·rename_i hd;injection h with h;exact .inl ⟨hk,hb.1,hb.2,hd,h.symm⟩
    ·rename_i hd
     split at h
     ·rename_i hdd;injection h with h;exact .inr (.inl ⟨hk,hb.1,hb.2,hd,hdd.1,hdd.2.1,hdd.2.2,h.symm⟩)
     ·cases h
   ·cases h
  ·split at h
   ·rename_i hk
    split at h
    ·rename_i e;injection h with h;exact .inr (.inr (.inl ⟨hk,(hd e).1,(hd e).2,e,h.symm⟩))
    ·cases h
   ·split at h
    ·rename_i hk
     split at h
     ·rename_i e;injection h with h;exact .inr (.inr (.inr ⟨hk,(hd e).1,(hd e).2,e,h.symm⟩))
     ·cases h
    ·cases h
 ·cases h
theorem zp:∀{l:List Spl} {S0 S:Sm},Sup S0->oH l S0=some S->S0.many<=S.many/\S.many<=S0.many+3 * (l.length:Int)/\S0.forks<=S.forks/\S.forks<=S0.forks+(l.length:Int)/\S0.ends<=S.ends/\S.ends<=S0.ends+(l.length:Int)
 | [],S0,S,hu,h=>by injection h with h;subst h;simp
 | s::l,S0,S,hu,h=>by
  rw [oH] at h
  cases h1:rK S0 s with
  | none=>rw [h1] at h;cases h
  | some S1=>
   rw [h1] at h;have ih:=zp (Wy hu h1) h;have hc:=(F5 hu h1).2.2.2;rw [abI]
   rcases hc with ⟨_,_,_,_,e⟩|⟨_,_,_,_,_,_,_,e⟩|⟨_,_,_,_,e⟩|⟨_,_,_,_,e⟩<;>(subst e;simp only at ih;omega)
def F6 (l:List Spl) (F:Sm) (j:Nat) (S:Sm):Prop:=j<=l.length/\oH (l.take j) s0m=some S/\oH (l.drop j) S=some F
theorem F6.next {l:List Spl} {F S:Sm} {j:Nat} (h:F6 l F j S) (hj:j<l.length):∃S',rK S l[j]=some S'/\F6 l F (j+1) S':=by
 obtain ⟨h1,h2,h3⟩:=h;rw [ab4 hj,oH] at h3
 cases h4:rK S l[j] with
 | none=>rw [h4] at h3;cases h3
 | some S'=>
  rw [h4] at h3;refine ⟨S',rfl,hj,?_,h3⟩;rw [abN hj];exact uc h2 h4
end Uw.Tryz.El
