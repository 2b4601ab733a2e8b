/- M8: Cu Cv Cw Cx Fc Hb Hg Ff Fg Fh Ga Gb Gc Gd Ge Gf Cy Cz Dc Dd De Df Dg Dh Di Gg Gh Hh Gm Pb (merged by merge2.py from the working texts). -/
import Derived.Test.YtkmkjfkpnmhaiaaGreatDoorM7
import Derived.Test.YtkmkjfkpnmhaiaaGreatDoorM4
import Derived.Test.YtkmkjfkpnmhaiaaGreatDoorM5
import Derived.Test.YtkmkjfkpnmhaiaaGreatDoorM6
set_option maxRecDepth 20000
set_option maxHeartbeats 4000000
set_option linter.unusedSimpArgs false
set_option linter.unnecessarySimpa false
set_option linter.unusedVariables false
set_option linter.unusedSectionVars false
namespace Uw.Tryz
open Go Uw
theorem Tc (p:Pg) (hF:p.ae≠[]) (s:Str):∃f:Fu,f.args.length=argsAt p s/\((bf (fnE p.ae) (.s s)=none/\(p.ae.map fuL)[(0:Int).toNat]? = some (fuL f))\/∃i:Nat,bf (fnE p.ae) (.s s)=some (I i)/\i<p.ae.length/\(p.ae.map fuL)[((i:Nat):Int).toNat]? = some (fuL f)):=by
 have hpos:=aat.2 hF
 cases hq:cV p s with
 | none=>
  refine ⟨p.ae[0],?_,.inl ⟨by rw [FR,hq];rfl,?_⟩⟩
  ·rw [argsAt,hq];simp [List.getD,hpos]
  ·show (p.ae.map fuL)[0]? = _
   simp [hpos]
 | some i=>
  have hi:i<p.ae.length:=by
   rw [cV] at hq;exact (Zy.1 hq).1
  refine ⟨p.ae[i],?_,.inr ⟨i,by rw [FR,hq];rfl,hi,?_⟩⟩
  ·rw [argsAt,hq];simp [List.getD,hi]
  ·show (p.ae.map fuL)[i]? = _
   simp [hi]
theorem ix {P:Program} {Q:aG->St->Prop} {S:Nat->St} {inv:Nat->Prop} {mu:Nat->Nat} {x:Nat} {kk:aG->St->Tree} (hkk:∀s,kk .ret s=Tree.done .ret s) {s:St} (h:WT P Q (.done .ret s)):WT P (gJ S inv mu x fun e s=>WT P Q (kk e s)) (.done .ret s):=
 aN (by show WT P Q (kk .ret s);rw [hkk];exact h)
def mnB:bN:=qL (qL (qR (qL (qR (qR iF.code)))))
abbrev mnS (p:Pg) (j:Nat):St:=⟨[(21,.d (I j)),(20,.d (I ((p.nodes.map ndL).length:Nat))),(19,.d (bZ p.nodes)),(1,.ptr 2 0)],sHp p,3,[],2⟩
abbrev mnG (p:Pg) (j:Nat):Prop:=∀h:j<p.nodes.length,manyN p p.nodes[j]=false
theorem AG (p:Pg) (hp:Lim p) (hF0:p.ae≠[]) (R:Bool) (j:Nat) (hj:j<p.nodes.length) (hone:manyN p p.nodes[j]=true->R=true) (hpre:∀i,i<j->mnG p i) {kk:aG->St->Tree} (hkk:∀s,kk .ret s=Tree.done .ret s) :
  WT P0 (gJ (mnS p) (sK p.nodes.length (mnG p)) (forM p.nodes.length) j fun e s=>WT P0 (EQ 2 iF.res (.d (.bool R)) (sBs p)) (kk e s)) (exec mnB (mnS p j) Tree.done):=by
 have hN:=hp.nodes;have hF:=hp.ae;have hpos:=aat.2 hF0;have hpi:(0:Int)<((p.ae.map fuL).length:Nat):=by rw [Y5];omega
 have hnl:(p.nodes.map ndL).length=p.nodes.length:=by simp
 have hfl:(p.ae.map fuL).length=p.ae.length:=by simp
 have hfm:=Tc p hF0;have he:(p.nodes.map ndL)[(j:Int).toNat]? = some (ndL p.nodes[j]):=by simp [hj]
 have hth:=wY p p.nodes[j].name;have hG:manyN p p.nodes[j]=false->mnG p j:=fun h _=>h;have hd:∀x,manyN p x=(if x.kind=10 then !decide (x.of.length=argsAt p x.name2) else if x.kind=11 then !decide (argsAt p x.name2=1) else if x.kind=8 then !decide ((x.of.length:Int)=(cX ((aE p x.name).getD 0) x.name2).getD 0) else false):=fun x=>rfl;rw [hd] at hone hG;clear hd;generalize p.nodes[j]=x at *;obtain ⟨xk,xn,xs,xt,xo⟩:=x;have he:(p.nodes.map ndL)[(j:Int).toNat]? = some [I xk,I xn,.str xs,.str xt,.slice 1 (xo.map fun i=>[I i]) false]:=he;simp only at hone hG hth;have hol:(xo.map fun i=>[I i]).length=xo.length:=by simp
 obtain ⟨f,hf1,hf2⟩:=hfm xt;have hf3:(f.args.map fun s=>[Dat.str s]).length=argsAt p xt:=by rw [Y5];exact hf1
 clear hfm hf1;generalize argsAt p xt=af at *;obtain ⟨fn,fa,fb⟩:=f;simp only at hf3 hf2;by_cases k10:xk=10
 ·by_cases hw:xo.length=af
  ·have hG1:=hG (by rw [if_pos k10];simp [hw])
   have hw2:((xo.map fun i=>[I i]).length:Int)=((fa.map fun s=>[Dat.str s]).length:Nat):=by omega
   subst k10
   rcases hf2 with ⟨h1,h2⟩|⟨i,h1,h3,h2⟩
   all_goals have h2:_=some [.str fn,.slice 1 (fa.map fun s=>[Dat.str s]) false,I fb]:=h2
   all_goals repeat (first|refine aw ?_|refine f1 ?_|refine m1 ?_)
   all_goals exact ay j hG1 (by exact Uw.wM)
  ·rw [hone (by rw [if_pos k10];simp [hw])]
   have hw2:¬((xo.map fun i=>[I i]).length:Int)=((fa.map fun s=>[Dat.str s]).length:Nat):=by omega
   subst k10
   rcases hf2 with ⟨h1,h2⟩|⟨i,h1,h3,h2⟩
   all_goals have h2:_=some [.str fn,.slice 1 (fa.map fun s=>[Dat.str s]) false,I fb]:=h2
   all_goals repeat (first|refine aw ?_|refine f1 ?_|refine m1 ?_)
   all_goals refine ix hkk (aI 2 rfl rfl ?_)
   all_goals exact Uw.wM
 by_cases k11:xk=11
 ·by_cases hw:af=1
  ·have hG1:=hG (by rw [if_neg k10,if_pos k11];simp [hw])
   have hw2:((fa.map fun s=>[Dat.str s]).length:Int)=1:=by omega
   subst k11
   rcases hf2 with ⟨h1,h2⟩|⟨i,h1,h3,h2⟩
   all_goals have h2:_=some [.str fn,.slice 1 (fa.map fun s=>[Dat.str s]) false,I fb]:=h2
   all_goals repeat (first|refine aw ?_|refine f1 ?_|refine m1 ?_)
   all_goals exact ay j hG1 (by exact Uw.wM)
  ·rw [hone (by rw [if_neg k10,if_pos k11];simp [hw])]
   have hw2:¬((fa.map fun s=>[Dat.str s]).length:Int)=1:=by omega
   subst k11
   rcases hf2 with ⟨h1,h2⟩|⟨i,h1,h3,h2⟩
   all_goals have h2:_=some [.str fn,.slice 1 (fa.map fun s=>[Dat.str s]) false,I fb]:=h2
   all_goals repeat (first|refine aw ?_|refine f1 ?_|refine m1 ?_)
   all_goals refine ix hkk (aI 2 rfl rfl ?_)
   all_goals exact Uw.wM
 clear hf2 hf3;by_cases k8:xk=8
 ·obtain ⟨kd,hkd⟩:∃kd,(aE p xs).getD 0=kd:=⟨_,rfl⟩
  have hne:=oq kd xt;rw [lq] at hne;rw [hkd] at hone hG;generalize (cX kd xt).isSome=b at hne;generalize (cX kd xt).getD 0=nd at *;by_cases hw:(xo.length:Int)=nd
  ·have hG1:=hG (by rw [if_neg k10,if_neg k11,if_pos k8];simp [hw])
   have hw2:((xo.map fun i=>[I i]).length:Int)=nd:=by omega
   subst k8
   cases ht:aE p xs with
   | none=>
    rw [ht] at hth hkd;have hth:bf (thE p.decls) (.s xs)=none:=hth;obtain rfl:kd=0:=hkd.symm
    repeat (first|refine aw ?_|refine f1 ?_|refine m1 ?_)
    exact ay j hG1 (by exact Uw.wM)
   | some kd'=>
    rw [ht] at hth hkd;have hth:bf (thE p.decls) (.s xs)=some (I kd'):=hth;obtain rfl:kd' = kd:=hkd
    repeat (first|refine aw ?_|refine f1 ?_|refine m1 ?_)
    exact ay j hG1 (by exact Uw.wM)
  ·rw [hone (by rw [if_neg k10,if_neg k11,if_pos k8];simp [hw])]
   have hw2:¬((xo.map fun i=>[I i]).length:Int)=nd:=by omega
   subst k8
   cases ht:aE p xs with
   | none=>
    rw [ht] at hth hkd;have hth:bf (thE p.decls) (.s xs)=none:=hth;obtain rfl:kd=0:=hkd.symm
    repeat (first|refine aw ?_|refine f1 ?_|refine m1 ?_)
    refine ix hkk (aI 2 rfl rfl ?_);exact Uw.wM
   | some kd'=>
    rw [ht] at hth hkd;have hth:bf (thE p.decls) (.s xs)=some (I kd'):=hth;obtain rfl:kd' = kd:=hkd
    repeat (first|refine aw ?_|refine f1 ?_|refine m1 ?_)
    refine ix hkk (aI 2 rfl rfl ?_);exact Uw.wM
 have hG1:=hG (by rw [if_neg k10,if_neg k11,if_neg k8])
 repeat (first|refine aw ?_|refine f1 ?_|refine m1 ?_)
 exact ay j hG1 (by exact Uw.wM)
theorem B1 (p:Pg) (hp:Lim p) (hF0:p.ae≠[]):bm P0 lB [.agg (sCs p)] (sBs p) (.d (.bool (fu p))) (sBs p):=by
 have hN:=hp.nodes;have hF:=hp.ae;have hpos:=aat.2 hF0;have hpi:(0:Int)<((p.ae.map fuL).length:Nat):=by rw [Y5];omega
 have hnl:(p.nodes.map ndL).length=p.nodes.length:=by simp
 have hfl:(p.ae.map fuL).length=p.ae.length:=by simp
 have hall:¬0<argsAt p eY->(∀(j:Nat) (h:j<p.nodes.length),manyN p p.nodes[j]=false)->fu p=false:=fun h0 h=>by
  rw [fu,decide_eq_false h0,Bool.false_or,Zl];intro x hx;obtain ⟨j,hj,rfl⟩:=Y0.1 hx;rw [h j hj];simp
 have hone:∀(j:Nat) (h:j<p.nodes.length),manyN p p.nodes[j]=true->fu p=true:=fun j h e=>by
  rw [fu,Zj,Zv];exact .inr ⟨_,YT h,e⟩
 have hzero:0<argsAt p eY->fu p=true:=fun h=>by rw [fu,decide_eq_true h];rfl
 have hfm:=Tc p hF0;generalize fu p=R at *;obtain ⟨fm,hm1,hm2⟩:=hfm eY;have hm3:(fm.args.map fun s=>[Dat.str s]).length=argsAt p eY:=by rw [Y5];exact hm1
 rw [<- hm3] at hzero hall;generalize argsAt p eY=am at *;obtain ⟨fmn,fma,fmb⟩:=fm;simp only at hm3 hzero hall hm2;refine aJ rD rfl ?_;by_cases ha:0<(fma.map fun s=>[Dat.str s]).length
 ·rw [hzero ha]
  have ha2:(0:Int)<((fma.map fun s=>[Dat.str s]).length:Nat):=by omega
  rcases hm2 with ⟨g1,g2⟩|⟨i,g1,g3,g2⟩
  all_goals have g2:_=some [.str fmn,.slice 1 (fma.map fun s=>[Dat.str s]) false,I fmb]:=g2
  all_goals have g1:bf (fnE p.ae) (.s [109,97,105,110])=_:=g1
  all_goals repeat (first|refine aw ?_|refine f1 ?_|refine m1 ?_)
  all_goals refine aI 2 rfl rfl ?_
  all_goals exact Uw.wM
 have ha2:¬(0:Int)<((fma.map fun s=>[Dat.str s]).length:Nat):=by omega
 have hall:=hall ha;clear hzero
 rcases hm2 with ⟨g1,g2⟩|⟨im,g1,g3,g2⟩
 ·have g2:_=some [.str fmn,.slice 1 (fma.map fun s=>[Dat.str s]) false,I fmb]:=g2
  have g1:bf (fnE p.ae) (.s [109,97,105,110])=_:=g1
  repeat (first|refine aw ?_|refine f1 ?_|refine m1 ?_)
  refine bn p.nodes.length (mnS p) (mnG p) (by exact Uw.wM) (fun hg=>?_) (fun j hj hg=>AG p hp hF0 R j hj (hone j hj) hg (fun s=>rfl));rw [hall (fun j h=>hg j h h)]
  repeat refine aw ?_
  refine aA ?_
  repeat refine aw ?_
  refine aI 2 rfl rfl ?_;exact Uw.wM
 ·have g2:_=some [.str fmn,.slice 1 (fma.map fun s=>[Dat.str s]) false,I fmb]:=g2
  have g1:bf (fnE p.ae) (.s [109,97,105,110])=_:=g1
  repeat (first|refine aw ?_|refine f1 ?_|refine m1 ?_)
  refine bn p.nodes.length (mnS p) (mnG p) (by exact Uw.wM) (fun hg=>?_) (fun j hj hg=>AG p hp hF0 R j hj (hone j hj) hg (fun s=>rfl));rw [hall (fun j h=>hg j h h)]
  repeat refine aw ?_
  refine aA ?_
  repeat refine aw ?_
  refine aI 2 rfl rfl ?_;exact Uw.wM
end Uw.Tryz
namespace Uw.Tryz
open Go Uw
theorem AH:∀(fs:List Fu) (i:Nat) (es:MS),(qO i fs es).length<=es.length+fs.length/\((qO i fs es).length=es.length+fs.length<->(fs.map (·.name)).Nodup/\∀f∈fs,bf es (.s f.name)=none)
 | [],i,es=>by simp [qO]
 | f::fs,i,es=>by
  rw [qO]
  cases hm:bf es (.s f.name) with
  | some v=>
   obtain ⟨h1,h2⟩:=AH fs (i+1) es;rw [if_pos (by rfl)];refine ⟨by simp;omega,⟨fun h=>?_,fun h=>?_⟩⟩
   ·simp at h;omega
   ·have:=h.2 f (by simp);rw [hm] at this;cases this
  | none=>
   obtain ⟨h1,h2⟩:=AH fs (i+1) (dK es (.s f.name) (I i));rw [if_neg (by simp)];have hs:(dK es (.s f.name) (I i)).length=es.length+1:=by rw [An,hm];rfl
   rw [hs] at h1 h2;refine ⟨by simp;omega,?_⟩;rw [show es.length+(f::fs).length=es.length+1+fs.length by simp;omega,h2,Zm,aaM];have hg:∀s:Str,bf (dK es (.s f.name) (I i)) (.s s)=if s=f.name then some (I i) else bf es (.s s):=fun s=>by
    rw [fG];simp
   constructor
   ·rintro ⟨g1,g2⟩
    refine ⟨⟨fun hin=>?_,g1⟩,fun f' hf'=>?_⟩
    ·obtain ⟨f',hf',he⟩:=Zk.1 hin
     have:=g2 f' hf';rw [hg,if_pos he] at this
     cases this
    ·rcases Y3.1 hf' with rfl|hf'
     ·exact hm
     ·have:=g2 f' hf'
      rw [hg] at this
      split at this
      ·cases this
      ·exact this
   ·rintro ⟨⟨g1,g2⟩,g3⟩
    refine ⟨g2,fun f' hf'=>?_⟩;rw [hg,if_neg (fun e=>g1 (Zk.2 ⟨f',hf',e⟩))];exact g3 f' (by simp [hf'])
theorem Jv (p:Pg):(thE p.decls).length<p.decls.length<->¬(p.decls.map (·.name)).Nodup:=by
 obtain ⟨h1,h2⟩:=Aq p.decls [];have e:(∀d∈p.decls,bf ([]:MS) (.s d.name)=none):=fun _ _=>rfl;constructor
 ·intro h hn
  have:=h2.2 ⟨hn,e⟩;rw [thE] at h;simp at this;omega
 ·intro h
  refine Classical.byContradiction fun h3=>h (h2.1 ?_).1;rw [thE] at h3;simp at h1 h3 ⊢;omega
theorem Jw (p:Pg):(fnE p.ae).length<p.ae.length<->¬(p.ae.map (·.name)).Nodup:=by
 obtain ⟨h1,h2⟩:=AH p.ae 0 [];have e:(∀f∈p.ae,bf ([]:MS) (.s f.name)=none):=fun _ _=>rfl;constructor
 ·intro h hn
  have:=h2.2 ⟨hn,e⟩;rw [fnE] at h;simp at this;omega
 ·intro h
  refine Classical.byContradiction fun h3=>h (h2.1 ?_).1;rw [fnE] at h3;simp at h1 h3 ⊢;omega
def KX (p:Pg) (l:List Str) (i:Nat):Prop:=∀h:i<l.length,aE p l[i]=none/\l[i]∉l.take i
theorem H7 (p:Pg):∀(r seen:List Str),jq p seen r=false<->∀(i:Nat) (h:i<r.length),aE p r[i]=none/\r[i]∉seen/\r[i]∉r.take i
 | [],seen=>by simp [jq]
 | a::r,seen=>by
  rw [jq,Zt,Zt,H7 p r (a::seen)];constructor
  ·rintro ⟨⟨h1,h2⟩,h3⟩ i h
   cases i with
   | zero=>exact ⟨by simpa using h1,by simpa using h2,by simp⟩
   | succ i=>
    obtain ⟨g1,g2,g3⟩:=h3 i (by simpa using h);rw [Y3,not_or] at g2;refine ⟨g1,g2.2,?_⟩;rw [ZE,Y3,not_or];exact ⟨g2.1,g3⟩
  ·intro h
   obtain ⟨a1,a2,a3⟩:=h 0 (by simp);refine ⟨⟨by simpa using a1,by simpa using a2⟩,fun i hi=>?_⟩;obtain ⟨b1,b2,b3⟩:=h (i+1) (by simpa using hi);rw [ZE,Y3,not_or] at b3;exact ⟨b1,by rw [Y3,not_or];exact ⟨b3.1,b2⟩,b3.2⟩
theorem LW (p:Pg) (l:List Str):jq p [] l=false<->∀i,i<l.length->KX p l i:=by
 rw [H7];constructor
 ·intro h i hi _;exact ⟨(h i hi).1,(h i hi).2.2⟩
 ·intro h i hi;exact ⟨(h i hi hi).1,by simp,(h i hi hi).2⟩
end Uw.Tryz
namespace Uw.Tryz
open Go Uw
abbrev twS (p:Pg) (j:Nat) (fa:List Str) (E:Nat->MS) (i:Nat):St:=⟨[(40,.d (I i)),(39,.d (I ((fa.map fun s=>[Dat.str s]).length:Nat))),(38,.d (ei fa)),(5,.hnd 4),(32,.d (I j)),(31,.d (I ((p.ae.map fuL).length:Nat))),(30,.d (.slice 3 (p.ae.map fuL) false)),(1,.ptr 2 0)],(4,.map none (E i))::sHp p,5,[],2⟩
theorem AK (p:Pg) (hp:Lim p):bm P0 kN [.agg (sCs p)] (sBs p) (.d (.bool (dp p))) (sBs p):=by
 have hF:=hp.ae;have hD:=hp.decls;have hfl:(p.ae.map fuL).length=p.ae.length:=by simp
 have hdl:(p.decls.map bM).length=p.decls.length:=by simp
 have h1:=Jv p;have h2:=Jw p;have hargs:=hp.args;refine aJ qG rfl ?_;by_cases hD1:(thE p.decls).length<p.decls.length
 ·have hR:dp p=true:=by rw [dp,decide_eq_false (h1.1 hD1)];rfl
  rw [hR];have hD2:(((thE p.decls).length:Nat):Int)<((p.decls.map bM).length:Nat):=by omega
  repeat (first|refine aw ?_|refine f1 ?_|refine m1 ?_)
  refine aI 2 rfl rfl ?_;exact Uw.wM
 have hDn:(p.decls.map (·.name)).Nodup:=Classical.byContradiction fun h=>hD1 (h1.2 h);have hD2:¬(((thE p.decls).length:Nat):Int)<((p.decls.map bM).length:Nat):=by omega
 by_cases hF1:(fnE p.ae).length<p.ae.length
 ·have hR:dp p=true:=by rw [dp,decide_eq_true hDn,decide_eq_false (h2.1 hF1)];rfl
  rw [hR];have hF2:(((fnE p.ae).length:Nat):Int)<((p.ae.map fuL).length:Nat):=by omega
  repeat (first|refine aw ?_|refine f1 ?_|refine m1 ?_)
  refine aI 2 rfl rfl ?_;exact Uw.wM
 have hFn:(p.ae.map (·.name)).Nodup:=Classical.byContradiction fun h=>hF1 (h2.2 h);have hF2:¬(((fnE p.ae).length:Nat):Int)<((p.ae.map fuL).length:Nat):=by omega
 have hR:dp p=p.ae.any fun f=>jq p [] f.args:=by rw [dp,decide_eq_true hDn,decide_eq_true hFn];rfl
 have hall:(∀(j:Nat) (h:j<p.ae.length),jq p [] p.ae[j].args=false)->dp p=false:=fun h=>by
  rw [hR,Zl];intro x hx;obtain ⟨j,hj,rfl⟩:=Y0.1 hx;rw [h j hj];simp
 have hone:∀(j:Nat) (h:j<p.ae.length),jq p [] p.ae[j].args=true->dp p=true:=fun j h e=>by
  rw [hR,Zv];exact ⟨_,YT h,e⟩
 generalize dp p=R at *;clear hR h1 h2
 repeat (first|refine aw ?_|refine f1 ?_|refine m1 ?_)
 refine bn p.ae.length (fun j:Nat=>⟨[(32,.d (I j)),(31,.d (I ((p.ae.map fuL).length:Nat))),(30,.d (.slice 3 (p.ae.map fuL) false)),(1,.ptr 2 0)],sHp p,3,[],2⟩) (fun j=>∀h:j<p.ae.length,jq p [] p.ae[j].args=false) (by exact Uw.wM) (fun hg=>?_) (fun j hj hg=>?_)
 ·rw [hall (fun j h=>hg j h h)]
  repeat refine aw ?_
  refine aA ?_
  repeat refine aw ?_
  refine aI 2 rfl rfl ?_;exact Uw.wM
 have he:(p.ae.map fuL)[(j:Int).toNat]? = some (fuL p.ae[j]):=by simp [hj]
 have hone:=hone j hj;have hG:jq p [] p.ae[j].args=false->(fun j=>∀h:j<p.ae.length,jq p [] p.ae[j].args=false) j:=fun h _=>h;have hal:=hargs _ (YT hj);clear hall hargs;generalize p.ae[j]=x at *;obtain ⟨fn,fa,fb⟩:=x;have he:(p.ae.map fuL)[(j:Int).toNat]? = some [.str fn,.slice 1 (fa.map fun s=>[Dat.str s]) false,I fb]:=he;simp only at hone hG hal;have Yk:(fa.map fun s=>[Dat.str s]).length=fa.length:=by simp
 have hda:=LW p fa;obtain ⟨E,hE⟩:∃E:Nat->MS,∀i,E i=cq (fa.take i):=⟨_,fun _=>rfl⟩
 have hE0:([]:MS)=E 0:=by rw [hE];rfl
 have hEs:∀(i:Nat) (h:i<fa.length),dK (E i) (.s fa[i]) (.bool true)=E (i+1):=fun i h=>by rw [hE,hE,YM h,pX]
 have hEg:∀(i:Nat) (s:Str),bf (E i) (.s s)=if s∈fa.take i then some (.bool true) else none:=fun i s=>by rw [hE,sB]
 have hge:∀(i:Nat) (h:i<fa.length),(fa.map fun s=>[Dat.str s])[(i:Int).toNat]? = some [.str fa[i]]:=fun i h=>by simp [h]
 have hbad:∀i,∀h:i<fa.length,¬(aE p fa[i]=none/\fa[i]∉fa.take i)->R=true:=fun i h hn=>hone (by
  cases hd:jq p [] fa with
  | true=>rfl
  | false=>exact absurd (hda.1 hd i h h) hn)
 have hgood:(∀i,i<fa.length->KX p fa i)->∀h:j<p.ae.length,jq p [] p.ae[j].args=false:=fun h=>hG (hda.2 h);have hS0:twS p j fa E 0=⟨[(40,.d (I (0:Nat))),(39,.d (I ((fa.map fun s=>[Dat.str s]).length:Nat))),(38,.d (ei fa)),(5,.hnd 4),(32,.d (I j)),(31,.d (I ((p.ae.map fuL).length:Nat))),(30,.d (.slice 3 (p.ae.map fuL) false)),(1,.ptr 2 0)],(4,.map none [])::sHp p,5,[],2⟩:=by rw [twS,<- hE0]
 clear hone hG hda hE
 repeat (first|refine aw ?_|refine f1 ?_|refine m1 ?_)
 refine bn fa.length (twS p j fa E) (KX p fa) (cH hS0 ?_) (fun hg2=>?_) (fun i hi hg2=>?_)
 ·exact Uw.wM
 ·have hg3:=hgood hg2
  refine aw ?_;refine aA ?_;refine aw ?_;exact ay j hg3 (by exact Uw.wM)
 have hel:=hge i hi;have hs:=hEs i hi;have hbad:=hbad i hi;have hfree:aE p fa[i]=none/\fa[i]∉fa.take i->KX p fa i:=fun h _=>h;have hth:=wY p fa[i];have hEg:=hEg i fa[i];clear hge hEs hgood;generalize fa[i]=a at *
 cases ht:aE p a with
 | some kd=>
  rw [ht] at hth;have hth:bf (thE p.decls) (.s a)=some (I kd):=hth;rw [hbad (by rw [ht];simp)]
  repeat (first|refine aw ?_|refine f1 ?_|refine m1 ?_)
  refine aN (aN (aI 2 rfl rfl ?_));exact Uw.wM
 | none=>
  rw [ht] at hth;have hth:bf (thE p.decls) (.s a)=none:=hth;by_cases hin:a∈fa.take i
  ·rw [if_pos hin] at hEg
   rw [hbad (fun h=>h.2 hin)]
   repeat (first|refine aw ?_|refine f1 ?_|refine m1 ?_)
   refine aN (aN (aI 2 rfl rfl ?_));exact Uw.wM
  ·rw [if_neg hin] at hEg
   have hfr:=hfree ⟨ht,hin⟩
   repeat (first|refine aw ?_|refine f1 ?_|refine m1 ?_)
   exact ay i hfr (by exact Uw.wM)
end Uw.Tryz
namespace Uw
open Go
theorem cP {P:Program} {Q:aG->St->Prop} {o:Option Dat} {k:Dat->Tree} (z v:Dat) (h:o.getD z=v) (h2:WT P Q (k v)):WT P Q (.test o.isSome (.val o k) (k z)):=by
 cases o with
 | none=>exact Hq rfl (by rw [<- h] at h2;exact h2)
 | some d=>exact Kv (v:=d) rfl (by rw [<- h] at h2;exact h2)
end Uw
namespace Uw.Tryz
open Go Uw
def FT (es:MS) (d:Dec):MS:=dK es (.i d.kind) (match (bf es (.i d.kind)).getD (I 0) with | .int _ c=>I (c+1)|_=>I 1)
def ctE (ds:List Dec):MS:=ds.foldl FT []
abbrev ctN (ds:List Dec) (k:Int):Nat:=ds.countP fun d=>decide (d.kind=k)
theorem H8 (ds:List Dec) (d:Dec):ctE (ds++[d])=FT (ctE ds) d:=by rw [ctE,aam];rfl
theorem uB (ds:List Dec):∀k:Int,(bf (ctE ds) (.i k)).getD (I 0)=I (ctN ds k:Nat):=by
 have key:∀n,∀k:Int,(bf (ctE (ds.take n)) (.i k)).getD (I 0)=I (ctN (ds.take n) k:Nat):=by
  intro n
  induction n with
  | zero=>intro k;rfl
  | succ n ih=>
   intro k
   rcases Zg n ds.length with h|h
   ·rw [YM h,H8,FT,fG,ih]
    have e:ctN (List.take n ds++[ds[n]]) k=ctN (List.take n ds) k+if ds[n].kind=k then 1 else 0:=by
     rw [ctN,aa8,abD];simp
    rw [e];by_cases hk:k=ds[n].kind
    ·subst hk
     rw [if_pos rfl,if_pos rfl];show I _=I _
     congr 1
    ·rw [if_neg (by simp;exact hk),if_neg (fun e=>hk e.symm),ih];rfl
   ·have e:ds.take (n+1)=ds.take n:=by rw [YU h,YU (by omega)]
    rw [e];exact ih k
 intro k;have:=key ds.length k
 rwa [YW] at this
theorem KY (ds:List Dec) (d:Dec):dK (ctE ds) (.i d.kind) (I ((ctN ds d.kind:Nat)+1))=ctE (ds++[d]):=by
 rw [H8,FT,uB]
end Uw.Tryz
namespace Uw.Tryz
open Go Uw
def B2:List Dec->List Dec->MS->MS
 | _,[],es=>es
 | pre,d::r,es=>B2 (pre++[d]) r (dK es (.s d.name) (.agg [I d.kind,I (ctN pre d.kind:Nat)]))
def tgE (ds:List Dec):MS:=B2 [] ds []
theorem DR (d:Dec):∀(l pre:List Dec) (es:MS),B2 pre (l++[d]) es=dK (B2 pre l es) (.s d.name) (.agg [I d.kind,I (ctN (pre++l) d.kind:Nat)])
 | [],pre,es=>by rw [Z4,B2,B2,B2,ZA]
 | e::l,pre,es=>by rw [Za,B2,DR d l,B2,Ze];rfl
theorem AL (ds:List Dec) (d:Dec):tgE (ds++[d])=dK (tgE ds) (.s d.name) (.agg [I d.kind,I (ctN ds d.kind:Nat)]):=by rw [tgE,DR];rfl
theorem FU (s:Str):∀(n:Nat) (ds:List Dec),(∀(i:Nat) (h:i<ds.length),i<n->ds[i].name≠s)->bf (tgE (ds.take n)) (.s s)=none
 | 0,ds,_=>by simp [tgE,B2,bf]
 | n+1,ds,h=>by
  rcases Zg n ds.length with hn|hn
  ·rw [YM hn,AL,fG,if_neg (by simp;exact fun e=>h n hn (by omega) e.symm)]
   exact FU s n ds fun i hi hin=>h i hi (by omega)
  ·rw [show ds.take (n+1)=ds.take n by rw [YU (by omega),YU hn]]
   exact FU s n ds fun i hi hin=>h i hi (by omega)
theorem FV (s:Str) (ds:List Dec) (i:Nat) (hi:i<ds.length) (hs:ds[i].name=s) (hu:∀(j:Nat) (h:j<ds.length),ds[j].name=s->j=i):∀n,i<n->bf (tgE (ds.take n)) (.s s)=some (.agg [I ds[i].kind,I (ctN (ds.take i) ds[i].kind:Nat)])
 | 0,h=>by omega
 | n+1,h=>by
  rcases Zg n ds.length with hn|hn
  ·rw [YM hn,AL,fG]
   by_cases e:n=i
   ·subst e
    rw [if_pos (by rw [hs])]
   ·rw [if_neg (by simp;exact fun e2=>e (hu n hn e2.symm))]
    exact FV s ds i hi hs hu n (by omega)
  ·rw [show ds.take (n+1)=ds.take n by rw [YU (by omega),YU hn]]
   exact FV s ds i hi hs hu n (by omega)
theorem U6 (p:Pg) (hn:(p.decls.map (·.name)).Nodup) (s:Str):bf (tgE p.decls) (.s s)=(aE p s).map fun k=>Dat.agg [I k,I (OV p s:Nat)]:=by
 have e:=YW (l:=p.decls);by_cases h:∃(i:Nat) (hi:i<p.decls.length),p.decls[i].name=s
 ·obtain ⟨i,hi,hs⟩:=h
  have hu:∀(j:Nat) (h:j<p.decls.length),p.decls[j].name=s->j=i:=fun j hj hjs=>o8 hn (by simpa using hj) (by simpa using hi) (by simp [hjs,hs]);have h1:=FV s p.decls i hi hs hu p.decls.length hi;rw [e] at h1;have h2:aE p s=some p.decls[i].kind:=by rw [<- hs];exact Jq hn (YT hi)
  have h3:OV p s=ctN (p.decls.take i) p.decls[i].kind:=by
   have:(p.decls.findIdx? fun d=>decide (d.name=s))=some i:=Zy.2 ⟨hi,by simpa using hs,fun j hj hjs=>by
    have:=hu j (by omega) (by simpa using hjs);omega⟩
   rw [OV,this,h2];rfl
  rw [h1,h2,h3];rfl
 ·have h1:=FU s p.decls.length p.decls fun i hi _ hs=>h ⟨i,hi,hs⟩
  rw [e] at h1;have h2:aE p s=none:=kU.2 fun d hd he=>by
   obtain ⟨j,hj,rfl⟩:=Y0.1 hd;exact h ⟨j,hj,he⟩
  rw [h1,h2];rfl
def fuE (fs:List Fu):MS:=fs.zipIdx.foldl (fun es y=>dK es (.s y.1.name) (I (y.2:Nat))) []
theorem AO (fs:List Fu) (f:Fu):fuE (fs++[f])=dK (fuE fs) (.s f.name) (I (fs.length:Nat)):=by
 rw [fuE,List.zipIdx_append,aam];simp [fuE]
theorem FW (s:Str):∀(n:Nat) (fs:List Fu),(∀(i:Nat) (h:i<fs.length),i<n->fs[i].name≠s)->bf (fuE (fs.take n)) (.s s)=none
 | 0,fs,_=>by simp [fuE,bf]
 | n+1,fs,h=>by
  rcases Zg n fs.length with hn|hn
  ·rw [YM hn,AO,fG,if_neg (by simp;exact fun e=>h n hn (by omega) e.symm)]
   exact FW s n fs fun i hi hin=>h i hi (by omega)
  ·rw [show fs.take (n+1)=fs.take n by rw [YU (by omega),YU hn]]
   exact FW s n fs fun i hi hin=>h i hi (by omega)
theorem FX (s:Str) (fs:List Fu) (i:Nat) (hi:i<fs.length) (hs:fs[i].name=s) (hu:∀(j:Nat) (h:j<fs.length),fs[j].name=s->j=i):∀n,i<n->bf (fuE (fs.take n)) (.s s)=some (I (i:Nat))
 | 0,h=>by omega
 | n+1,h=>by
  rcases Zg n fs.length with hn|hn
  ·rw [YM hn,AO,fG]
   by_cases e:n=i
   ·subst e
    rw [if_pos (by rw [hs]),Y8,aaZ (by omega)]
   ·rw [if_neg (by simp;exact fun e2=>e (hu n hn e2.symm))]
    exact FX s fs i hi hs hu n (by omega)
  ·rw [show fs.take (n+1)=fs.take n by rw [YU (by omega),YU hn]]
   exact FX s fs i hi hs hu n (by omega)
theorem Jx (p:Pg) (hn:(p.ae.map (·.name)).Nodup) (s:Str):bf (fuE p.ae) (.s s)=(cV p s).map fun (i:Nat)=>I (i:Nat):=by
 have e:=YW (l:=p.ae)
 cases h:cV p s with
 | some i=>
  obtain ⟨hi,hs⟩:=o9 h;have h1:=FX s p.ae i hi hs (fun j hj hjs=>o8 hn (by simpa using hj) (by simpa using hi) (by simp [hjs,hs])) p.ae.length hi;rw [e] at h1;rw [h1];rfl
 | none=>
  have h1:=FW s p.ae.length p.ae fun i hi _ hs=>by
   rw [<- hs,DK hn hi] at h;cases h
  rw [e] at h1;rw [h1];rfl
def hpE (n:Nat) (l:List Str):MS:=l.zipIdx.foldl (fun es y=>dK es (.s y.1) (I ((n+y.2:Nat):Int))) []
theorem AP (n:Nat) (l:List Str) (s:Str):hpE n (l++[s])=dK (hpE n l) (.s s) (I ((n+l.length:Nat):Int)):=by
 rw [hpE,List.zipIdx_append,aam];simp [hpE]
theorem Jy (n:Nat) (s:Str):∀(l:List Str),l.Nodup->bf (hpE n l) (.s s)=(mW l s).map fun i=>I ((n:Nat)+i):=by
 intro l;have key:∀(k:Nat) (l:List Str),l.length=k->l.Nodup->bf (hpE n l) (.s s)=(mW l s).map fun i=>I ((n:Nat)+i):=by
  intro k
  induction k with
  | zero=>
   intro l hl _;have:l=[]:=Y2 hl;subst this;rfl
  | succ k ih=>
   intro l hl hd;have hne:l≠[]:=by intro e;subst e;cases hl
   obtain ⟨r,x,rfl⟩:∃r x,l=r++[x]:=⟨l.dropLast,l.getLast hne,(List.dropLast_concat_getLast hne).symm⟩
   rw [aay] at hd;rw [AP,fG];have ih:=ih r (by simpa using hl) hd.1;by_cases e:x=s
   ·subst e
    have hx:x∉r:=fun hm=>hd.2.2 x hm x (by simp) rfl;have hf:(r.findIdx? fun t=>decide (t=x))=none:=aaS.2 fun t ht=>by
     have:t≠x:=fun e=>hx (e ▸ ht);simpa using this
    rw [if_pos rfl,mW,List.findIdx?_append,hf];simp
   ·rw [if_neg (by simp;exact fun h=>e h.symm),ih,mW,mW,List.findIdx?_append]
    cases r.findIdx? fun t=>decide (t=s) with
    | some i=>rfl
    | none=>simp [e]
 exact key l.length l rfl
theorem uC (x:Nd):∀(r:List Nd) (l:List Str),fj (r++[x]) l=if x.kind=11/\x.name2∉fj r l then fj r l++[x.name2] else fj r l
 | [],l=>rfl
 | y::r,l=>by rw [Za,fj,uC x r,fj]
theorem rW:∀(r:List Nd) (l:List Str),l.Nodup->(fj r l).Nodup
 | [],l,h=>h
 | x::r,l,h=>by
  rw [fj];refine rW r _ ?_
  split
  ·rename_i hx
   rw [aay];exact ⟨h,by simp,fun a ha b hb=>by simp at hb;subst hb;exact fun e=>hx.2 (e ▸ ha)⟩
  ·exact h
theorem LX {l:List Str} {s:Str}:(mW l s).isSome=decide (s∈l):=by
 rw [mW,Option.isSome_map];by_cases h:s∈l
 ·rw [decide_eq_true h]
  cases hf:l.findIdx? fun t=>decide (t=s) with
  | some i=>rfl
  | none=>
   have:=aaS.1 hf s h;simp at this
 ·rw [decide_eq_false h]
  cases hf:l.findIdx? fun t=>decide (t=s) with
  | none=>rfl
  | some i=>
   obtain ⟨h1,h2,_⟩:=Zy.1 hf;simp at h2;exact absurd (h2 ▸ YT h1) h
end Uw.Tryz
namespace Uw.Tryz
open Go Uw
structure U7 (p:Pg):Prop where
 decl:∀d∈p.decls,0<=d.n/\d.n<4294967296
 set:∀x∈p.nodes,x.kind=9->x.name≠[]
theorem sn (p:Pg):(Jt p).length=bX p.decls 0:=by
 rw [Jt,Y5,bX,List.countP_eq_length_filter]
structure Named (p:Pg) (c:Cd):Prop where
 cells:c.cells.length=bX p.decls 0
 maps:c.maps=(bX p.decls 1:Nat)
 stacks:c.stacks=(bX p.decls 2:Nat)
 chans:c.chans=(bX p.decls 3:Nat)
 ae:∀(k:Nat) (h:k<p.ae.length),k<c.ae.length/\(c.ae.getD k default).args=(p.ae[k].args.length:Nat)
 helps:∀(k:Nat),k<(cS p).length->p.ae.length+k<c.ae.length/\(c.ae.getD (p.ae.length+k) default).args=2
end Uw.Tryz
namespace Uw.Tryz
open Go Uw
def cm (was is:Str) (s:Str):Str:=if s=was then is else s
def cr (was is:Str) (x:Nd):Nd:=if x.kind=2\/x.kind=9\/x.kind=10\/x.kind=11 then { x with name:=cm was is x.name } else x
def j8 (was is:Str) (f:Fu):Fu:={ f with args:=f.args.map (cm was is) }
def bC (was is:Str) (p:Pg):Pg:=⟨p.decls,p.ae.map (j8 was is),p.nodes.map (cr was is)⟩
structure Turn (was is:Str) (p:Pg):Prop where
 XS:was≠[]
 is0:is≠[]
 decl:∀d∈p.decls,d.name≠was/\d.name≠is
 args:∀f∈p.ae,∀a∈f.args,a≠is
 node:∀x∈p.nodes,x.name≠is
theorem cz (was is:Str) (x:Nd):(cr was is x).kind=x.kind/\(cr was is x).n=x.n/\(cr was is x).name2=x.name2/\(cr was is x).of=x.of:=by
 unfold cr;split<;>exact ⟨rfl,rfl,rfl,rfl⟩
section
variable {was is : Str} {p : Pg} (h : Turn was is p)
include h
theorem Turn.inj {a b:Str} (ha:a≠is) (hb:b≠is) (e:cm was is a=cm was is b):a=b:=by
 unfold cm at e
 split at e<;>split at e
 ·rename_i h1 h2;rw [h1,h2]
 ·exact absurd e.symm hb
 ·exact absurd e ha
 ·exact e
theorem Turn.nil {a:Str}:cm was is a=[]<->a=[]:=by
 unfold cm
 split
 ·rename_i e;exact ⟨fun e2=>absurd e2 h.is0,fun e2=>absurd (e ▸ e2) h.XS⟩
 ·exact Iff.rfl
theorem Turn.thing (s:Str) (hs:s≠is):aE (bC was is p) (cm was is s)=aE p s:=by
 show aE p (cm was is s)=aE p s;unfold cm
 split
 ·rename_i e
  have h1:aE p is=none:=kU.2 fun d hd=>(h.decl d hd).2;have h2:aE p s=none:=kU.2 fun d hd=>e ▸ (h.decl d hd).1;rw [h1,h2]
 ·rfl
theorem Turn.LY (s:Str):cV (bC was is p) s=cV p s:=by
 show (p.ae.map (j8 was is)).findIdx? _=p.ae.findIdx? _;rw [List.findIdx?_map];rfl
omit h in
theorem FY (k:Int):cU (bC was is p).nodes k=cU p.nodes k:=by
 unfold cU;show ((p.nodes.map (cr was is)).getD k.toNat default).kind=_;simp only [List.getD,ZB]
 cases p.nodes[k.toNat]? with
 | none=>rfl
 | some x=>exact (cz was is x).1
omit h in
theorem H9 (x:Nd):dH (bC was is p).nodes (cr was is x)=dH p.nodes x:=by
 obtain ⟨h1,h2,h3,h4⟩:=cz was is x;unfold dH ct;rw [h1,h2,h4,FY]
 congr 1
 exact List.map_congr_left fun k _=>by rw [FY]
omit h in
theorem x5:aY (bC was is p)=aY p:=by
 have h1:∀(l:List Nd) (i:Nat),ez (bC was is p).nodes i (l.map (cr was is))=ez p.nodes i l:=by
  intro l
  induction l with
  | nil=>intro i;rfl
  | cons x l ih=>
   intro i;rw [Zm,ez,ez,ih,mK,mK,H9,(cz was is x).2.2.2]
 have h2:eX (bC was is p)=eX p:=by
  unfold eX
  congr 1
  ·show (p.nodes.map (cr was is)).flatMap _=_
   rw [List.flatMap_map]
   congr 1;funext x;exact (cz was is x).2.2.2
  ·show (p.ae.map (j8 was is)).map _=_
   rw [aaq];rfl
 have h3:(bC was is p).nodes.length=p.nodes.length:=by show (p.nodes.map _).length=_;simp
 unfold aY;rw [h2,h3];have h4:(bC was is p).ae.all (gQ (bC was is p).nodes)=p.ae.all (gQ p.nodes):=by
  show (p.ae.map (j8 was is)).all _=_;rw [List.all_map]
  congr 1;funext f
  show gQ (bC was is p).nodes (j8 was is f)=gQ p.nodes f;unfold gQ;rw [h3,show (j8 was is f).body=f.body from rfl,FY]
 rw [h4,show ez (bC was is p).nodes 0 (bC was is p).nodes=ez p.nodes 0 p.nodes from h1 p.nodes 0]
omit h in
theorem x6:aD (bC was is p)=aD p:=by
 have h1:∀(fs:List Fu) (i:Nat) (o:List Int),nW (fs.map (j8 was is)) i o=nW fs i o:=by
  intro fs
  induction fs with
  | nil=>intro i o;rfl
  | cons f fs ih=>intro i o;rw [Zm,nW,nW,ih];rfl
 have h2:∀(l:List Nd) (b:Nat),idx b (l.map (cr was is))=(idx b l).map fun y=>(y.1,cr was is y.2):=by
  intro l
  induction l with
  | nil=>intro b;rfl
  | cons x l ih=>intro b;rw [Zm,idx,idx,ih,Zm]
 have h3:∀(l:List (Nat×Nd)) (o:List Int),eA (l.map fun y=>(y.1,cr was is y.2)) o=eA l o:=by
  intro l
  induction l with
  | nil=>intro o;rfl
  | cons y l ih=>
   intro o;obtain ⟨i,x⟩:=y;rw [Zm,eA,eA,ih,fV,fV,(cz was is x).2.2.2]
 unfold aD;rw [show (bC was is p).nodes=p.nodes.map (cr was is) from rfl,h2,<- List.map_reverse,h3,Y5,show (bC was is p).ae=p.ae.map (j8 was is) from rfl,h1]
def FZ (is:Str) (l:List Str):Prop:=∀s∈l,s≠is
theorem Turn.mem {l:List Str} (hl:FZ is l) {s:Str} (hs:s≠is):cm was is s∈l.map (cm was is)<->s∈l:=by
 constructor
 ·intro hm
  obtain ⟨a,ha,e⟩:=Zk.1 hm;rw [<- h.inj (hl a ha) hs e];exact ha
 ·exact fun hm=>Zk.2 ⟨s,hm,rfl⟩
theorem Turn.dA (x:Nd) (hx:x∈p.nodes):Uw.Tryz.dA (bC was is p) (cr was is x)=Uw.Tryz.dA p x:=by
 unfold Uw.Tryz.dA;rw [(cz was is x).1];by_cases hk:x.kind=9\/x.kind=10\/x.kind=11
 ·have e:(cr was is x).name=cm was is x.name:=by unfold cr;rw [if_pos (by omega)]
  rw [e,h.thing x.name (h.node x hx)];have:decide (cm was is x.name=[])=decide (x.name=[]):=by rw [decide_eq_decide];exact h.nil
  rw [this]
 ·have:(decide (x.kind=9)||decide (x.kind=10)||decide (x.kind=11))=false:=by simp;omega
  rw [this];rfl
theorem Turn.go:∀(r:List (Nd×Int)) (ls:List (List Str)),(∀y∈r,y.1∈p.nodes)->(∀l∈ls,FZ is l)->
  dc (bC was is p) (r.map fun y=>(cr was is y.1,y.2)) (ls.map fun l=>l.map (cm was is))=(dc p r ls).map (fun l=>l.map (cm was is))/\∀l∈dc p r ls,FZ is l
 | [],ls,_,hl=>⟨rfl,hl⟩
 | (x,o)::r,ls,hr,hl=>by
  have hx:=hr (x,o) (by simp);have hget:∀f,FZ is (ls.getD f []):=fun f=>by
   rw [List.getD]
   cases hf:ls[f]? with
   | none=>intro s hs;simp at hs
   | some l=>exact hl l (Y4 hf)
  rw [Zm,dc,dc,h.dA x hx]
  cases hN:Uw.Tryz.dA p x with
  | false=>
   rw [if_neg (by simp),if_neg (by simp)];exact Turn.go r ls (fun y hy=>hr y (by simp [hy])) hl
  | true=>
   rw [if_pos rfl,if_pos rfl];have hk:x.kind=9\/x.kind=10\/x.kind=11:=by
    unfold Uw.Tryz.dA at hN;simp only [YL,Zj,decide_eq_true_eq] at hN;omega
   have e:(cr was is x).name=cm was is x.name:=by unfold cr;rw [if_pos (by omega)]
   have hn:=h.node x hx;have hg:(ls.map fun l=>l.map (cm was is)).getD o.toNat []=(ls.getD o.toNat []).map (cm was is):=by
    simp only [List.getD,ZB]
    cases ls[o.toNat]?<;>rfl
   have ha:addLocal (ls.map fun l=>l.map (cm was is)) o.toNat (cr was is x).name=(addLocal ls o.toNat x.name).map (fun l=>l.map (cm was is)):=by
    unfold addLocal;rw [hg,e];by_cases hm:x.name∈ls.getD o.toNat []
    ·rw [if_pos hm,if_pos ((h.mem (hget _) hn).2 hm)]
    ·rw [if_neg hm,if_neg (fun hh=>hm ((h.mem (hget _) hn).1 hh)),aaX,ZO];rfl
   rw [ha];refine Turn.go r _ (fun y hy=>hr y (by simp [hy])) fun l hm=>?_;unfold addLocal at hm
   split at hm
   ·exact hl l hm
   ·rcases ZW hm with hm|rfl
    ·exact hl l hm
    ·intro s hs
     rcases Y7.1 hs with hs|hs
     ·exact hget _ s hs
     ·simp at hs;subst hs;exact hn
theorem Turn.locals:aj (bC was is p)=(aj p).map (fun l=>l.map (cm was is))/\∀l∈aj p,FZ is l:=by
 have hz:(bC was is p).nodes.zip (aD (bC was is p))=(p.nodes.zip (aD p)).map fun y=>(cr was is y.1,y.2):=by
  rw [x6];show (p.nodes.map (cr was is)).zip _=_;rw [List.zip_map_left];rfl
 have ha:(bC was is p).ae.map (·.args)=(p.ae.map (·.args)).map (fun l=>l.map (cm was is)):=by
  show (p.ae.map (j8 was is)).map _=_;rw [aaq,aaq];rfl
 have:=Turn.go h (p.nodes.zip (aD p)) (p.ae.map (·.args)) (fun y hy=>(List.of_mem_zip hy).1) fun l hl=>by
  obtain ⟨f,hf,rfl⟩:=Zk.1 hl;exact h.args f hf
 unfold aj;rw [hz,ha];exact this
end
end Uw.Tryz
namespace Uw.Tryz
open Go Uw
structure Mk where
 ns:List Nd
 te:MS
 fe:MS
 he:MS
 le:MS
 pd:Dat
abbrev mkB (M:Mk) (l:List In4):List Blk:=[.var [.d (bZ M.ns),.hnd 1,.hnd 2,.hnd 3,.d M.pd,.hnd 4,.ref 5 l.length 0 l.length],.map none M.te,.map none M.fe,.map none M.he,.map none M.le,.mt 4 l.length (l.map in4)]
theorem bL (M:Mk) (l:List In4) (hl:l.length<1000000) (op a b c:Int):bm P0 lC [.ptr 0 0,.d (I op),.d (I a),.d (I b),.d (I c)] (mkB M l) (.tuple []) (mkB M (l++[⟨op,a,b,c⟩])):=by
 have hS:mkB M (l++[⟨op,a,b,c⟩])=[.var [.d (bZ M.ns),.hnd 1,.hnd 2,.hnd 3,.d M.pd,.hnd 4,.ref 5 (l.length+1) 0 (l.length+1)],.map none M.te,.map none M.fe,.map none M.he,.map none M.le,.mt 4 (l.length+1) ((l.map in4).take l.length++[[I op,I a,I b,I c]])]:=by
  have e:(l.map in4).take l.length=l.map in4:=YU (by simp);rw [mkB,e];simp [in4]
 have hv:Nat.beq l.length l.length=true:=aaW _;have hby:decide ((l.length+1) * 32<=70368744177664)=true:=by rw [decide_eq_true_eq];omega
 rw [hS];refine aJ rF rfl ?_
 repeat refine aw ?_
 refine dr 6 rfl rfl ?_;exact Uw.wM
abbrev opE:MS:=[(.s LN,I 1),(.s LP,I 2),(.s LO,I 3),(.s DG,I 4),(.s LQ,I 5),(.s DI,I 6),(.s DJ,I 7)]
theorem U8 (s:Str):(Ar s=0/\bf opE (.s s)=none)\/bf opE (.s s)=some (I (Ar s)):=by
 by_cases a1:s=LN
 ·subst a1;exact .inr rfl
 by_cases a2:s=LP
 ·subst a2;exact .inr rfl
 by_cases a3:s=LO
 ·subst a3;exact .inr rfl
 by_cases a4:s=DG
 ·subst a4;exact .inr rfl
 by_cases a5:s=LQ
 ·subst a5;exact .inr rfl
 by_cases a6:s=DI
 ·subst a6;exact .inr rfl
 by_cases a7:s=DJ
 ·subst a7;exact .inr rfl
 exact .inl ⟨by simp [Ar,a1,a2,a3,a4,a5,a6,a7],by simp [bf,a1,a2,a3,a4,a5,a6,a7]⟩
theorem s4 (s:Str):Ret P0 lG [.str s] (I (Ar s)):=by
 rcases U8 s with ⟨e,hg⟩|hg
 ·rw [e]
  refine aF kS rfl ?_
  repeat (first|refine aw ?_|refine m1 ?_)
  exact al rfl rfl rfl rfl rfl
 ·refine aF kS rfl ?_
  repeat (first|refine aw ?_|refine m1 ?_)
  exact al rfl rfl rfl rfl rfl
theorem vQ (k:Int) (hk:3<=k/\k<=7):Ret P0 nJ [I k] (I (k+3)):=by
 have:k=3\/k=4\/k=5\/k=6\/k=7:=by omega
 rcases this with rfl|rfl|rfl|rfl|rfl
 all_goals refine aF uo rfl ?_
 all_goals repeat refine aw ?_
 all_goals exact al rfl rfl rfl rfl rfl
theorem lr (M:Mk) (l:List In4) (s:Str) (v:Option Int) (h:bf M.le (.s s)=v.map I):bm P0 j0 [.ptr 0 0,.d (.str s)] (mkB M l) (.d (I (v.getD (-1)))) (mkB M l):=by
 cases v with
 | some i=>
  have h:bf M.le (.s s)=some (I i):=h;refine aJ jM rfl ?_
  repeat (first|refine aw ?_|refine m1 ?_)
  refine aI 6 rfl rfl ?_;exact Uw.wM
 | none=>
  have h:bf M.le (.s s)=none:=h;refine aJ jM rfl ?_
  repeat (first|refine aw ?_|refine m1 ?_)
  refine aI 6 rfl rfl ?_;exact Uw.wM
theorem jP (M:Mk) (l:List In4) (s:Str) (v:Option Int) (h:bf M.le (.s s)=v.map I):bm P0 kT [.ptr 0 0,.d (.str s)] (mkB M l) (.d (I (if s=[] then -1 else v.getD (-1)))) (mkB M l):=by
 by_cases q:s=[]
 ·rw [if_pos q]
  refine aJ j6 rfl ?_
  repeat refine aw ?_
  refine aI 6 rfl rfl ?_;exact Uw.wM
 ·rw [if_neg q]
  have hlo:=lr M l s v h;refine aJ j6 rfl ?_
  repeat refine aw ?_
  refine ag 6 [0,1,2,3,4,5] hlo ?_
  repeat refine aw ?_
  refine aI 6 rfl rfl ?_;exact Uw.wM
end Uw.Tryz
namespace Uw.Tryz
open Go Uw
structure U9 (M:Mk) (N:Nms):Prop where
 things:∀s,bf M.te (.s s)=(N.things s).map fun t=>Dat.agg [I t.1,I t.2]
 ae:∀s,(bf M.fe (.s s)).getD (I 0)=I (N.ae s)
 helps:∀s,(bf M.he (.s s)).getD (I 0)=I (N.helps s)
 wV:∀s,bf M.le (.s s)=(N.wV s).map I
abbrev ndC (xk xn:Int) (xs xt:Str) (xo:List Int):V:=.agg [.d (I xk),.d (I xn),.d (.str xs),.d (.str xt),.d (cb xo)]
abbrev lsS (M:Mk) (l:List In4) (xk xn:Int) (xs xt:Str) (xo:List Int) (b:Bool) (tk tn:Int):St:=⟨[(5,.d (.bool b)),(4,.ptr 7 0),(3,.ptr 6 0),(0,.ptr 0 0)],(7,.var [.d (I tk),.d (I tn)])::(6,.var [.d (I xk),.d (I xn),.d (.str xs),.d (.str xt),.d (cb xo)])::bu 0 (mkB M l),8,[],6⟩
def Rx (M:Mk) (xs:Str) (b:Bool) (tk tn:Int):Prop:=(bf M.te (.s xs)=none/\b=false/\tk=0/\tn=0)\/(bf M.te (.s xs)=some (.agg [I tk,I tn])/\b=true)
theorem xe (M:Mk) (l:List In4) (hl:l.length<1000000) (xk xn:Int) (xs xt:Str) (xo:List Int) (hxo:xo.length<1000000) (b:Bool) (tk tn:Int) (hth:Rx M xs b tk tn) (i:In4) (h:(xk=1/\i=⟨1,xn,0,0⟩)\/(xk=12/\i=⟨14,0,0,0⟩)\/(xk=15/\i=⟨17,0,0,0⟩)\/(xk=16/\i=⟨18,0,0,0⟩)\/(xk=17/\i=⟨12,0,0,0⟩)\/(xk=8/\i=⟨11,Ar xt,tn,((xo.map fun i=>[I i]).length:Nat)⟩)):bm P0 aX [.ptr 0 0,ndC xk xn xs xt xo] (mkB M l) (.tuple []) (mkB M (l++[i])):=by
 have hol:(xo.map fun i=>[I i]).length=xo.length:=by simp
 have hput:=bL M l hl i.op i.a i.b i.c;have hop:=s4 xt
 rcases hth with ⟨h2,rfl,rfl,rfl⟩|⟨h2,rfl⟩
 ·rcases h with ⟨hk,rfl⟩|⟨hk,rfl⟩|⟨hk,rfl⟩|⟨hk,rfl⟩|⟨hk,rfl⟩|⟨hk,rfl⟩
  all_goals
   refine aJ bj rfl ?_
   repeat refine aw ?_
   refine b9 (lsS M l xk xn xs xt xo false 0 0) ?_ ?_
   ·repeat (first|refine aw ?_|refine m1 ?_)
    exact bg (.inl ⟨rfl,by exact Uw.wM⟩)
   repeat (first|refine aw ?_|refine m1 ?_)
   refine ag 8 [0,1,2,3,4,5] hput ?_
   repeat refine aw ?_
   refine dr 6 rfl rfl ?_;exact Uw.wM
 ·rcases h with ⟨hk,rfl⟩|⟨hk,rfl⟩|⟨hk,rfl⟩|⟨hk,rfl⟩|⟨hk,rfl⟩|⟨hk,rfl⟩
  all_goals
   refine aJ bj rfl ?_
   repeat refine aw ?_
   refine b9 (lsS M l xk xn xs xt xo true tk tn) ?_ ?_
   ·repeat (first|refine aw ?_|refine m1 ?_)
    exact bg (.inl ⟨rfl,by exact Uw.wM⟩)
   repeat (first|refine aw ?_|refine m1 ?_)
   refine ag 8 [0,1,2,3,4,5] hput ?_
   repeat refine aw ?_
   refine dr 6 rfl rfl ?_;exact Uw.wM
theorem Ry (M:Mk) (l:List In4) (hl:l.length<1000000) (xn:Int) (xs xt:Str) (xo:List Int) (hxo:xo.length<1000000) (tk tn:Int) (h:bf M.te (.s xs)=some (.agg [I tk,I tn])):bm P0 aX [.ptr 0 0,ndC 2 xn xs xt xo] (mkB M l) (.tuple []) (mkB M (l++[⟨4,tn,0,0⟩])):=by
 have hol:(xo.map fun i=>[I i]).length=xo.length:=by simp
 have hput:=bL M l hl;have hput:=hput 4 tn 0 0;refine aJ bj rfl ?_
 repeat refine aw ?_
 refine b9 (lsS M l 2 xn xs xt xo true tk tn) ?_ ?_
 ·repeat (first|refine aw ?_|refine m1 ?_)
  exact bg (.inl ⟨rfl,by exact Uw.wM⟩)
 repeat (first|refine aw ?_|refine m1 ?_)
 refine ag 8 [0,1,2,3,4,5] hput ?_
 repeat refine aw ?_
 refine dr 6 rfl rfl ?_;exact Uw.wM
theorem Rz (M:Mk) (l:List In4) (hl:l.length<1000000) (xn:Int) (xs xt:Str) (xo:List Int) (hxo:xo.length<1000000) (h:bf M.te (.s xs)=none) (v:Option Int) (hv:bf M.le (.s xs)=v.map I):bm P0 aX [.ptr 0 0,ndC 2 xn xs xt xo] (mkB M l) (.tuple []) (mkB M (l++[⟨2,v.getD (-1),0,0⟩])):=by
 have hol:(xo.map fun i=>[I i]).length=xo.length:=by simp
 have hput:=bL M l hl;have hput:=hput 2 (v.getD (-1)) 0 0;have hlo:=lr M l xs v hv;refine aJ bj rfl ?_
 repeat refine aw ?_
 refine b9 (lsS M l 2 xn xs xt xo false 0 0) ?_ ?_
 ·repeat (first|refine aw ?_|refine m1 ?_)
  exact bg (.inl ⟨rfl,by exact Uw.wM⟩)
 repeat (first|refine aw ?_|refine m1 ?_)
 refine ag 8 [0,1,2,3,4,5] hlo ?_
 repeat refine aw ?_
 refine ag 8 [0,1,2,3,4,5] hput ?_
 repeat refine aw ?_
 refine dr 6 rfl rfl ?_;exact Uw.wM
theorem RA (M:Mk) (l:List In4) (hl:l.length<1000000) (xn:Int) (xs xt:Str) (xo:List Int) (hxo:xo.length<1000000) (tk tn:Int) (h:bf M.te (.s xs)=some (.agg [I tk,I tn])):bm P0 aX [.ptr 0 0,ndC 9 xn xs xt xo] (mkB M l) (.tuple []) (mkB M (l++[⟨5,tn,0,0⟩])):=by
 have hol:(xo.map fun i=>[I i]).length=xo.length:=by simp
 have hput:=bL M l hl;have hput:=hput 5 tn 0 0;refine aJ bj rfl ?_
 repeat refine aw ?_
 refine b9 (lsS M l 9 xn xs xt xo true tk tn) ?_ ?_
 ·repeat (first|refine aw ?_|refine m1 ?_)
  exact bg (.inl ⟨rfl,by exact Uw.wM⟩)
 repeat (first|refine aw ?_|refine m1 ?_)
 refine ag 8 [0,1,2,3,4,5] hput ?_
 repeat refine aw ?_
 refine dr 6 rfl rfl ?_;exact Uw.wM
theorem RB (M:Mk) (l:List In4) (hl:l.length<1000000) (xn:Int) (xs xt:Str) (xo:List Int) (hxo:xo.length<1000000) (h:bf M.te (.s xs)=none) (v:Option Int) (hv:bf M.le (.s xs)=v.map I):bm P0 aX [.ptr 0 0,ndC 9 xn xs xt xo] (mkB M l) (.tuple []) (mkB M (l++[⟨3,v.getD (-1),0,0⟩])):=by
 have hol:(xo.map fun i=>[I i]).length=xo.length:=by simp
 have hput:=bL M l hl;have hput:=hput 3 (v.getD (-1)) 0 0;have hlo:=lr M l xs v hv;refine aJ bj rfl ?_
 repeat refine aw ?_
 refine b9 (lsS M l 9 xn xs xt xo false 0 0) ?_ ?_
 ·repeat (first|refine aw ?_|refine m1 ?_)
  exact bg (.inl ⟨rfl,by exact Uw.wM⟩)
 repeat (first|refine aw ?_|refine m1 ?_)
 refine ag 8 [0,1,2,3,4,5] hlo ?_
 repeat refine aw ?_
 refine ag 8 [0,1,2,3,4,5] hput ?_
 repeat refine aw ?_
 refine dr 6 rfl rfl ?_;exact Uw.wM
theorem Vb (M:Mk) (l:List In4) (hl:l.length<1000000) (xk xn:Int) (xs xt:Str) (xo:List Int) (hxo:xo.length<1000000) (b:Bool) (tk tn:Int) (hth:Rx M xs b tk tn) (hk:3<=xk/\xk<=7):bm P0 aX [.ptr 0 0,ndC xk xn xs xt xo] (mkB M l) (.tuple []) (mkB M (l++[⟨xk+3,0,0,0⟩])):=by
 have hput:=bL M l hl (xk+3) 0 0 0;have hrk:=vQ xk hk;have h:xk=3\/xk=4\/xk=5\/xk=6\/xk=7:=by omega
 rcases hth with ⟨h2,rfl,rfl,rfl⟩|⟨h2,rfl⟩
 ·rcases h with hk|hk|hk|hk|hk
  all_goals
   refine aJ bj rfl ?_
   repeat refine aw ?_
   refine b9 (lsS M l xk xn xs xt xo false 0 0) ?_ ?_
   ·repeat (first|refine aw ?_|refine m1 ?_)
    exact bg (.inl ⟨rfl,by exact Uw.wM⟩)
   repeat (first|refine aw ?_|refine m1 ?_)
   refine ag 8 [0,1,2,3,4,5] hput ?_
   repeat refine aw ?_
   refine dr 6 rfl rfl ?_;exact Uw.wM
 ·rcases h with hk|hk|hk|hk|hk
  all_goals
   refine aJ bj rfl ?_
   repeat refine aw ?_
   refine b9 (lsS M l xk xn xs xt xo true tk tn) ?_ ?_
   ·repeat (first|refine aw ?_|refine m1 ?_)
    exact bg (.inl ⟨rfl,by exact Uw.wM⟩)
   repeat (first|refine aw ?_|refine m1 ?_)
   refine ag 8 [0,1,2,3,4,5] hput ?_
   repeat refine aw ?_
   refine dr 6 rfl rfl ?_;exact Uw.wM
end Uw.Tryz
namespace Uw.Tryz
open Go Uw
theorem O1 (M:Mk) (l:List In4) (hl:l.length<1000000) (xn:Int) (xs xt:Str) (xo:List Int) (hxo:xo.length<1000000) (h:bf M.te (.s xs)=none) (fn:Int) (hfu:(bf M.fe (.s xt)).getD (I 0)=I fn) (v:Option Int) (hv:bf M.le (.s xs)=v.map I):bm P0 aX [.ptr 0 0,ndC 10 xn xs xt xo] (mkB M l) (.tuple []) (mkB M (l++[⟨13,fn,((xo.map fun i=>[I i]).length:Nat),if xs=[] then -1 else v.getD (-1)⟩])):=by
 have hol:(xo.map fun i=>[I i]).length=xo.length:=by simp
 have hput:=bL M l hl 13 fn (((xo.map fun i=>[I i]).length:Nat)) (if xs=[] then -1 else v.getD (-1));have hde:=jP M l xs v hv;generalize (if xs=[] then -1 else v.getD (-1))=de at *;refine aJ bj rfl ?_
 repeat refine aw ?_
 refine b9 (lsS M l 10 xn xs xt xo false 0 0) ?_ ?_
 ·repeat (first|refine aw ?_|refine m1 ?_)
  exact bg (.inl ⟨rfl,by exact Uw.wM⟩)
 repeat (first|refine aw ?_|refine m1 ?_)
 refine b9 ⟨[],bu 0 (mkB M (l++[⟨13,fn,((xo.map fun i=>[I i]).length:Nat),de⟩])),8,[],6⟩ ?_ ?_
 ·repeat (first|refine aw ?_|refine m1 ?_)
  refine cP (I 0) _ hfu ?_
  repeat (first|refine aw ?_|refine m1 ?_)
  refine ag 8 [0,1,2,3,4,5] hde ?_
  repeat (first|refine aw ?_|refine m1 ?_)
  refine cP (I 0) _ hfu ?_
  repeat (first|refine aw ?_|refine m1 ?_)
  refine ag 8 [0,1,2,3,4,5] hput ?_
  repeat (first|refine aw ?_|refine m1 ?_)
  exact bg (.inl ⟨rfl,by exact Uw.wM⟩)
 refine dr 6 rfl rfl ?_;exact Uw.wM
theorem O2 (M:Mk) (l:List In4) (hl:l.length<1000000) (xn:Int) (xs xt:Str) (xo:List Int) (hxo:xo.length<1000000) (tk tn:Int) (h:bf M.te (.s xs)=some (.agg [I tk,I tn])) (fn:Int) (hfu:(bf M.fe (.s xt)).getD (I 0)=I fn) (v:Option Int) (hv:bf M.le (.s xs)=v.map I):bm P0 aX [.ptr 0 0,ndC 10 xn xs xt xo] (mkB M l) (.tuple []) (mkB M (l++[⟨13,fn,((xo.map fun i=>[I i]).length:Nat),if xs=[] then -1 else v.getD (-1)⟩])):=by
 have hol:(xo.map fun i=>[I i]).length=xo.length:=by simp
 have hput:=bL M l hl 13 fn (((xo.map fun i=>[I i]).length:Nat)) (if xs=[] then -1 else v.getD (-1));have hde:=jP M l xs v hv;generalize (if xs=[] then -1 else v.getD (-1))=de at *;refine aJ bj rfl ?_
 repeat refine aw ?_
 refine b9 (lsS M l 10 xn xs xt xo true tk tn) ?_ ?_
 ·repeat (first|refine aw ?_|refine m1 ?_)
  exact bg (.inl ⟨rfl,by exact Uw.wM⟩)
 repeat (first|refine aw ?_|refine m1 ?_)
 refine b9 ⟨[],bu 0 (mkB M (l++[⟨13,fn,((xo.map fun i=>[I i]).length:Nat),de⟩])),8,[],6⟩ ?_ ?_
 ·repeat (first|refine aw ?_|refine m1 ?_)
  refine cP (I 0) _ hfu ?_
  repeat (first|refine aw ?_|refine m1 ?_)
  refine ag 8 [0,1,2,3,4,5] hde ?_
  repeat (first|refine aw ?_|refine m1 ?_)
  refine cP (I 0) _ hfu ?_
  repeat (first|refine aw ?_|refine m1 ?_)
  refine ag 8 [0,1,2,3,4,5] hput ?_
  repeat (first|refine aw ?_|refine m1 ?_)
  exact bg (.inl ⟨rfl,by exact Uw.wM⟩)
 refine dr 6 rfl rfl ?_;exact Uw.wM
theorem O4 (M:Mk) (l:List In4) (hl:l.length<1000000) (xn:Int) (xs xt:Str) (xo:List Int) (hxo:xo.length<1000000) (h:bf M.te (.s xs)=none) (fn:Int) (hfu:(bf M.he (.s xt)).getD (I 0)=I fn) (v:Option Int) (hv:bf M.le (.s xs)=v.map I):bm P0 aX [.ptr 0 0,ndC 11 xn xs xt xo] (mkB M l) (.tuple []) (mkB M (l++[⟨13,fn,2,if xs=[] then -1 else v.getD (-1)⟩])):=by
 have hol:(xo.map fun i=>[I i]).length=xo.length:=by simp
 have hput:=bL M l hl 13 fn 2 (if xs=[] then -1 else v.getD (-1));have hde:=jP M l xs v hv;generalize (if xs=[] then -1 else v.getD (-1))=de at *;refine aJ bj rfl ?_
 repeat refine aw ?_
 refine b9 (lsS M l 11 xn xs xt xo false 0 0) ?_ ?_
 ·repeat (first|refine aw ?_|refine m1 ?_)
  exact bg (.inl ⟨rfl,by exact Uw.wM⟩)
 repeat (first|refine aw ?_|refine m1 ?_)
 refine b9 ⟨[],bu 0 (mkB M (l++[⟨13,fn,2,de⟩])),8,[],6⟩ ?_ ?_
 ·repeat (first|refine aw ?_|refine m1 ?_)
  refine cP (I 0) _ hfu ?_
  repeat (first|refine aw ?_|refine m1 ?_)
  refine ag 8 [0,1,2,3,4,5] hde ?_
  repeat (first|refine aw ?_|refine m1 ?_)
  refine cP (I 0) _ hfu ?_
  repeat (first|refine aw ?_|refine m1 ?_)
  refine ag 8 [0,1,2,3,4,5] hput ?_
  repeat (first|refine aw ?_|refine m1 ?_)
  exact bg (.inl ⟨rfl,by exact Uw.wM⟩)
 refine dr 6 rfl rfl ?_;exact Uw.wM
theorem O5 (M:Mk) (l:List In4) (hl:l.length<1000000) (xn:Int) (xs xt:Str) (xo:List Int) (hxo:xo.length<1000000) (tk tn:Int) (h:bf M.te (.s xs)=some (.agg [I tk,I tn])) (fn:Int) (hfu:(bf M.he (.s xt)).getD (I 0)=I fn) (v:Option Int) (hv:bf M.le (.s xs)=v.map I):bm P0 aX [.ptr 0 0,ndC 11 xn xs xt xo] (mkB M l) (.tuple []) (mkB M (l++[⟨13,fn,2,if xs=[] then -1 else v.getD (-1)⟩])):=by
 have hol:(xo.map fun i=>[I i]).length=xo.length:=by simp
 have hput:=bL M l hl 13 fn 2 (if xs=[] then -1 else v.getD (-1));have hde:=jP M l xs v hv;generalize (if xs=[] then -1 else v.getD (-1))=de at *;refine aJ bj rfl ?_
 repeat refine aw ?_
 refine b9 (lsS M l 11 xn xs xt xo true tk tn) ?_ ?_
 ·repeat (first|refine aw ?_|refine m1 ?_)
  exact bg (.inl ⟨rfl,by exact Uw.wM⟩)
 repeat (first|refine aw ?_|refine m1 ?_)
 refine b9 ⟨[],bu 0 (mkB M (l++[⟨13,fn,2,de⟩])),8,[],6⟩ ?_ ?_
 ·repeat (first|refine aw ?_|refine m1 ?_)
  refine cP (I 0) _ hfu ?_
  repeat (first|refine aw ?_|refine m1 ?_)
  refine ag 8 [0,1,2,3,4,5] hde ?_
  repeat (first|refine aw ?_|refine m1 ?_)
  refine cP (I 0) _ hfu ?_
  repeat (first|refine aw ?_|refine m1 ?_)
  refine ag 8 [0,1,2,3,4,5] hput ?_
  repeat (first|refine aw ?_|refine m1 ?_)
  exact bg (.inl ⟨rfl,by exact Uw.wM⟩)
 refine dr 6 rfl rfl ?_;exact Uw.wM
end Uw.Tryz
namespace Uw.Tryz
open Go Uw
abbrev i2 (o a:Int):In4:=⟨o,a,0,0⟩
theorem WL {l:List In4} {i:Nat} {x:In4} (h:l[i]? = some x):(l.map in4)[i]? = some (in4 x):=by rw [ZB,h];rfl
theorem x7 {l:List Int} {i:Nat} {c:Int} (h:l[i]? = some c):(l.map fun i=>[I i])[((i:Nat):Int).toNat]? = some [I c]:=by
 rw [aaA,ZB,h];rfl
theorem O6 {l:List Int} {i:Nat} {c:Int} (h:l[i]? = some c):(i:Int)<((l.map fun i=>[I i]).length:Nat):=by
 have:=(Zi.1 h).1;rw [Y5];omega
theorem F2 (M:Mk) (l:List In4) (i:Nat) (o a:Int):mkB M (l.set i (i2 o a))=[.var [.d (bZ M.ns),.hnd 1,.hnd 2,.hnd 3,.d M.pd,.hnd 4,.ref 5 l.length 0 l.length],.map none M.te,.map none M.fe,.map none M.he,.map none M.le,.mt 4 l.length ((l.map in4).set (0+((i:Nat):Int).toNat) (setAt [I o,I 0,I 0,I 0] (0+1) [I a]))]:=by
 simp [aaX,in4,i2,setAt]
theorem F3 {l:List In4} {i:Nat} {o:Int} (h:l[i]? = some (i2 o 0)):(l.map in4)[0+((i:Nat):Int).toNat]? = some [I o,I 0,I 0,I 0]:=by
 have hr:=WL h;simpa [in4] using hr
theorem AQ (M:Mk) (l l1 l3:List In4) (xk xn:Int) (xs xt:Str) (xo:List Int) (c0 c1:Int) (h0:xo[0]? = some c0) (h1:xo[1]? = some c1)
  (hA:bm P0 aW [.ptr 0 0,.d (I c0)] (mkB M l) (.tuple []) (mkB M l1))
  (hB:bm P0 aW [.ptr 0 0,.d (I c1)] (mkB M (l1++[(i2 16 0)])) (.tuple []) (mkB M l3))
  (h16:l3[l1.length]? = some (i2 16 0)) (hl1:l1.length<1000000) (hl3:l3.length+1<1000000) :
  bm P0 gZ [.ptr 0 0,ndC xk xn xs xt xo] (mkB M l) (.tuple []) (mkB M ((l3++[i2 15 (l.length:Nat)]).set l1.length (i2 16 ((l3++[i2 15 (l.length:Nat)]).length:Nat)))):=by
 have x8:=bL M l1 hl1 16 0 0 0;have AU:=bL M l3 (by omega) 15 (l.length:Nat) 0 0;have hlt:l1.length<l3.length:=(Zi.1 h16).1;have h17:(l3++[i2 15 (l.length:Nat)])[l1.length]? = some (i2 16 0):=by rw [Zb hlt];exact h16
 have hl4:(l3++[i2 15 (l.length:Nat)]).length=l3.length+1:=by simp
 generalize (l3++[i2 15 (l.length:Nat)])=l4 at *;have hr:=F3 h17;rw [F2];have he0:=x7 h0;have he1:=x7 h1;have hlx:=O6 h1;refine aJ qH rfl ?_
 repeat refine aw ?_
 refine ag 7 [0,1,2,3,4,5] hA ?_
 repeat refine aw ?_
 refine dG eP rfl ?_
 repeat refine aw ?_
 refine ag 9 [0,1,2,3,4,5] x8 ?_
 repeat refine aw ?_
 refine dW rfl rfl ?_
 repeat refine aw ?_
 refine ag 9 [0,1,2,3,4,5] hB ?_
 repeat refine aw ?_
 refine ag 9 [0,1,2,3,4,5] AU ?_
 repeat refine aw ?_
 refine dG d5 rfl ?_
 repeat refine aw ?_
 refine uY rfl rfl ?_
 repeat refine aw ?_
 refine dr 6 rfl rfl ?_;exact Uw.wM
end Uw.Tryz
namespace Uw.Tryz
open Go Uw
theorem vR (M:Mk) (l l1 l3:List In4) (xk xn:Int) (xs xt:Str) (xo:List Int) (c0 c1:Int) (h0:xo[0]? = some c0) (h1:xo[1]? = some c1) (hxo:xo.length=2)
  (hA:bm P0 aW [.ptr 0 0,.d (I c0)] (mkB M l) (.tuple []) (mkB M l1))
  (hB:bm P0 aW [.ptr 0 0,.d (I c1)] (mkB M (l1++[(i2 16 0)])) (.tuple []) (mkB M l3))
  (h16:l3[l1.length]? = some (i2 16 0)) (hl1:l1.length<1000000) (hl3:l3.length<1000000) :
  bm P0 eE [.ptr 0 0,ndC xk xn xs xt xo] (mkB M l) (.tuple []) (mkB M (l3.set l1.length (i2 16 (l3.length:Nat)))):=by
 have x8:=bL M l1 hl1 16 0 0 0;have hlt:l1.length<l3.length:=(Zi.1 h16).1;have hr:=F3 h16;rw [F2];have he0:=x7 h0;have he1:=x7 h1;have hlx:(xo.map fun i=>[I i]).length=2:=by simpa using hxo
 refine aJ jk rfl ?_
 repeat refine aw ?_
 refine ag 7 [0,1,2,3,4,5] hA ?_
 repeat refine aw ?_
 refine dG eP rfl ?_
 repeat refine aw ?_
 refine ag 9 [0,1,2,3,4,5] x8 ?_
 repeat refine aw ?_
 refine dW rfl rfl ?_
 repeat refine aw ?_
 refine ag 9 [0,1,2,3,4,5] hB ?_
 repeat refine aw ?_
 refine dG d5 rfl ?_
 repeat refine aw ?_
 refine uY rfl rfl ?_
 repeat refine aw ?_
 refine aI 6 rfl rfl ?_;exact Uw.wM
theorem vS (M:Mk) (l l1 l3 l4 l6:List In4) (xk xn:Int) (xs xt:Str) (xo:List Int) (c0 c1 c2:Int) (h0:xo[0]? = some c0) (h1:xo[1]? = some c1) (h2:xo[2]? = some c2)
  (hA:bm P0 aW [.ptr 0 0,.d (I c0)] (mkB M l) (.tuple []) (mkB M l1))
  (hB:bm P0 aW [.ptr 0 0,.d (I c1)] (mkB M (l1++[(i2 16 0)])) (.tuple []) (mkB M l3))
  (hl4:l4=l3++[i2 15 0])
  (hC:bm P0 aW [.ptr 0 0,.d (I c2)] (mkB M (l4.set l1.length (i2 16 (l4.length:Nat)))) (.tuple []) (mkB M l6))
  (h16:l3[l1.length]? = some (i2 16 0)) (h15:l6[l3.length]? = some (i2 15 0)) (hl1:l1.length<1000000) (hl3:l3.length<1000000) (hl6:l6.length<1000000) :
  bm P0 eE [.ptr 0 0,ndC xk xn xs xt xo] (mkB M l) (.tuple []) (mkB M (l6.set l3.length (i2 15 (l6.length:Nat)))):=by
 have x8:=bL M l1 hl1 16 0 0 0;have AU:=bL M l3 hl3 15 0 0 0;have hlt:l1.length<l3.length:=(Zi.1 h16).1;have h17:l4[l1.length]? = some (i2 16 0):=by rw [hl4,Zb hlt];exact h16
 have hn4:l4.length=l3.length+1:=by rw [hl4];simp
 rw [<- hl4] at AU;clear hl4;have Yl:l3.length<l6.length:=(Zi.1 h15).1;have hr:=F3 h17;have hr6:=F3 h15;rw [F2];rw [F2] at hC;have he0:=x7 h0;have he1:=x7 h1;have he2:=x7 h2;have hlx:=O6 h2;refine aJ jk rfl ?_
 repeat refine aw ?_
 refine ag 7 [0,1,2,3,4,5] hA ?_
 repeat refine aw ?_
 refine dG eP rfl ?_
 repeat refine aw ?_
 refine ag 9 [0,1,2,3,4,5] x8 ?_
 repeat refine aw ?_
 refine dW rfl rfl ?_
 repeat refine aw ?_
 refine ag 9 [0,1,2,3,4,5] hB ?_
 repeat refine aw ?_
 refine dG eP rfl ?_
 repeat refine aw ?_
 refine ag 11 [0,1,2,3,4,5] AU ?_
 repeat refine aw ?_
 refine dW rfl rfl ?_
 repeat refine aw ?_
 refine dG d5 rfl ?_
 repeat refine aw ?_
 refine uY rfl rfl ?_
 repeat refine aw ?_
 refine ag 11 [0,1,2,3,4,5] hC ?_
 repeat refine aw ?_
 refine dG d5 rfl ?_
 repeat refine aw ?_
 refine uY rfl rfl ?_
 repeat refine aw ?_
 refine dr 6 rfl rfl ?_;exact Uw.wM
end Uw.Tryz
namespace Uw.Tryz
open Go Uw
theorem Vd (M:Mk) (l:List In4) (xk xn:Int) (xs xt:Str) (xo:List Int) (b:Bool) (tk tn:Int) (hth:Rx M xs b tk tn) (hk:xk<1\/17<xk\/xk=13\/xk=14):bm P0 aX [.ptr 0 0,ndC xk xn xs xt xo] (mkB M l) (.tuple []) (mkB M l):=by
 have k1:¬xk=1:=by omega
 have k2:¬xk=2:=by omega
 have k3:¬xk=3:=by omega
 have k4:¬xk=4:=by omega
 have k5:¬xk=5:=by omega
 have k6:¬xk=6:=by omega
 have k7:¬xk=7:=by omega
 have k8:¬xk=8:=by omega
 have k9:¬xk=9:=by omega
 have k10:¬xk=10:=by omega
 have k11:¬xk=11:=by omega
 have k12:¬xk=12:=by omega
 have k15:¬xk=15:=by omega
 have k16:¬xk=16:=by omega
 have k17:¬xk=17:=by omega
 clear hk
 rcases hth with ⟨h,rfl,rfl,rfl⟩|⟨h,rfl⟩
 ·refine aJ bj rfl ?_
  repeat refine aw ?_
  refine b9 (lsS M l xk xn xs xt xo false 0 0) ?_ ?_
  ·repeat (first|refine aw ?_|refine m1 ?_)
   exact bg (.inl ⟨rfl,by exact Uw.wM⟩)
  repeat (first|refine aw ?_|refine m1 ?_)
  refine dr 6 rfl rfl ?_;exact Uw.wM
 ·refine aJ bj rfl ?_
  repeat refine aw ?_
  refine b9 (lsS M l xk xn xs xt xo true tk tn) ?_ ?_
  ·repeat (first|refine aw ?_|refine m1 ?_)
   exact bg (.inl ⟨rfl,by exact Uw.wM⟩)
  repeat (first|refine aw ?_|refine m1 ?_)
  refine dr 6 rfl rfl ?_;exact Uw.wM
theorem AV (M:Mk) (N:Nms) (hM:U9 M N) (l:List In4) (hl:l.length<1000000) (x:Nd) (hxo:x.of.length<1000000):bm P0 aX [.ptr 0 0,ndC x.kind x.n x.name x.name2 x.of] (mkB M l) (.tuple []) (mkB M (l++ja N x)):=by
 obtain ⟨xk,xn,xs,xt,xo⟩:=x;show bm P0 aX [.ptr 0 0,ndC xk xn xs xt xo] (mkB M l) (.tuple []) (mkB M (l++ja N ⟨xk,xn,xs,xt,xo⟩));have hxo:xo.length<1000000:=hxo;have yA:=hM.things xs;have hfu:=hM.ae xt;have hhe:=hM.helps xt;have hlo:=hM.wV xs;have hol:(xo.map fun i=>[I i]).length=xo.length:=by simp
 obtain ⟨b,tk,tn,hth,htn⟩:∃b tk tn,Rx M xs b tk tn/\tn=((N.things xs).getD (0,0)).2:=by
  cases ht:N.things xs with
  | none=>rw [ht] at yA;exact ⟨false,0,0,.inl ⟨yA,rfl,rfl,rfl⟩,rfl⟩
  | some t=>rw [ht] at yA;exact ⟨true,t.1,t.2,.inr ⟨yA,rfl⟩,rfl⟩
 by_cases k1:xk=1
 ·subst k1;exact xe M l hl _ xn xs xt xo hxo b tk tn hth _ (.inl ⟨rfl,rfl⟩)
 by_cases k2:xk=2
 ·subst k2
  cases ht:N.things xs with
  | none=>
   rw [ht] at yA;have e:ja N ⟨2,xn,xs,xt,xo⟩=[⟨2,(N.wV xs).getD (-1),0,0⟩]:=by simp [ja,ht,BX]
   rw [e];exact Rz M l hl xn xs xt xo hxo yA _ hlo
  | some t=>
   rw [ht] at yA;have e:ja N ⟨2,xn,xs,xt,xo⟩=[⟨4,t.2,0,0⟩]:=by simp [ja,ht]
   rw [e];exact Ry M l hl xn xs xt xo hxo _ _ yA
 by_cases k9:xk=9
 ·subst k9
  cases ht:N.things xs with
  | none=>
   rw [ht] at yA;have e:ja N ⟨9,xn,xs,xt,xo⟩=[⟨3,(N.wV xs).getD (-1),0,0⟩]:=by simp [ja,ht,BX]
   rw [e];exact RB M l hl xn xs xt xo hxo yA _ hlo
  | some t=>
   rw [ht] at yA;have e:ja N ⟨9,xn,xs,xt,xo⟩=[⟨5,t.2,0,0⟩]:=by simp [ja,ht]
   rw [e];exact RA M l hl xn xs xt xo hxo _ _ yA
 by_cases hk:3<=xk/\xk<=7
 ·have e:ja N ⟨xk,xn,xs,xt,xo⟩=[⟨xk+3,0,0,0⟩]:=by simp [ja,k1,k2,hk]
  rw [e];exact Vb M l hl xk xn xs xt xo hxo b tk tn hth hk
 by_cases k8:xk=8
 ·subst k8
  have e:ja N ⟨8,xn,xs,xt,xo⟩=[⟨11,Ar xt,tn,((xo.map fun i=>[I i]).length:Nat)⟩]:=by simp [ja,htn]
  rw [e];exact xe M l hl _ xn xs xt xo hxo b tk tn hth _ (.inr (.inr (.inr (.inr (.inr ⟨rfl,rfl⟩)))))
 by_cases k10:xk=10
 ·subst k10
  have e:ja N ⟨10,xn,xs,xt,xo⟩=[⟨13,N.ae xt,((xo.map fun i=>[I i]).length:Nat),if xs=[] then -1 else (N.wV xs).getD (-1)⟩]:=by simp [ja,As,BX]
  rw [e]
  rcases hth with ⟨h,rfl,rfl,rfl⟩|⟨h,rfl⟩
  ·exact O1 M l hl xn xs xt xo hxo h _ hfu _ hlo
  ·exact O2 M l hl xn xs xt xo hxo _ _ h _ hfu _ hlo
 by_cases k11:xk=11
 ·subst k11
  have e:ja N ⟨11,xn,xs,xt,xo⟩=[⟨13,N.helps xt,2,if xs=[] then -1 else (N.wV xs).getD (-1)⟩]:=by simp [ja,As,BX]
  rw [e]
  rcases hth with ⟨h,rfl,rfl,rfl⟩|⟨h,rfl⟩
  ·exact O4 M l hl xn xs xt xo hxo h _ hhe _ hlo
  ·exact O5 M l hl xn xs xt xo hxo _ _ h _ hhe _ hlo
 by_cases k12:xk=12
 ·subst k12;exact xe M l hl _ xn xs xt xo hxo b tk tn hth _ (.inr (.inl ⟨rfl,rfl⟩))
 by_cases k15:xk=15
 ·subst k15;exact xe M l hl _ xn xs xt xo hxo b tk tn hth _ (.inr (.inr (.inl ⟨rfl,rfl⟩)))
 by_cases k16:xk=16
 ·subst k16;exact xe M l hl _ xn xs xt xo hxo b tk tn hth _ (.inr (.inr (.inr (.inl ⟨rfl,rfl⟩))))
 by_cases k17:xk=17
 ·subst k17;exact xe M l hl _ xn xs xt xo hxo b tk tn hth _ (.inr (.inr (.inr (.inr (.inl ⟨rfl,rfl⟩)))))
 have e:ja N ⟨xk,xn,xs,xt,xo⟩=[]:=by simp [ja,k1,k2,hk,k8,k9,k10,k11,k12,k15,k16,k17]
 rw [e,ZA];exact Vd M l xk xn xs xt xo b tk tn hth (by omega)
end Uw.Tryz
namespace Uw.Tryz
open Go Uw
theorem ot (g:Int->Nat->List In4):∀(r r' : List Int) (a:Nat),layAll g (r++r') a=layAll g r a++layAll g r' (a+(layAll g r a).length)
 | [],r',a=>by simp [layAll]
 | k::r,r',a=>by
  rw [Za,layAll,layAll,ot g r r' _,Ze,YP,ZG]
theorem Ie (g:Int->Nat->List In4) (r:List Int) (j:Nat) (c:Int) (h:r[j]? = some c) (a:Nat):layAll g (r.take (j+1)) a=layAll g (r.take j) a++g c (a+(layAll g (r.take j) a).length):=by
 have e:r.take (j+1)=r.take j++[c]:=by rw [abd,h];rfl
 rw [e,ot];simp [layAll]
theorem LZ (g:Int->Nat->List In4) (r:List Int) (j:Nat) (a:Nat):(layAll g (r.take j) a).length<=(layAll g r a).length:=by
 have e:layAll g r a=layAll g (r.take j++r.drop j) a:=by rw [aak]
 rw [e,ot,YP];omega
theorem set_mid (l1 B:List In4) (x y:In4):(l1++x::B).set l1.length y=l1++y::B:=by simp [List.set_append]
theorem RD (l1 B:List In4) (x:In4):(l1++x::B)[l1.length]? = some x:=by simp
theorem KZ (M:Mk) (l l' : List In4) (k:Nat) (xn:Int) (xs xt:Str) (xo:List Int) (hk:(k:Int)<((M.ns.map ndL).length:Nat)) (he:(M.ns.map ndL)[(k:Int).toNat]? = some [I 13,I xn,.str xs,.str xt,cb xo])
  (h:bm P0 eE [.ptr 0 0,ndC 13 xn xs xt xo] (mkB M l) (.tuple []) (mkB M l')):bm P0 aW [.ptr 0 0,.d (I k)] (mkB M l) (.tuple []) (mkB M l'):=by
 refine aJ gm rfl ?_
 repeat refine aw ?_
 refine ag 7 [0,1,2,3,4,5] h ?_
 repeat refine aw ?_
 refine aI 6 rfl rfl ?_;exact Uw.wM
theorem RE (M:Mk) (l l' : List In4) (k:Nat) (xn:Int) (xs xt:Str) (xo:List Int) (hk:(k:Int)<((M.ns.map ndL).length:Nat)) (he:(M.ns.map ndL)[(k:Int).toNat]? = some [I 14,I xn,.str xs,.str xt,cb xo])
  (h:bm P0 gZ [.ptr 0 0,ndC 14 xn xs xt xo] (mkB M l) (.tuple []) (mkB M l')):bm P0 aW [.ptr 0 0,.d (I k)] (mkB M l) (.tuple []) (mkB M l'):=by
 refine aJ gm rfl ?_
 repeat refine aw ?_
 refine ag 7 [0,1,2,3,4,5] h ?_
 repeat refine aw ?_
 refine aI 6 rfl rfl ?_;exact Uw.wM
theorem RF (M:Mk) (l' : List In4) (L:Nat->List In4) (k:Nat) (xk xn:Int) (xs xt:Str) (xo:List Int) (k13:¬xk=13) (k14:¬xk=14) (hxo:xo.length<1000000) (hk:(k:Int)<((M.ns.map ndL).length:Nat)) (he:(M.ns.map ndL)[(k:Int).toNat]? = some [I xk,I xn,.str xs,.str xt,cb xo])
  (hN:∀(j:Nat) (c:Int),xo[j]? = some c->bm P0 aW [.ptr 0 0,.d (I c)] (mkB M (L j)) (.tuple []) (mkB M (L (j+1))))
  (h:bm P0 aX [.ptr 0 0,ndC xk xn xs xt xo] (mkB M (L xo.length)) (.tuple []) (mkB M l')):bm P0 aW [.ptr 0 0,.d (I k)] (mkB M (L 0)) (.tuple []) (mkB M l'):=by
 have hol:(xo.map fun i=>[I i]).length=xo.length:=by simp
 refine aJ gm rfl ?_
 repeat refine aw ?_
 refine bn xo.length (fun j=>⟨[(29,.d (I j)),(28,.d (I ((xo.map fun i=>[I i]).length:Nat))),(27,.d (cb xo)),(4,.ptr 6 0),(0,.ptr 0 0)],(6,.var [.d (I xk),.d (I xn),.d (.str xs),.d (.str xt),.d (cb xo)])::bu 0 (mkB M (L j)),7,[],6⟩) (fun _=>True) (by exact Uw.wM) ?_ ?_
 ·intro _
  repeat refine aw ?_
  refine aA ?_
  repeat refine aw ?_
  refine ag 7 [0,1,2,3,4,5] h ?_
  repeat refine aw ?_
  refine dr 6 rfl rfl ?_;exact Uw.wM
 ·intro j hj hpre
  obtain ⟨c,hc⟩:∃c,xo[j]? = some c:=⟨xo[j],YQ hj⟩
  have hn:=hN j c hc;have hec:=x7 hc
  repeat refine aw ?_
  refine ag 7 [0,1,2,3,4,5] hn ?_
  repeat refine aw ?_
  exact ay j trivial (by exact Uw.wM)
end Uw.Tryz
namespace Uw.Tryz
open Go Uw
theorem AW (M:Mk) (N:Nms) (hM:U9 M N) (hL:Lays M.ns) (hof:∀(i:Nat) (h:i<M.ns.length),M.ns[i].of.length<1000000) (k:Nat):k<M.ns.length->∀l:List In4,l.length+(lay M.ns N (k:Int) l.length).length<1000000->bm P0 aW [.ptr 0 0,.d (I k)] (mkB M l) (.tuple []) (mkB M (l++lay M.ns N (k:Int) l.length)):=by
 induction k using Nat.strongRecOn with
 | ind k ih=>
  intro hk l hl;have hkl:(k:Int)<((M.ns.map ndL).length:Nat):=by simpa using hk
  have he:(M.ns.map ndL)[(k:Int).toNat]? = some (ndL M.ns[k]):=by simp [hk]
  have hc:∀c∈M.ns[k].of,∀l:List In4,l.length+(lay M.ns N c l.length).length<1000000->bm P0 aW [.ptr 0 0,.d (I c)] (mkB M l) (.tuple []) (mkB M (l++lay M.ns N c l.length)):=fun c hcm l=>by
   obtain ⟨h1,h2⟩:=hL.low k hk c hcm;obtain ⟨m,rfl⟩:∃m:Nat,c=(m:Int):=⟨c.toNat,by omega⟩
   exact ih m (by omega) (by omega) l
  have h13:=hL.ifs k hk;have h14:=hL.FM k hk;have hxo:=hof k hk;have hq:=OW N hL k hk l.length;have hown:∀l:List In4,l.length<1000000->_:=fun l hl=>AV M N hM l hl M.ns[k] hxo;rw [hq] at hl ⊢;clear hq ih;generalize M.ns[k]=x at *;obtain ⟨xk,xn,xs,xt,xo⟩:=x;have he:(M.ns.map ndL)[(k:Int).toNat]? = some [I xk,I xn,.str xs,.str xt,cb xo]:=he;simp only at hc h13 h14 hxo hl ⊢;have hown:∀l:List In4,l.length<1000000->bm P0 aX [.ptr 0 0,ndC xk xn xs xt xo] (mkB M l) (.tuple []) (mkB M (l++ja N ⟨xk,xn,xs,xt,xo⟩)):=hown;by_cases k13:xk=13
  ·have h13:=h13 k13
   simp only [if_pos k13] at hl ⊢;subst k13;have h0:xo[0]? = some (xo.getD 0 0):=by simp [List.getD,show 0<xo.length by omega]
   have h1:xo[1]? = some (xo.getD 1 0):=by simp [List.getD,show 1<xo.length by omega]
   have hA:=hc _ (Y4 h0) l;have hB:=hc _ (Y4 h1);generalize hAA:lay M.ns N (xo.getD 0 0) l.length=A at *;have hB:=hB ((l++A)++[i2 16 0]);rw [show ((l++A)++[i2 16 0]).length=l.length+A.length+1 by simp<;>omega] at hB;generalize hBB:lay M.ns N (xo.getD 1 0) (l.length+A.length+1)=B at *;by_cases h3:xo.length<3
   ·simp only [if_pos h3,YP,YR] at hl ⊢
    have hs:=vR M l (l++A) ((l++A)++[i2 16 0]++B) 13 xn xs xt xo _ _ h0 h1 (by omega) (hA (by omega)) (hB (by omega)) (by simp) (by simp<;>omega) (by simp<;>omega);rw [Ze (l++A),List.singleton_append,set_mid] at hs;rw [Ze] at hs;have e:((l++A++i2 16 0::B).length:Int)=((l.length+A.length+1+B.length:Nat):Int):=by simp<;>omega
    rw [e] at hs;exact KZ M l _ k xn xs xt xo hkl he hs
   ·simp only [if_neg h3,YP,YR] at hl ⊢
    have h2:xo[2]? = some (xo.getD 2 0):=by simp [List.getD,show 2<xo.length by omega]
    have hC:=hc _ (Y4 h2);have hC:=hC (l++A++i2 16 ((l.length+A.length+1+B.length+1:Nat):Int)::(B++[i2 15 0]));have eC:(l++A++i2 16 ((l.length+A.length+1+B.length+1:Nat):Int)::(B++[i2 15 0])).length=l.length+A.length+1+B.length+1:=by simp<;>omega
    rw [eC] at hC;generalize hCC:lay M.ns N (xo.getD 2 0) (l.length+A.length+1+B.length+1)=C at *;have e3:l++A++[i2 16 0]++B++[i2 15 0]=l++A++i2 16 0::(B++[i2 15 0]):=by simp
    have hs:=vS M l (l++A) ((l++A)++[i2 16 0]++B) (l++A++i2 16 0::(B++[i2 15 0])) ((l++A++i2 16 ((l.length+A.length+1+B.length+1:Nat):Int)::(B++[i2 15 0]))++C) 13 xn xs xt xo _ _ _ h0 h1 h2 (hA (by omega)) (hB (by omega)) e3.symm
     (by
      rw [set_mid];have e4:((l++A++i2 16 0::(B++[i2 15 0])).length:Int)=((l.length+A.length+1+B.length+1:Nat):Int):=by simp<;>omega
      rw [e4];exact hC (by omega)) (by simp) ?_ (by simp<;>omega) (by simp<;>omega) (by simp<;>omega)
    ·have e5:((l++A++i2 16 ((l.length+A.length+1+B.length+1:Nat):Int)::(B++[i2 15 0]))++C)=(l++A++i2 16 ((l.length+A.length+1+B.length+1:Nat):Int)::B)++i2 15 0::C:=by simp
     have e6:((l++A)++[i2 16 0]++B).length=(l++A++i2 16 ((l.length+A.length+1+B.length+1:Nat):Int)::B).length:=by simp<;>omega
     rw [e5,e6,set_mid] at hs;have e7:(((l++A++i2 16 ((l.length+A.length+1+B.length+1:Nat):Int)::B)++i2 15 0::C).length:Int)=((l.length+A.length+1+B.length+1+C.length:Nat):Int):=by simp<;>omega
     rw [e7] at hs;refine KZ M l _ k xn xs xt xo hkl he ?_;simpa using hs
    ·have e5:((l++A++i2 16 ((l.length+A.length+1+B.length+1:Nat):Int)::(B++[i2 15 0]))++C)=(l++A++i2 16 ((l.length+A.length+1+B.length+1:Nat):Int)::B)++i2 15 0::C:=by simp
     have e6:((l++A)++[i2 16 0]++B).length=(l++A++i2 16 ((l.length+A.length+1+B.length+1:Nat):Int)::B).length:=by simp<;>omega
     rw [e5,e6];exact RD _ _ _
  by_cases k14:xk=14
  ·have h14:=h14 k14
   simp only [if_neg k13,if_pos k14] at hl ⊢;clear k13;subst k14;have h0:xo[0]? = some (xo.getD 0 0):=by simp [List.getD,show 0<xo.length by omega]
   have h1:xo[1]? = some (xo.getD 1 0):=by simp [List.getD,show 1<xo.length by omega]
   have hA:=hc _ (Y4 h0) l;have hB:=hc _ (Y4 h1);generalize hAA:lay M.ns N (xo.getD 0 0) l.length=A at *;have hB:=hB ((l++A)++[i2 16 0]);rw [show ((l++A)++[i2 16 0]).length=l.length+A.length+1 by simp<;>omega] at hB;generalize hBB:lay M.ns N (xo.getD 1 0) (l.length+A.length+1)=B at *;simp only [YP,YR,ZS] at hl;have hs:=AQ M l (l++A) ((l++A)++[i2 16 0]++B) 14 xn xs xt xo _ _ h0 h1 (hA (by omega)) (hB (by omega)) (by simp) (by simp<;>omega) (by simp<;>omega);have e5:(l++A)++[i2 16 0]++B++[i2 15 (l.length:Nat)]=(l++A)++i2 16 0::(B++[i2 15 (l.length:Nat)]):=by simp
   rw [e5,set_mid] at hs;have e7:(((l++A)++i2 16 0::(B++[i2 15 (l.length:Nat)])).length:Int)=((l.length+A.length+1+B.length+1:Nat):Int):=by simp<;>omega
   rw [e7] at hs;refine RE M l _ k xn xs xt xo hkl he ?_;simpa using hs
  simp only [if_neg k13,if_neg k14,YP] at hl ⊢;have ho:(ja N ⟨xk,xn,xs,xt,xo⟩).length=0\/0<(ja N ⟨xk,xn,xs,xt,xo⟩).length:=by omega
  have hlen:l.length+(layAll (lay M.ns N) xo l.length).length<1000000:=by omega
  have hs:=RF M (l++layAll (lay M.ns N) xo l.length++ja N ⟨xk,xn,xs,xt,xo⟩) (fun j=>l++layAll (lay M.ns N) (xo.take j) l.length) k xk xn xs xt xo k13 k14 hxo hkl he ?_ ?_
  ·simp only [aa1,layAll,ZA] at hs
   rw [Ze] at hs;exact hs
  ·intro j c hj
   have hle:=LZ (lay M.ns N) xo (j+1) l.length;rw [Ie _ _ _ _ hj] at hle ⊢;rw [YP] at hle;have:=hc c (Y4 hj) (l++layAll (lay M.ns N) (xo.take j) l.length) (by rw [YP];omega);rw [YP] at this;rw [<- Ze];exact this
  ·rw [YW]
   exact hown _ (by rw [YP];omega)
end Uw.Tryz
namespace Uw.Tryz
open Go Uw
abbrev pgA (p:Pg):V:=.agg [.d (.slice 3 (p.decls.map bM) false),.d (.slice 3 (p.ae.map fuL) false),.d (bZ p.nodes)]
def lJ (p:Pg) (l:List Str):List Int:=l.map fun s=>(((cV p s).getD 0:Nat):Int)
abbrev nuH (p:Pg) (C T F H:MS) (l:List Int):Heap:=[(7,.arr 1 (l.map fun i=>[I i])),(6,.map (some .i64) C),(5,.var [.hnd 2,.hnd 3,.hnd 4,.ref 7 0 0 (l.map fun i=>[I i]).length]),(4,.map none H),(3,.map none F),(2,.map none T),(1,.var [.d .aZ,.d .aZ,.d .aZ,.d .nil]),(0,.var [.d (.slice 3 (p.decls.map bM) false),.d (.slice 3 (p.ae.map fuL) false),.d (bZ p.nodes)])]
abbrev Ve (p:Pg) (C T:MS) (F:Nat->MS) (j:Nat):St:=⟨[(45,.d (I j)),(44,.d (I ((p.ae.map fuL).length:Nat))),(43,.d (.slice 3 (p.ae.map fuL) false)),(4,.hnd 6),(3,.ptr 5 0),(2,.ptr 1 0),(1,.ptr 0 0)],nuH p C T (F j) [] [],8,[],0⟩
abbrev Jz (p:Pg) (C T F:MS) (H:Nat->MS) (L:Nat->List Int) (j:Nat):St:=⟨[(59,.d (I j)),(58,.d (I ((p.nodes.map ndL).length:Nat))),(57,.d (bZ p.nodes)),(4,.hnd 6),(3,.ptr 5 0),(2,.ptr 1 0),(1,.ptr 0 0)],nuH p C T F (H j) (L j),8,[],0⟩
abbrev Vf (p:Pg) (C T:Nat->MS) (j:Nat):St:=⟨[(21,.d (I j)),(20,.d (I ((p.decls.map bM).length:Nat))),(19,.d (.slice 3 (p.decls.map bM) false)),(4,.hnd 6),(3,.ptr 5 0),(2,.ptr 1 0),(1,.ptr 0 0)],nuH p (C j) (T j) [] [] [],8,[],0⟩
theorem xg (p:Pg) (hp:Lim p) (hm:May p):bm P0 oV [pgA p] [] (.agg [.hnd 0,.hnd 1,.hnd 2,.d (cb (lJ p (cS p)))]) [.map none (tgE p.decls),.map none (fuE p.ae),.map none (hpE p.ae.length (cS p))]:=by
 have hF:=hp.ae;have hD:=hp.decls;have hN:=hp.nodes;have hfl:(p.ae.map fuL).length=p.ae.length:=by simp
 have hdl:(p.decls.map bM).length=p.decls.length:=by simp
 have hnl:(p.nodes.map ndL).length=p.nodes.length:=by simp
 obtain ⟨C,hC⟩:∃E:Nat->MS,∀j,E j=ctE (p.decls.take j):=⟨_,fun _=>rfl⟩
 obtain ⟨T,hT⟩:∃E:Nat->MS,∀j,E j=tgE (p.decls.take j):=⟨_,fun _=>rfl⟩
 have hst:∀(j:Nat) (h:j<p.decls.length),∃c:Nat,c<=100000/\(bf (C j) (.i p.decls[j].kind)).getD (I 0)=I (c:Nat)/\dK (C j) (.i p.decls[j].kind) (I ((c:Nat)+1))=C (j+1)/\dK (T j) (.s p.decls[j].name) (.agg [I p.decls[j].kind,I (c:Nat)])=T (j+1):=fun j h=>by
  refine ⟨ctN (p.decls.take j) p.decls[j].kind,?_,by rw [hC,uB],?_,?_⟩
  ·have h2:(p.decls.take j).length<=j:=by rw [Y8];omega
   have h3:ctN (p.decls.take j) p.decls[j].kind<=(p.decls.take j).length:=aaE;omega
  ·rw [hC,hC,KY,<- YM h]
  ·rw [hT,hT,YM h,AL]
 have hdel:∀(j:Nat) (h:j<p.decls.length),(p.decls.map bM)[(j:Int).toNat]? = some (bM p.decls[j]):=fun j h=>by simp [h]
 obtain ⟨F,hF1⟩:∃E:Nat->MS,∀j,E j=fuE (p.ae.take j):=⟨_,fun _=>rfl⟩
 obtain ⟨H,hH⟩:∃E:Nat->MS,∀j,E j=hpE p.ae.length (fj (p.nodes.take j) []):=⟨_,fun _=>rfl⟩
 obtain ⟨L,hL⟩:∃E:Nat->List Int,∀j,E j=lJ p (fj (p.nodes.take j) []):=⟨_,fun _=>rfl⟩
 have hfs:∀(j:Nat) (h:j<p.ae.length),dK (F j) (.s p.ae[j].name) (I (j:Nat))=F (j+1):=fun j h=>by
  rw [hF1,hF1,YM h,AO,Y8,aaZ (by omega)]
 have L0:∀(j:Nat) (h:j<p.ae.length),(p.ae.map fuL)[(j:Int).toNat]? = some (fuL p.ae[j]):=fun j h=>by simp [h]
 have O7:∀(j:Nat) (h:j<p.nodes.length),(p.nodes.map ndL)[(j:Int).toNat]? = some (ndL p.nodes[j]):=fun j h=>by simp [h]
 have hFg:∀s,(bf (F p.ae.length) (.s s)).getD (I 0)=I (((cV p s).getD 0:Nat):Int):=fun s=>by
  rw [hF1,YW,Jx p hm.names.2.1]
  cases cV p s<;>rfl
 have hns:∀(j:Nat) (h:j<p.nodes.length),(∃i,bf (H j) (.s p.nodes[j].name2)=some (I i)/\H j=H (j+1)/\L j=L (j+1))\/(p.nodes[j].kind≠11/\H j=H (j+1)/\L j=L (j+1))\/
   (p.nodes[j].kind=11/\bf (H j) (.s p.nodes[j].name2)=none/\dK (H j) (.s p.nodes[j].name2) (I (((p.ae.map fuL).length:Nat)+((L j).map fun i=>[I i]).length:Int))=H (j+1)/\L j++[(((cV p p.nodes[j].name2).getD 0:Nat):Int)]=L (j+1)):=fun j h=>by
  have hS:=uC p.nodes[j] (p.nodes.take j) [];rw [<- YM h] at hS;have hg:=Jy p.ae.length p.nodes[j].name2 (fj (p.nodes.take j) []) (rW _ _ aa2);have hi:=LX (l:=fj (p.nodes.take j) []) (s:=p.nodes[j].name2);simp only [hH,hL];rw [hS];by_cases k11:p.nodes[j].kind=11
  ·by_cases hm2:p.nodes[j].name2∈fj (p.nodes.take j) []
   ·rw [decide_eq_true hm2] at hi
    rw [if_neg (fun e=>e.2 hm2)]
    cases hq:mW (fj (p.nodes.take j) []) p.nodes[j].name2 with
    | none=>rw [hq] at hi;cases hi
    | some i=>rw [hq] at hg;exact .inl ⟨_,hg,rfl,rfl⟩
   ·rw [decide_eq_false hm2] at hi
    rw [if_pos ⟨k11,hm2⟩]
    cases hq:mW (fj (p.nodes.take j) []) p.nodes[j].name2 with
    | some i=>rw [hq] at hi;cases hi
    | none=>
     rw [hq] at hg;refine .inr (.inr ⟨k11,hg,?_,by simp [lJ]⟩);rw [AP]
     congr 2
     simp [lJ]
  ·rw [if_neg (fun e=>k11 e.1)]
   exact .inr (.inl ⟨k11,rfl,rfl⟩)
 have hLl:∀j,(L j).length<=j:=fun j=>by
  rw [hL,lJ,Y5];have:∀n,(fj (p.nodes.take n) []).length<=n:=by
   intro n
   induction n with
   | zero=>simp [fj]
   | succ n ih=>
    rcases Zg n p.nodes.length with h|h
    ·rw [YM h,uC]
     split
     ·simp;omega
     ·omega
    ·rw [YU (by omega)]
     rw [YU h] at ih;omega
  exact this j
 have hC0:C 0=[]:=by rw [hC];rfl
 have hT0:T 0=[]:=by rw [hT];rfl
 have hF0:F 0=[]:=by rw [hF1];rfl
 have hH0:H 0=[]:=by rw [hH];rfl
 have hL0:L 0=[]:=by rw [hL];rfl
 have hTn:tgE p.decls=T p.decls.length:=by rw [hT,YW]
 have hFn:fuE p.ae=F p.ae.length:=by rw [hF1,YW]
 have hHn:hpE p.ae.length (cS p)=H p.nodes.length:=by rw [hH,YW];rfl
 have hLn:lJ p (cS p)=L p.nodes.length:=by rw [hL,YW];rfl
 rw [hTn,hFn,hHn,hLn];clear hTn hFn hHn hLn hC hT hF1 hH hL;have hS0:Vf p C T 0=⟨[(21,.d (I (0:Nat))),(20,.d (I ((p.decls.map bM).length:Nat))),(19,.d (.slice 3 (p.decls.map bM) false)),(4,.hnd 6),(3,.ptr 5 0),(2,.ptr 1 0),(1,.ptr 0 0)],nuH p [] [] [] [] [],8,[],0⟩:=by rw [Vf,hC0,hT0]
 have hS1:Ve p (C p.decls.length) (T p.decls.length) F 0=⟨[(45,.d (I (0:Nat))),(44,.d (I ((p.ae.map fuL).length:Nat))),(43,.d (.slice 3 (p.ae.map fuL) false)),(4,.hnd 6),(3,.ptr 5 0),(2,.ptr 1 0),(1,.ptr 0 0)],nuH p (C p.decls.length) (T p.decls.length) [] [] [],8,[],0⟩:=by rw [Ve,hF0]
 have hS2:Jz p (C p.decls.length) (T p.decls.length) (F p.ae.length) H L 0=⟨[(59,.d (I (0:Nat))),(58,.d (I ((p.nodes.map ndL).length:Nat))),(57,.d (bZ p.nodes)),(4,.hnd 6),(3,.ptr 5 0),(2,.ptr 1 0),(1,.ptr 0 0)],nuH p (C p.decls.length) (T p.decls.length) (F p.ae.length) [] [],8,[],0⟩:=by rw [Jz,hH0,hL0]
 have hLn:=hLl p.nodes.length;have hrow:(((L p.nodes.length).map fun i=>[I i]).drop 0).take ((L p.nodes.length).map fun i=>[I i]).length=(L p.nodes.length).map fun i=>[I i]:=by rw [Zf,YW]
 refine aJ vi rfl ?_
 repeat (first|refine aw ?_|refine f1 ?_|refine m1 ?_)
 refine bn p.decls.length (Vf p C T) (fun _=>True) (cH hS0 ?_) (fun _=>?_) (fun j hj _=>?_)
 ·exact Uw.wM
 rotate_left 1
 ·have he:=hdel j hj
  obtain ⟨c,hcl,hcg,hcs,hcu⟩:=hst j hj;clear hdel hst hfs hns hLl;generalize p.decls[j]=d at *;obtain ⟨dk,ds,dn⟩:=d;have he:(p.decls.map bM)[(j:Int).toNat]? = some [I dk,.str ds,I dn]:=he;simp only at hcg hcs hcu
  repeat (first|refine aw ?_|refine f1 ?_)
  refine cP (I 0) _ hcg ?_
  repeat (first|refine aw ?_|refine f1 ?_)
  refine cP (I 0) _ hcg ?_
  repeat (first|refine aw ?_|refine f1 ?_)
  exact ay j trivial (by exact Uw.wM)
 clear hdel hst
 repeat (first|refine aw ?_|refine f1 ?_)
 refine aA ?_
 repeat (first|refine aw ?_|refine f1 ?_)
 refine bn p.ae.length (Ve p (C p.decls.length) (T p.decls.length) F) (fun _=>True) (cH hS1 ?_) (fun _=>?_) (fun j hj _=>?_)
 ·exact Uw.wM
 rotate_left 1
 ·have he:=L0 j hj
  have hcu:=hfs j hj;clear L0 hfs hns hLl;generalize p.ae[j]=d at *;obtain ⟨fn,fa,fb⟩:=d;have he:(p.ae.map fuL)[(j:Int).toNat]? = some [.str fn,.slice 1 (fa.map fun s=>[Dat.str s]) false,I fb]:=he;simp only at hcu
  repeat (first|refine aw ?_|refine f1 ?_)
  exact ay j trivial (by exact Uw.wM)
 clear L0 hfs
 repeat (first|refine aw ?_|refine f1 ?_)
 refine aA ?_
 repeat (first|refine aw ?_|refine f1 ?_)
 refine bn p.nodes.length (Jz p (C p.decls.length) (T p.decls.length) (F p.ae.length) H L) (fun _=>True) (cH hS2 ?_) (fun _=>?_) (fun j hj _=>?_)
 ·exact Uw.wM
 rotate_left 1
 ·have he:=O7 j hj
  have hcu:=hns j hj;have hLj:=hLl j;clear O7 hns hLl;generalize p.nodes[j]=d at *;obtain ⟨xk,xn,xs,xt,xo⟩:=d;have he:(p.nodes.map ndL)[(j:Int).toNat]? = some [I xk,I xn,.str xs,.str xt,cb xo]:=he;simp only at hcu;have hFg:=hFg xt;have hll:((L j).map fun i=>[I i]).length=(L j).length:=by simp
  rcases hcu with ⟨i,h1,h2,h3⟩|⟨h1,h2,h3⟩|⟨k11,h1,h2,h3⟩
  ·by_cases k11:xk=11
   ·subst k11
    repeat (first|refine aw ?_|refine f1 ?_|refine m1 ?_)
    refine ay j trivial (cH (by rw [Jz,<- h2,<- h3]) ?_);exact Uw.wM
   ·repeat (first|refine aw ?_|refine f1 ?_|refine m1 ?_)
    refine ay j trivial (cH (by rw [Jz,<- h2,<- h3]) ?_);exact Uw.wM
  ·repeat (first|refine aw ?_|refine f1 ?_|refine m1 ?_)
   refine ay j trivial (cH (by rw [Jz,<- h2,<- h3]) ?_);exact Uw.wM
  ·have h4:((L (j+1)).map fun i=>[I i])=((L j).map fun i=>[I i])++(List.replicate 1 [Dat.int .i64 0]).set 0 [I (((cV p xt).getD 0:Nat):Int)]:=by rw [<- h3,ZO];rfl
   clear h3;subst k11
   repeat (first|refine aw ?_|refine f1 ?_|refine m1 ?_)
   refine cP (I 0) _ hFg ?_
   repeat (first|refine aw ?_|refine f1 ?_|refine m1 ?_)
   refine ay j trivial (cH (by rw [Jz,nuH,h4,<- h2]) ?_);exact Uw.wM
 repeat (first|refine aw ?_|refine f1 ?_)
 refine aA ?_
 repeat (first|refine aw ?_|refine f1 ?_)
 refine aI 0 rfl rfl (Weak.ofR [(0,2),(1,3),(2,4)] ?_ ?_ rfl rfl ?_ rfl rfl rfl)
 ·refine ⟨⟨_,rfl,?_⟩,trivial⟩
  exact Or.inr (Or.inr (Or.inr (Or.inr (Or.inl ⟨_,_,rfl,rfl,.inl ⟨rfl,rfl⟩,.inl ⟨rfl,rfl⟩,.inl ⟨rfl,rfl⟩,.inr (.inr (.inr ⟨_,_,_,_,_,_,_,rfl,rfl,hrow,rfl⟩)),trivial⟩))))
 ·exact ⟨⟨.inl ⟨_,rfl,⟨rfl,rfl⟩⟩,rfl⟩,⟨.inl ⟨_,rfl,⟨rfl,rfl⟩⟩,rfl⟩,⟨.inl ⟨_,rfl,⟨rfl,rfl⟩⟩,rfl⟩,trivial⟩
 ·trivial
end Uw.Tryz
namespace Uw.Tryz
open Go Uw
abbrev bdS (p:Pg) (E:Nat->MS) (j:Nat):St:=⟨[(20,.d (I j)),(19,.d (I ((p.decls.map bM).length:Nat))),(18,.d (.slice 3 (p.decls.map bM) false)),(3,.hnd 3),(1,.ptr 2 0)],(3,.map (some .i64) (E j))::sHp p,4,[],2⟩
theorem AX (p:Pg) (hp:Lim p):bm P0 kM [.agg (sCs p)] (sBs p) (.d (.bool (dw p))) (sBs p):=by
 have hF:=hp.ae;have hD:=hp.decls;have hN:=hp.nodes;have hfl:(p.ae.map fuL).length=p.ae.length:=by simp
 have hdl:(p.decls.map bM).length=p.decls.length:=by simp
 have hnl:(p.nodes.map ndL).length=p.nodes.length:=by simp
 have hll:=fP p;have hml:((aj p).map fun l=>[ei l]).length=(aj p).length:=by simp
 obtain ⟨c0,hc0⟩:∃c,ctN p.decls 0=c:=⟨_,rfl⟩
 obtain ⟨c1,hc1⟩:∃c,ctN p.decls 1=c:=⟨_,rfl⟩
 obtain ⟨c2,hc2⟩:∃c,ctN p.decls 2=c:=⟨_,rfl⟩
 obtain ⟨c3,hc3⟩:∃c,ctN p.decls 3=c:=⟨_,rfl⟩
 have hB:dw p=(decide (16<p.ae.length)||decide (16<c0)||decide (8<c1)||decide (8<c2)||decide (8<c3)||((aj p).any fun l=>decide (16<l.length))||(p.nodes.any fun x=>decide (x.kind=10)&&decide (16<x.of.length))):=by rw [<- hc0,<- hc1,<- hc2,<- hc3];rfl
 have b0:16<p.ae.length->dw p=true:=fun h=>by rw [hB];simp [h]
 have b1:16<c0->dw p=true:=fun h=>by rw [hB];simp [h]
 have b2:8<c1->dw p=true:=fun h=>by rw [hB];simp [h]
 have b3:8<c2->dw p=true:=fun h=>by rw [hB];simp [h]
 have b4:8<c3->dw p=true:=fun h=>by rw [hB];simp [h]
 have b5:∀(j:Nat) (h:j<(aj p).length),16<(aj p)[j].length->dw p=true:=fun j h e=>by
  have:((aj p).any fun l=>decide (16<l.length))=true:=Zv.2 ⟨_,YT h,by simp [e]⟩;rw [hB,this];simp
 have b6:∀(j:Nat) (h:j<p.nodes.length),p.nodes[j].kind=10/\16<p.nodes[j].of.length->dw p=true:=fun j h e=>by
  have:(p.nodes.any fun x=>decide (x.kind=10)&&decide (16<x.of.length))=true:=Zv.2 ⟨_,YT h,by simp [e]⟩;rw [hB,this];simp
 have F4:¬16<p.ae.length->¬16<c0->¬8<c1->¬8<c2->¬8<c3->(∀(j:Nat) (h:j<(aj p).length),¬16<(aj p)[j].length)->(∀(j:Nat) (h:j<p.nodes.length),¬(p.nodes[j].kind=10/\16<p.nodes[j].of.length))->dw p=false:=fun g0 g1 g2 g3 g4 g5 g6=>by
  have h5:((aj p).any fun l=>decide (16<l.length))=false:=Zl.2 fun x hx=>by
   obtain ⟨j,hj,rfl⟩:=Y0.1 hx;simpa using g5 j hj
  have h6:(p.nodes.any fun x=>decide (x.kind=10)&&decide (16<x.of.length))=false:=Zl.2 fun x hx=>by
   obtain ⟨j,hj,rfl⟩:=Y0.1 hx;simpa using g6 j hj
  rw [hB,h5,h6];simp [g0,g1,g2,g3,g4]
 clear hB;generalize dw p=R at *;obtain ⟨E,hE⟩:∃E:Nat->MS,∀j,E j=ctE (p.decls.take j):=⟨_,fun _=>rfl⟩
 have hE0:([]:MS)=E 0:=by rw [hE];rfl
 have hst:∀(j:Nat) (h:j<p.decls.length),∃c:Nat,c<=100000/\(bf (E j) (.i p.decls[j].kind)).getD (I 0)=I (c:Nat)/\dK (E j) (.i p.decls[j].kind) (I ((c:Nat)+1))=E (j+1):=fun j h=>by
  refine ⟨ctN (p.decls.take j) p.decls[j].kind,?_,by rw [hE,uB],?_⟩
  ·have h2:(p.decls.take j).length<=j:=by rw [Y8];omega
   have h3:ctN (p.decls.take j) p.decls[j].kind<=(p.decls.take j).length:=aaE;omega
  ·rw [hE,hE,KY,<- YM h]
 have hg0:(bf (E p.decls.length) (.i 0)).getD (I 0)=I (c0:Nat):=by rw [hE,YW,uB,hc0]
 have hg1:(bf (E p.decls.length) (.i 1)).getD (I 0)=I (c1:Nat):=by rw [hE,YW,uB,hc1]
 have hg2:(bf (E p.decls.length) (.i 2)).getD (I 0)=I (c2:Nat):=by rw [hE,YW,uB,hc2]
 have hg3:(bf (E p.decls.length) (.i 3)).getD (I 0)=I (c3:Nat):=by rw [hE,YW,uB,hc3]
 have hdel:∀(j:Nat) (h:j<p.decls.length),(p.decls.map bM)[(j:Int).toNat]? = some (bM p.decls[j]):=fun j h=>by simp [h]
 clear hc0 hc1 hc2 hc3 hE;have hS0:bdS p E 0=⟨[(20,.d (I (0:Nat))),(19,.d (I ((p.decls.map bM).length:Nat))),(18,.d (.slice 3 (p.decls.map bM) false)),(3,.hnd 3),(1,.ptr 2 0)],(3,.map (some .i64) [])::sHp p,4,[],2⟩:=by rw [bdS,<- hE0]
 refine aJ qF rfl ?_;by_cases h16:16<p.ae.length
 ·rw [b0 h16]
  have h17:(16:Int)<((p.ae.map fuL).length:Nat):=by omega
  repeat (first|refine aw ?_|refine f1 ?_|refine m1 ?_)
  refine aI 2 rfl rfl ?_;exact Uw.wM
 have F4:=F4 h16;have h17:¬(16:Int)<((p.ae.map fuL).length:Nat):=by omega
 repeat (first|refine aw ?_|refine f1 ?_|refine m1 ?_)
 refine bn p.decls.length (bdS p E) (fun _=>True) (cH hS0 ?_) (fun _=>?_) (fun j hj _=>?_)
 ·exact Uw.wM
 rotate_left 1
 ·have he:=hdel j hj
  obtain ⟨c,hcl,hcg,hcs⟩:=hst j hj;clear hdel hst;generalize p.decls[j]=d at *;obtain ⟨dk,ds,dn⟩:=d;have he:(p.decls.map bM)[(j:Int).toNat]? = some [I dk,.str ds,I dn]:=he;simp only at hcg hcs
  repeat (first|refine aw ?_|refine f1 ?_)
  refine cP (I 0) _ hcg ?_
  repeat (first|refine aw ?_|refine f1 ?_)
  exact ay j trivial (by exact Uw.wM)
 by_cases q1:16<c0
 ·rw [b1 q1]
  have q1' : (16:Int)<(c0:Nat):=by omega
  repeat (first|refine aw ?_|refine f1 ?_)
  refine aA ?_
  repeat (first|refine aw ?_|refine f1 ?_)
  refine cP (I 0) _ hg0 ?_
  repeat (first|refine aw ?_|refine f1 ?_)
  refine aI 2 rfl rfl ?_;exact Uw.wM
 have q1' : ¬(16:Int)<(c0:Nat):=by omega
 by_cases q2:8<c1
 ·rw [b2 q2]
  have q2' : (8:Int)<(c1:Nat):=by omega
  repeat (first|refine aw ?_|refine f1 ?_)
  refine aA ?_
  repeat (first|refine aw ?_|refine f1 ?_)
  refine cP (I 0) _ hg0 ?_
  repeat (first|refine aw ?_|refine f1 ?_)
  refine cP (I 0) _ hg1 ?_
  repeat (first|refine aw ?_|refine f1 ?_)
  refine aI 2 rfl rfl ?_;exact Uw.wM
 have q2' : ¬(8:Int)<(c1:Nat):=by omega
 by_cases q3:8<c2
 ·rw [b3 q3]
  have q3' : (8:Int)<(c2:Nat):=by omega
  repeat (first|refine aw ?_|refine f1 ?_)
  refine aA ?_
  repeat (first|refine aw ?_|refine f1 ?_)
  refine cP (I 0) _ hg0 ?_
  repeat (first|refine aw ?_|refine f1 ?_)
  refine cP (I 0) _ hg1 ?_
  repeat (first|refine aw ?_|refine f1 ?_)
  refine cP (I 0) _ hg2 ?_
  repeat (first|refine aw ?_|refine f1 ?_)
  refine aI 2 rfl rfl ?_;exact Uw.wM
 have q3' : ¬(8:Int)<(c2:Nat):=by omega
 by_cases q4:8<c3
 ·rw [b4 q4]
  have q4' : (8:Int)<(c3:Nat):=by omega
  repeat (first|refine aw ?_|refine f1 ?_)
  refine aA ?_
  repeat (first|refine aw ?_|refine f1 ?_)
  refine cP (I 0) _ hg0 ?_
  repeat (first|refine aw ?_|refine f1 ?_)
  refine cP (I 0) _ hg1 ?_
  repeat (first|refine aw ?_|refine f1 ?_)
  refine cP (I 0) _ hg2 ?_
  repeat (first|refine aw ?_|refine f1 ?_)
  refine cP (I 0) _ hg3 ?_
  repeat (first|refine aw ?_|refine f1 ?_)
  refine aI 2 rfl rfl ?_;exact Uw.wM
 have q4' : ¬(8:Int)<(c3:Nat):=by omega
 have F4:=F4 q1 q2 q3 q4;have Vg:∀(j:Nat) (h:j<(aj p).length),((aj p).map fun l=>[ei l])[(j:Int).toNat]? = some [.slice 1 ((aj p)[j].map fun s=>[Dat.str s]) false]:=fun j h=>by simp [h];rfl
 have O7:∀(j:Nat) (h:j<p.nodes.length),(p.nodes.map ndL)[(j:Int).toNat]? = some (ndL p.nodes[j]):=fun j h=>by simp [h]
 repeat (first|refine aw ?_|refine f1 ?_)
 refine aA ?_
 repeat (first|refine aw ?_|refine f1 ?_)
 refine cP (I 0) _ hg0 ?_
 repeat (first|refine aw ?_|refine f1 ?_)
 refine cP (I 0) _ hg1 ?_
 repeat (first|refine aw ?_|refine f1 ?_)
 refine cP (I 0) _ hg2 ?_
 repeat (first|refine aw ?_|refine f1 ?_)
 refine cP (I 0) _ hg3 ?_
 repeat (first|refine aw ?_|refine f1 ?_)
 clear hst hdel hg0 hg1 hg2 hg3 hS0 b0 b1 b2 b3 b4;refine bn (aj p).length (fun j:Nat=>⟨[(51,.d (I j)),(50,.d (I (((aj p).map fun l=>[ei l]).length:Nat))),(49,.d (rU (aj p))),(1,.ptr 2 0)],sHp p,3,[],2⟩) (fun j=>∀h:j<(aj p).length,¬16<(aj p)[j].length) (by exact Uw.wM) (fun g5=>?_) (fun j hj _=>?_);rotate_left 1
 ·have he:=Vg j hj
  have b5:=b5 j hj;have hgd:¬16<(aj p)[j].length->(fun j=>∀h:j<(aj p).length,¬16<(aj p)[j].length) j:=fun h _=>h;clear Vg F4 b6;generalize (aj p)[j]=l at *;have hl:(l.map fun s=>[Dat.str s]).length=l.length:=by simp
  by_cases q:16<l.length
  ·rw [b5 q]
   have q' : (16:Int)<((l.map fun s=>[Dat.str s]).length:Nat):=by omega
   repeat (first|refine aw ?_|refine f1 ?_)
   refine aN (aI 2 rfl rfl ?_);exact Uw.wM
  ·have hgd:=hgd q
   have q' : ¬(16:Int)<((l.map fun s=>[Dat.str s]).length:Nat):=by omega
   repeat (first|refine aw ?_|refine f1 ?_)
   exact ay j hgd (by exact Uw.wM)
 have F4:=F4 fun j h=>g5 j h h;clear g5 b5 Vg
 repeat (first|refine aw ?_|refine f1 ?_)
 refine aA ?_
 repeat (first|refine aw ?_|refine f1 ?_)
 refine bn p.nodes.length (fun j:Nat=>⟨[(63,.d (I j)),(62,.d (I ((p.nodes.map ndL).length:Nat))),(61,.d (bZ p.nodes))],sHp p,3,[],2⟩) (fun j=>∀h:j<p.nodes.length,¬(p.nodes[j].kind=10/\16<p.nodes[j].of.length)) (by exact Uw.wM) (fun g6=>?_) (fun j hj _=>?_)
 ·rw [F4 fun j h=>g6 j h h]
  repeat (first|refine aw ?_|refine f1 ?_)
  refine aA ?_
  repeat (first|refine aw ?_|refine f1 ?_)
  refine aI 2 rfl rfl ?_;exact Uw.wM
 have he:=O7 j hj;have b6:=b6 j hj;have hgd:¬(p.nodes[j].kind=10/\16<p.nodes[j].of.length)->(fun j=>∀h:j<p.nodes.length,¬(p.nodes[j].kind=10/\16<p.nodes[j].of.length)) j:=fun h _=>h;clear O7 F4;generalize p.nodes[j]=x at *;obtain ⟨xk,xn,xs,xt,xo⟩:=x;have he:(p.nodes.map ndL)[(j:Int).toNat]? = some [I xk,I xn,.str xs,.str xt,.slice 1 (xo.map fun i=>[I i]) false]:=he;simp only at b6 hgd;have hol:(xo.map fun i=>[I i]).length=xo.length:=by simp
 by_cases k10:xk=10
 ·by_cases q:16<xo.length
  ·rw [b6 ⟨k10,q⟩]
   have q' : (16:Int)<((xo.map fun i=>[I i]).length:Nat):=by omega
   subst k10
   repeat (first|refine aw ?_|refine f1 ?_)
   refine aN (aI 2 rfl rfl ?_);exact Uw.wM
  ·have hgd1:=hgd (fun h=>q h.2)
   have q' : ¬(16:Int)<((xo.map fun i=>[I i]).length:Nat):=by omega
   subst k10
   repeat (first|refine aw ?_|refine f1 ?_)
   exact ay j hgd1 (by exact Uw.wM)
 ·have hgd1:=hgd (fun h=>k10 h.1)
  repeat (first|refine aw ?_|refine f1 ?_)
  exact ay j hgd1 (by exact Uw.wM)
end Uw.Tryz
namespace Uw.Tryz
open Go Uw
abbrev XT (p:Pg):List V:=[.d (.slice 3 (p.decls.map bM) false),.d (.slice 3 (p.ae.map fuL) false),.d (bZ p.nodes),.hnd 1,.hnd 2,.d (cb (aD p)),.d (rU (aj p))]
abbrev wyH (p:Pg) (es:MS):Heap:=[(2,.map none es),(3,.var (XT p)),(1,.map none (thE p.decls)),(0,pgV p)]
theorem DT (f:Fu):∀(fs:List Fu) (i:Nat) (es:MS),qO i (fs++[f]) es=(if (bf (qO i fs es) (.s f.name)).isSome then qO i fs es else dK (qO i fs es) (.s f.name) (I ((i+fs.length:Nat):Int)))
 | [],i,es=>rfl
 | g::fs,i,es=>by
  rw [Za,qO,DT f fs,qO,YR,show i+1+fs.length=i+(fs.length+1) by omega]
theorem RG (p:Pg) (j:Nat) (h:j<p.ae.length):((∃v,bf (fnE (p.ae.take j)) (.s p.ae[j].name)=some (I v))/\fnE (p.ae.take j)=fnE (p.ae.take (j+1)))\/(bf (fnE (p.ae.take j)) (.s p.ae[j].name)=none/\dK (fnE (p.ae.take j)) (.s p.ae[j].name) (I (j:Nat))=fnE (p.ae.take (j+1))):=by
 have hl:(p.ae.take j).length=j:=by rw [Y8];omega
 rw [YM h];have e:=DT p.ae[j] (p.ae.take j) 0 [];rw [hl,YZ] at e;show ((∃v,_)/\_=qO 0 _ [])\/(_/\_=qO 0 _ [])
 rw [e];have hg:=AE p.ae[j].name (p.ae.take j) 0 []
 cases hq:bf (qO 0 (p.ae.take j) []) (.s p.ae[j].name) with
 | none=>exact .inr ⟨hq,by simp [fnE]⟩
 | some v=>
  refine .inl ⟨?_,by simp [fnE]⟩;rw [hq] at hg;simp only [bf,abp] at hg
  cases hi:(p.ae.take j).findIdx? fun f=>decide (f.name=p.ae[j].name) with
  | none=>rw [hi] at hg;cases hg
  | some i=>rw [hi] at hg;exact ⟨_,hq.trans hg⟩
abbrev wyS (p:Pg) (E:Nat->MS) (j:Nat):St:=⟨[(26,.d (I j)),(25,.d (I ((p.ae.map fuL).length:Nat))),(24,.d (.slice 3 (p.ae.map fuL) false)),(3,.ptr 3 0),(1,.ptr 0 0)],wyH p (E j),4,[],0⟩
theorem Vh (p:Pg) (hp:Lim p) (hnm:aY p=true->bm P0 iE [.agg (sCs p)] (sBs p) (.d (.bool (nameP p))) (sBs p)):Ret P0 nB [pgD p] (I (jT p)):=by
 have hfm:=rR p hp;have hF:=hp.ae;have hfl:(p.ae.map fuL).length=p.ae.length:=by simp
 refine aF E4 rfl ?_
 cases hf:aY p with
 | false=>
  rw [hf] at hfm;have hw:jT p=1:=by rw [jT,if_pos hf]
  rw [hw]
  repeat (first|refine aw ?_|refine f1 ?_)
  exact al rfl rfl rfl rfl rfl
 | true=>
 rw [hf] at hfm;have how:=mV p hf hp;have hlo:=rV p hf hp;have hth:=mU p hp.decls;obtain ⟨E,hE⟩:∃E:Nat->MS,∀j,E j=fnE (p.ae.take j):=⟨_,fun _=>rfl⟩
 have hS0:wyS p E 0=⟨[(26,.d (I (0:Nat))),(25,.d (I ((p.ae.map fuL).length:Nat))),(24,.d (.slice 3 (p.ae.map fuL) false)),(3,.ptr 3 0),(1,.ptr 0 0)],wyH p [],4,[],0⟩:=by
  rw [wyS,hE];rfl
 have hSn:wyS p E p.ae.length=⟨[(26,.d (I (p.ae.length:Nat))),(25,.d (I ((p.ae.map fuL).length:Nat))),(24,.d (.slice 3 (p.ae.map fuL) false)),(3,.ptr 3 0),(1,.ptr 0 0)],wyH p (fnE p.ae),4,[],0⟩:=by
  rw [wyS,hE,YW]
 have hst:∀(j:Nat) (h:j<p.ae.length),((∃v,bf (E j) (.s p.ae[j].name)=some (I v))/\E j=E (j+1))\/(bf (E j) (.s p.ae[j].name)=none/\dK (E j) (.s p.ae[j].name) (I (j:Nat))=E (j+1)):=fun j h=>by
  rw [hE,hE];exact RG p j h
 have hel:∀(j:Nat) (h:j<p.ae.length),(p.ae.map fuL)[(j:Int).toNat]? = some (fuL p.ae[j]):=fun j h=>by simp [h]
 clear hE
 repeat (first|refine aw ?_|refine f1 ?_)
 refine b9 ⟨[(3,.ptr 3 0),(1,.ptr 0 0)],wyH p [],4,[],0⟩ ?_ ?_
 ·repeat' (first|refine aw ?_|refine f1 ?_|refine Kp ?_ ?_|refine ag 1 [] hth ?_|refine ag 2 [] hth ?_|refine ag 3 [] hth ?_)
  all_goals first|exact bg (.inl ⟨rfl,Weak.eqs [(1,1),(2,2),(3,3)] rfl rfl rfl rfl rfl rfl rfl rfl rfl rfl⟩)|exact bg (.inl ⟨rfl,Weak.eqs [(1,1),(2,3),(3,2)] rfl rfl rfl rfl rfl rfl rfl rfl rfl rfl⟩)|exact bg (.inl ⟨rfl,Weak.eqs [(1,2),(2,1),(3,3)] rfl rfl rfl rfl rfl rfl rfl rfl rfl rfl⟩)|exact bg (.inl ⟨rfl,Weak.eqs [(1,2),(2,3),(3,1)] rfl rfl rfl rfl rfl rfl rfl rfl rfl rfl⟩)|exact bg (.inl ⟨rfl,Weak.eqs [(1,3),(2,1),(3,2)] rfl rfl rfl rfl rfl rfl rfl rfl rfl rfl⟩)|exact bg (.inl ⟨rfl,Weak.eqs [(1,3),(2,2),(3,1)] rfl rfl rfl rfl rfl rfl rfl rfl rfl rfl⟩)
 repeat (first|refine aw ?_|refine f1 ?_)
 refine bn p.ae.length (wyS p E) (fun _=>True) (cH hS0 ?_) (fun _=>?_) (fun j hj _=>?_)
 ·exact Uw.wM
 rotate_left 1
 ·have he:=hel j hj
  have hs:=hst j hj;clear hel hst hSn hS0 hfm how hlo hth;generalize p.ae[j]=f at *;obtain ⟨fn,fa,fb⟩:=f;have he:(p.ae.map fuL)[(j:Int).toNat]? = some [.str fn,.slice 1 (fa.map fun s=>[Dat.str s]) false,I fb]:=he;simp only at hs
  rcases hs with ⟨⟨v,hv⟩,h2⟩|⟨hv,h2⟩
  ·repeat (first|refine aw ?_|refine f1 ?_|refine m1 ?_)
   exact ay j trivial (by exact Uw.wM)
  ·repeat (first|refine aw ?_|refine f1 ?_|refine m1 ?_)
   exact ay j trivial (by exact Uw.wM)
 rw [hSn];clear hel hst hSn hS0 hfm how hlo hth;have hb:=AX p hp;have ht:=AK p hp;have hnm:=hnm hf;have hs:=B0 p hp;have hm:=fun h=>B1 p hp h;have hmain:nameP p=false->p.ae≠[]:=fun h e=>by
  rw [nameP,Zt,Zt,cV,e] at h;simp at h
 have hw:jT p=(if dw p=true then 2 else if dp p=true then 5 else if nameP p=true then 4 else if gx p=true then 6 else if fu p=true then 7 else 0):=by rw [jT,hf];rfl
 cases h1:dw p with
 | true=>
  rw [h1] at hb;rw [show jT p=2 by rw [hw,h1];rfl];refine aw ?_;refine aA ?_
  repeat (first|refine aw ?_|refine f1 ?_)
  refine fB 6 ?_
  repeat (first|refine aw ?_|refine f1 ?_)
  refine ag 6 [1,2] hb ?_
  repeat (first|refine aw ?_|refine f1 ?_)
  refine oN ?_;exact al rfl rfl rfl rfl rfl
 | false=>
 rw [h1] at hb
 cases h2:dp p with
 | true=>
  rw [h2] at ht;rw [show jT p=5 by rw [hw,h1,h2];rfl];refine aw ?_;refine aA ?_
  repeat (first|refine aw ?_|refine f1 ?_)
  refine fB 6 ?_
  repeat (first|refine aw ?_|refine f1 ?_)
  refine ag 6 [1,2] hb ?_
  repeat (first|refine aw ?_|refine f1 ?_)
  refine eL ?_
  repeat (first|refine aw ?_|refine f1 ?_)
  refine ag 7 [1,2] ht ?_
  repeat (first|refine aw ?_|refine f1 ?_)
  refine oN ?_;exact al rfl rfl rfl rfl rfl
 | false=>
 rw [h2] at ht
 cases h3:nameP p with
 | true=>
  rw [h3] at hnm;rw [show jT p=4 by rw [hw,h1,h2,h3];rfl];refine aw ?_;refine aA ?_
  repeat (first|refine aw ?_|refine f1 ?_)
  refine fB 6 ?_
  repeat (first|refine aw ?_|refine f1 ?_)
  refine ag 6 [1,2] hb ?_
  repeat (first|refine aw ?_|refine f1 ?_)
  refine eL ?_
  repeat (first|refine aw ?_|refine f1 ?_)
  refine ag 7 [1,2] ht ?_
  repeat (first|refine aw ?_|refine f1 ?_)
  refine eL ?_
  repeat (first|refine aw ?_|refine f1 ?_)
  refine ag 8 [1,2] hnm ?_
  repeat (first|refine aw ?_|refine f1 ?_)
  refine oN ?_;exact al rfl rfl rfl rfl rfl
 | false=>
 rw [h3] at hnm
 cases h4:gx p with
 | true=>
  rw [h4] at hs;rw [show jT p=6 by rw [hw,h1,h2,h3,h4];rfl];refine aw ?_;refine aA ?_
  repeat (first|refine aw ?_|refine f1 ?_)
  refine fB 6 ?_
  repeat (first|refine aw ?_|refine f1 ?_)
  refine ag 6 [1,2] hb ?_
  repeat (first|refine aw ?_|refine f1 ?_)
  refine eL ?_
  repeat (first|refine aw ?_|refine f1 ?_)
  refine ag 7 [1,2] ht ?_
  repeat (first|refine aw ?_|refine f1 ?_)
  refine eL ?_
  repeat (first|refine aw ?_|refine f1 ?_)
  refine ag 8 [1,2] hnm ?_
  repeat (first|refine aw ?_|refine f1 ?_)
  refine eL ?_
  repeat (first|refine aw ?_|refine f1 ?_)
  refine ag 9 [1,2] hs ?_
  repeat (first|refine aw ?_|refine f1 ?_)
  refine oN ?_;exact al rfl rfl rfl rfl rfl
 | false=>
 rw [h4] at hs;have hm:=hm (hmain h3)
 cases h5:fu p with
 | true=>
  rw [h5] at hm;rw [show jT p=7 by rw [hw,h1,h2,h3,h4,h5];rfl];refine aw ?_;refine aA ?_
  repeat (first|refine aw ?_|refine f1 ?_)
  refine fB 6 ?_
  repeat (first|refine aw ?_|refine f1 ?_)
  refine ag 6 [1,2] hb ?_
  repeat (first|refine aw ?_|refine f1 ?_)
  refine eL ?_
  repeat (first|refine aw ?_|refine f1 ?_)
  refine ag 7 [1,2] ht ?_
  repeat (first|refine aw ?_|refine f1 ?_)
  refine eL ?_
  repeat (first|refine aw ?_|refine f1 ?_)
  refine ag 8 [1,2] hnm ?_
  repeat (first|refine aw ?_|refine f1 ?_)
  refine eL ?_
  repeat (first|refine aw ?_|refine f1 ?_)
  refine ag 9 [1,2] hs ?_
  repeat (first|refine aw ?_|refine f1 ?_)
  refine eL ?_
  repeat (first|refine aw ?_|refine f1 ?_)
  refine ag 10 [1,2] hm ?_
  repeat (first|refine aw ?_|refine f1 ?_)
  refine oN ?_;exact al rfl rfl rfl rfl rfl
 | false=>
 rw [h5] at hm;rw [show jT p=0 by rw [hw,h1,h2,h3,h4,h5];rfl];refine aw ?_;refine aA ?_
 repeat (first|refine aw ?_|refine f1 ?_)
 refine fB 6 ?_
 repeat (first|refine aw ?_|refine f1 ?_)
 refine ag 6 [1,2] hb ?_
 repeat (first|refine aw ?_|refine f1 ?_)
 refine eL ?_
 repeat (first|refine aw ?_|refine f1 ?_)
 refine ag 7 [1,2] ht ?_
 repeat (first|refine aw ?_|refine f1 ?_)
 refine eL ?_
 repeat (first|refine aw ?_|refine f1 ?_)
 refine ag 8 [1,2] hnm ?_
 repeat (first|refine aw ?_|refine f1 ?_)
 refine eL ?_
 repeat (first|refine aw ?_|refine f1 ?_)
 refine ag 9 [1,2] hs ?_
 repeat (first|refine aw ?_|refine f1 ?_)
 refine eL ?_
 repeat (first|refine aw ?_|refine f1 ?_)
 refine ag 10 [1,2] hm ?_
 repeat (first|refine aw ?_|refine f1 ?_)
 refine eL ?_
 repeat (first|refine aw ?_|refine f1 ?_)
 refine oM ?_
 repeat (first|refine aw ?_|refine f1 ?_)
 exact al rfl rfl rfl rfl rfl
end Uw.Tryz
namespace Uw.Tryz
open Go Uw
abbrev naH (p:Pg) (mv:List V) (fam:Heap):Heap:=(2,.var (sCs p))::(3,.var mv)::(0,.map none (thE p.decls))::(1,.map none (fnE p.ae))::fam
theorem yP {p:Pg} {mv:List V} {fam:Heap} {id:Nat} {b:Blk} (h:look (naH p mv fam) id=some b):(id=2/\b = .var (sCs p))\/(id=3/\b = .var mv)\/(id=0/\b = .map none (thE p.decls))\/(id=1/\b = .map none (fnE p.ae))\/look fam id=some b:=by
 rw [ai] at h;by_cases h2:2=id
 ·rw [if_pos h2] at h;injection h with h;exact .inl ⟨h2.symm,h.symm⟩
 rw [if_neg h2,ai] at h;by_cases h3:3=id
 ·rw [if_pos h3] at h;injection h with h;exact .inr (.inl ⟨h3.symm,h.symm⟩)
 rw [if_neg h3,ai] at h;by_cases h1:0=id
 ·rw [if_pos h1] at h;injection h with h;exact .inr (.inr (.inl ⟨h1.symm,h.symm⟩))
 rw [if_neg h1,ai] at h;by_cases h0:1=id
 ·rw [if_pos h0] at h;injection h with h;exact .inr (.inr (.inr (.inl ⟨h0.symm,h.symm⟩)))
 rw [if_neg h0] at h;exact .inr (.inr (.inr (.inr h)))
theorem RH {p:Pg} {mv:List V} {fam:Heap} {id:Nat} (h:4<=id):look (naH p mv fam) id=look fam id:=by
 rw [ai,if_neg (by omega),ai,if_neg (by omega),ai,if_neg (by omega),ai,if_neg (by omega)]
theorem xh {p:Pg} {ls:List (List Str)} {ms:List MS} {mv:List V} {r n:Nat} (hms:ms.length=ls.length) (hn:n=ls.length):cF (naH p mv (cM ls ms)) (bT mid 0 n++List.replicate r (.d .aZ))=true:=by
 subst hn;rw [dU];intro v hv
 rcases Y7.1 hv with hv|hv
 ·obtain ⟨k,hk⟩:=Z8.1 hv
  have hkl:k<ls.length:=by
   rcases Zg k ls.length with h|h
   ·exact h
   ·rw [YY (by rw [dq];exact h)] at hk;cases hk
  rw [km mid ls.length 0 k hkl] at hk;injection hk with hk
  subst hk;have:=pW (rid:=rid) (mid:=mid) (wZ ls.length) (ls:=ls) (ms:=ms) (i:=0) (k:=k) (m:=ms[k]) (by omega) (by omega) (by simp [show k<ms.length by omega]);show (look _ _).isSome=true;rw [RH (by simp [mid];omega)];show (look (jN rid mid 0 ls ms) _).isSome=true;rw [this];rfl
 ·rw [ZX] at hv
  rw [hv.2];rfl
theorem F5 {p:Pg} {ls:List (List Str)} {ms:List MS} {R R' : fw} {H:Heap} {r n:Nat} (hms:ms.length=ls.length) (hl:ls.length<100000) (h1:nV (dm []) R H (naH p (bT mid 0 ls.length++List.replicate r (.d .aZ)) (cM ls ms)) R')
  (e2:look H 2=some (.var (sCs p))) (e3:look H 3=some (.var (bT mid 0 ls.length++List.replicate r (.d .aZ)))) (e0:look H 0=some (.map none (thE p.decls))) (e1:look H 1=some (.map none (fnE p.ae)))
  (ho:Over (cM ls ms) H):Weak ⟨R,H,n,[],2⟩ ⟨R',naH p (bT mid 0 ls.length++List.replicate r (.d .aZ)) (cM ls ms),1000000,[],2⟩:=by
 refine Weak.looks h1 ?_ (by omega) (fun id h _=>?_)
 ·intro id x hx
  rcases yP hx with ⟨rfl,rfl⟩|⟨rfl,rfl⟩|⟨rfl,rfl⟩|⟨rfl,rfl⟩|hx
  ·exact ⟨e2,rfl,by omega⟩
  ·exact ⟨e3,xh hms rfl,by omega⟩
  ·exact ⟨e0,rfl,by omega⟩
  ·exact ⟨e1,rfl,by omega⟩
  ·obtain ⟨g1,g2,g3,_⟩:=fH hx
   exact ⟨by rw [ho id g1 (by omega)];exact hx,g3 _,by omega⟩
 ·rcases (show id=0\/id=1 by omega) with rfl|rfl<;>rfl
end Uw.Tryz
namespace Uw.Tryz
open Go Uw
def XU:bN:=qL (qL (qR (qL (qR (qR (qR (qR cA.code)))))))
abbrev noL (n:Nat):List (List Str):=List.replicate n []
abbrev nmV (n:Nat):List V:=bT mid 0 (noL n).length++List.replicate 0 (.d .aZ)
abbrev L1 (p:Pg) (ms:List MS) (k:Nat):St:=⟨[(59,.d (I k)),(58,.d (I ((p.nodes.map ndL).length:Nat))),(57,.d (bZ p.nodes)),(5,.row 3 (aj p).length),(1,.ptr 2 0)],naH p (nmV (aj p).length) (cM (noL (aj p).length) ms),1000000,[],2⟩
abbrev nmG (p:Pg) (k:Nat):Prop:=∀h:k<p.nodes.length,ft p p.nodes[k] ((aD p).getD k 0)=false
theorem JA (p:Pg) (hf:aY p=true) (hp:Lim p) (R:Bool) (j:Nat) (hj:j<p.nodes.length) (hone:ft p p.nodes[j] ((aD p).getD j 0)=true->R=true) (hpre:∀i,i<j->nmG p i) (ms:List MS) (hms:ms=(aj p).map cq) {kk:aG->St->Tree} (hkk:∀s,kk .ret s=Tree.done .ret s) :
  WT P0 (gJ (L1 p ms) (sK p.nodes.length (nmG p)) (forM p.nodes.length) j fun e s=>WT P0 (EQ 2 cA.res (.d (.bool R)) (sBs p)) (kk e s)) (exec XU (L1 p ms j) Tree.done):=by
 have hN:=hp.nodes;have hF:=hp.ae;have hnl:(p.nodes.map ndL).length=p.nodes.length:=by simp
 have hll:=fP p;have XV:(noL (aj p).length).length=(aj p).length:=by simp
 have O8:(noL (aj p).length).length<100000:=by omega
 have WE:ms.length=(noL (aj p).length).length:=by rw [hms];simp
 have hvl:(nmV (aj p).length).length=(aj p).length:=by rw [YP,dq];simp
 have hown:=wX hf _ j hj (YN _);have hol:((aD p).map fun i=>[I i]).length=p.nodes.length:=by rw [Y5,dT]
 have hoe:((aD p).map fun i=>[I i])[(j:Int).toNat]? = some [I ((aD p).getD j 0)]:=by
  have h2:j<(aD p).length:=by rw [dT];exact hj
  simp [List.getD,h2]
 have he:(p.nodes.map ndL)[(j:Int).toNat]? = some (ndL p.nodes[j]):=by simp [hj]
 have hth:=wY p p.nodes[j].name;have hfn:=FR p p.nodes[j].name2;have hG:ft p p.nodes[j] ((aD p).getD j 0)=false->nmG p j:=fun h _=>h;have hd:∀x o,ft p x o=(if x.kind=10\/x.kind=11 then (cV p x.name2).isNone else if x.kind=8 then (aE p x.name).isNone else if x.kind=2 then (aE p x.name).isNone&&!decide (x.name∈(aj p).getD o.toNat []) else false):=fun x o=>rfl;rw [hd] at hone hG;clear hd;generalize (aD p).getD j 0=o at *;generalize p.nodes[j]=x at *;obtain ⟨xk,xn,xs,xt,xo⟩:=x;have he:(p.nodes.map ndL)[(j:Int).toNat]? = some [I xk,I xn,.str xs,.str xt,cb xo]:=he;simp only at hone hG hth hfn;obtain ⟨l,hl⟩:∃l,(aj p)[o.toNat]? = some l:=⟨(aj p)[o.toNat]'(by omega),by simp⟩
 have hld:(aj p).getD o.toNat []=l:=by rw [List.getD,hl];rfl
 rw [hld] at hone hG;have hmg:(nmV (aj p).length)[o.toNat * 1]? = some (.hnd (mid o.toNat)):=by
  rw [aa0,Zb (by rw [dq];omega),km mid _ 0 _ (by omega),YZ]
 have hlk:∀H,Over (cM (noL (aj p).length) ms) H->look H (mid o.toNat)=some (.map none (cq l)):=fun H ho=>by
  rw [ho _ (by simp only [mid];omega) (by simp only [mid];omega)];have:=pW (wZ (noL (aj p).length).length) (ls:=noL (aj p).length) (ms:=ms) (i:=0) (k:=o.toNat) (m:=cq l) (by omega) (by omega) (by rw [hms];simp [hl])
  rwa [YZ] at this
 have hsg:=sB l xs;have tM:∀(Rg:fw) (H:Heap) (nx:Nat),look H 2=some (.var (sCs p))->look H 3=some (.var (nmV (aj p).length))->look H 0=some (.map none (thE p.decls))->look H 1=some (.map none (fnE p.ae))->Over (cM (noL (aj p).length) ms) H->
   (∀mv fam,nV (dm []) Rg H (naH p mv fam) [(59,.d (I ((j+1:Nat):Int))),(58,.d (I ((p.nodes.map ndL).length:Nat))),(57,.d (bZ p.nodes)),(5,.row 3 (aj p).length),(1,.ptr 2 0)])->Weak ⟨Rg,H,nx,[],2⟩ (L1 p ms (j+1)):=by
  intro Rg H nx e2 e3 e0 e1 ho hR;exact F5 WE O8 (hR _ _) e2 e3 e0 e1 ho
 have hend:∀st:St,st.defers=[]->st.base=2->resV st cA.res=some [.d (.bool true)]->look st.heap 0=some (.map none (thE p.decls))->look st.heap 1=some (.map none (fnE p.ae))->EQ 2 cA.res (.d (.bool true)) (sBs p) .ret st:=by
  intro st h1 _ h3 h4 h5;refine ⟨.inr rfl,h1,_,h3,?_⟩;refine Weak.looks ⟨⟨_,rfl,.inl ⟨rfl,rfl⟩⟩,trivial⟩ ?_ (by show 2<=2;omega) (fun id h _=>?_)
  ·intro id y hy
   have:(id=0/\y = .map none (thE p.decls))\/(id=1/\y = .map none (fnE p.ae)):=by
    have hy:look [(0,Blk.map none (thE p.decls)),(1,Blk.map none (fnE p.ae))] id=some y:=hy;rw [ai] at hy;by_cases h0:0=id
    ·rw [if_pos h0] at hy;injection hy with hy;exact .inl ⟨h0.symm,hy.symm⟩
    rw [if_neg h0,ai] at hy;by_cases h0:1=id
    ·rw [if_pos h0] at hy;injection hy with hy;exact .inr ⟨h0.symm,hy.symm⟩
    rw [if_neg h0] at hy;cases hy
   rcases this with ⟨rfl,rfl⟩|⟨rfl,rfl⟩
   ·exact ⟨h4,rfl,by show 0<2;omega⟩
   ·exact ⟨h5,rfl,by show 1<2;omega⟩
  ·rcases (show id=0\/id=1 by omega) with rfl|rfl<;>rfl
 have hT:(aE p xs=none/\bf (thE p.decls) (.s xs)=none)\/∃kd,aE p xs=some kd/\bf (thE p.decls) (.s xs)=some (I kd):=by
  rw [hth]
  cases aE p xs with
  | none=>exact .inl ⟨rfl,rfl⟩
  | some kd=>exact .inr ⟨kd,rfl,rfl⟩
 have hU:(cV p xt=none/\bf (fnE p.ae) (.s xt)=none)\/∃i:Nat,cV p xt=some i/\bf (fnE p.ae) (.s xt)=some (I i):=by
  rw [hfn]
  cases cV p xt with
  | none=>exact .inl ⟨rfl,rfl⟩
  | some i=>exact .inr ⟨i,rfl,rfl⟩
 clear hth hfn;by_cases k1:xk=10\/xk=11
 ·rcases hU with ⟨u1,u2⟩|⟨i,u1,u2⟩
  ·rw [hone (by rw [if_pos k1,u1];rfl)]
   rcases k1 with rfl|rfl<;>rcases hT with ⟨_,t2⟩|⟨kd,_,t2⟩
   all_goals repeat (first|refine aw ?_|refine f1 ?_|refine m1 ?_)
   all_goals exact ix hkk (hend _ rfl rfl rfl rfl rfl)
  ·have hG1:=hG (by rw [if_pos k1,u1];rfl)
   rcases k1 with rfl|rfl<;>rcases hT with ⟨_,t2⟩|⟨kd,_,t2⟩
   all_goals repeat (first|refine aw ?_|refine f1 ?_|refine m1 ?_)
   all_goals refine ay j hG1 (tM _ _ _ rfl rfl rfl rfl (by (repeat refine bB ?_ rfl);exact bA) (fun mv fam=>?_))
   all_goals (repeat' first|exact trivial|refine ⟨⟨_,rfl,?_⟩,?_⟩|exact cT (by first|with_reducible rfl|omega)|exact Or.inl ⟨rfl,rfl⟩)
 obtain ⟨k10,k11⟩:xk≠10/\xk≠11:=by omega
 by_cases k8:xk=8
 ·rcases hT with ⟨t1,t2⟩|⟨kd,t1,t2⟩
  ·rw [hone (by rw [if_neg k1,if_pos k8,t1];rfl)]
   subst k8
   rcases hU with ⟨_,u2⟩|⟨i,_,u2⟩
   all_goals repeat (first|refine aw ?_|refine f1 ?_|refine m1 ?_)
   all_goals exact ix hkk (hend _ rfl rfl rfl rfl rfl)
  ·have hG1:=hG (by rw [if_neg k1,if_pos k8,t1];rfl)
   subst k8
   rcases hU with ⟨_,u2⟩|⟨i,_,u2⟩
   all_goals repeat (first|refine aw ?_|refine f1 ?_|refine m1 ?_)
   all_goals refine ay j hG1 (tM _ _ _ rfl rfl rfl rfl (by (repeat refine bB ?_ rfl);exact bA) (fun mv fam=>?_))
   all_goals (repeat' first|exact trivial|refine ⟨⟨_,rfl,?_⟩,?_⟩|exact cT (by first|with_reducible rfl|omega)|exact Or.inl ⟨rfl,rfl⟩)
 by_cases k2:xk=2
 ·rcases hT with ⟨t1,t2⟩|⟨kd,t1,t2⟩
  ·by_cases hin:xs∈l
   ·rw [if_pos hin] at hsg
    have hG1:=hG (by rw [if_neg k1,if_neg k8,if_pos k2,t1];simp [hin]);subst k2
    rcases hU with ⟨_,u2⟩|⟨i,_,u2⟩
    all_goals repeat (first|refine aw ?_|refine f1 ?_|refine m1 ?_)
    all_goals refine lk _ (hlk _ (by (repeat refine bB ?_ rfl);exact bA)) ?_
    all_goals repeat (first|refine aw ?_|refine f1 ?_|refine m1 ?_)
    all_goals refine ay j hG1 (tM _ _ _ rfl rfl rfl rfl (by (repeat refine bB ?_ rfl);exact bA) (fun mv fam=>?_))
    all_goals (repeat' first|exact trivial|refine ⟨⟨_,rfl,?_⟩,?_⟩|exact cT (by first|with_reducible rfl|omega)|exact Or.inl ⟨rfl,rfl⟩)
   ·rw [if_neg hin] at hsg
    rw [hone (by rw [if_neg k1,if_neg k8,if_pos k2,t1];simp [hin])];subst k2
    rcases hU with ⟨_,u2⟩|⟨i,_,u2⟩
    all_goals repeat (first|refine aw ?_|refine f1 ?_|refine m1 ?_)
    all_goals refine lk _ (hlk _ (by (repeat refine bB ?_ rfl);exact bA)) ?_
    all_goals repeat (first|refine aw ?_|refine f1 ?_|refine m1 ?_)
    all_goals exact ix hkk (hend _ rfl rfl rfl rfl rfl)
  ·have hG1:=hG (by rw [if_neg k1,if_neg k8,if_pos k2,t1];rfl)
   subst k2
   rcases hU with ⟨_,u2⟩|⟨i,_,u2⟩
   all_goals repeat (first|refine aw ?_|refine f1 ?_|refine m1 ?_)
   all_goals refine ay j hG1 (tM _ _ _ rfl rfl rfl rfl (by (repeat refine bB ?_ rfl);exact bA) (fun mv fam=>?_))
   all_goals (repeat' first|exact trivial|refine ⟨⟨_,rfl,?_⟩,?_⟩|exact cT (by first|with_reducible rfl|omega)|exact Or.inl ⟨rfl,rfl⟩)
 have hG1:=hG (by rw [if_neg k1,if_neg k8,if_neg k2])
 rcases hU with ⟨_,u2⟩|⟨i,_,u2⟩<;>rcases hT with ⟨_,t2⟩|⟨kd,_,t2⟩
 all_goals repeat (first|refine aw ?_|refine f1 ?_|refine m1 ?_)
 all_goals refine ay j hG1 (tM _ _ _ rfl rfl rfl rfl (by (repeat refine bB ?_ rfl);exact bA) (fun mv fam=>?_))
 all_goals (repeat' first|exact trivial|refine ⟨⟨_,rfl,?_⟩,?_⟩|exact cT (by first|with_reducible rfl|omega)|exact Or.inl ⟨rfl,rfl⟩)
end Uw.Tryz
namespace Uw
open Go
theorem Weak.Vi [Glob] (ρ:Nat->Nat) {R R' : fw} {H H' : Heap} {n n' b:Nat} (h1:nV ρ R H H' R') (h2:∀id x,look H' id=some x->(∃y,look H (ρ id)=some y/\m8 ρ H H' y x)/\id<n')
  (h3:∀id id',(look H' id).isSome=true->(look H' id').isSome=true->ρ id=ρ id'->id=id') (hb:∀id,id<b->ρ id=id/\((look H id).isSome=true->(look H' id).isSome=true)) (hn:b<=n'):Weak ⟨R,H,n,[],b⟩ ⟨R',H',n',[],b⟩:=
 ⟨ρ,fun i v h=>kc h1 i v h,fun i x h=>.inl (h2 i x h).1,fun i x h=>(h2 i x h).2,rfl,hn,hb,h3,rfl,rfl⟩
end Uw
namespace Uw.Tryz
open Go Uw
def uD (j b:Nat) (id:Nat):Nat:=if id=mid j then b else id
theorem RJ {p:Pg} {k:Nat} {ms:List MS} {m:MS} {R R' : fw} {H:Heap} {r n b:Nat} {mv' : List V} (hms:ms.length=k) (hl:k<100000) (hb:1000000<=b)
  (h1:nV (uD k b) R H (naH p (bT mid 0 (k+1)++List.replicate r (.d .aZ)) (cM (noL (k+1)) (ms++[m]))) R')
  (e2:look H 2=some (.var (sCs p))) (e3:look H 3=some (.var mv')) (hmv:mv' = bT mid 0 k++[.hnd b]++List.replicate r (.d .aZ))
  (e0:look H 0=some (.map none (thE p.decls))) (e1:look H 1=some (.map none (fnE p.ae))) (eb:look H b=some (.map none m)) (ho:Over (cM (noL k) ms) H) :
  Weak ⟨R,H,n,[],2⟩ ⟨R',naH p (bT mid 0 (k+1)++List.replicate r (.d .aZ)) (cM (noL (k+1)) (ms++[m])),1000000,[],2⟩:=by
 subst hmv;have hlow:∀i,i<4->uD k b i=i:=fun i h=>by unfold uD;rw [if_neg (by simp only [mid];omega)]
 have hm:∀i,i<k->uD k b (mid i)=mid i:=fun i h=>by unfold uD;rw [if_neg (by simp only [mid];omega)]
 have hmk:uD k b (mid k)=b:=by unfold uD;rw [if_pos rfl]
 have hnk:(noL k).length=k:=by simp
 have hlen:(noL (k+1)).length=k+1:=by simp
 have bd:∀i x,look (naH p (bT mid 0 (k+1)++List.replicate r (.d .aZ)) (cM (noL (k+1)) (ms++[m]))) i=some x->i<1000000:=by
  intro i x hx
  rcases yP hx with ⟨rfl,rfl⟩|⟨rfl,rfl⟩|⟨rfl,rfl⟩|⟨rfl,rfl⟩|hx
  ·omega
  ·omega
  ·omega
  ·omega
  ·have:=(fH hx).2.1
   rw [hlen] at this;omega
 refine Weak.Vi (uD k b) h1 ?_ ?_ (fun id h=>⟨hlow id (by omega),fun _=>?_⟩) (by omega)
 ·intro id x hx
  refine ⟨?_,bd id x hx⟩
  rcases yP hx with ⟨rfl,rfl⟩|⟨rfl,rfl⟩|⟨rfl,rfl⟩|⟨rfl,rfl⟩|hx
  ·exact ⟨_,by rw [hlow 2 (by omega)];exact e2,dX (by show Blk.var _=Blk.var (fK _ _);simp [fK,V.ren,hlow 0,hlow 1]) rfl⟩
  ·refine ⟨_,by rw [hlow 3 (by omega)];exact e3,dX ?_ (xh (by simp [hms]) hlen.symm)⟩
   show _=Blk.var (fK _ _);have hc:bT (fun i=>uD k b (mid i)) 0 k=bT mid 0 k:=nM k 0 fun i hi=>by simp only [YZ];exact hm i hi
   rw [pf,mX,sE,uz,hc];simp only [YZ];rw [hmk]
  ·exact ⟨_,by rw [hlow 0 (by omega)];exact e0,dX rfl rfl⟩
  ·exact ⟨_,by rw [hlow 1 (by omega)];exact e1,dX rfl rfl⟩
  ·obtain ⟨g1,g2,g3,g4⟩:=fH hx
   refine ⟨x,?_,dX (g4 _).symm (g3 _)⟩
   rcases vM hx with ⟨i,m',k1,k2,k3,rfl,rfl⟩|⟨i,l',k1,k2,k3,k4,rfl,rfl⟩
   ·rw [YZ]
    rw [hlen] at k1;by_cases hi:i<k
    ·rw [hm i hi,ho _ (by simp only [mid];omega) (by simp only [mid];omega)]
     have:=pW (wZ (noL k).length) (ls:=noL k) (ms:=ms) (i:=0) (k:=i) (m:=m') (by omega) (by omega) (by rwa [Zb (by omega)] at k3)
     rwa [YZ] at this
    ·obtain rfl:i=k:=by omega
     rw [Zn (by omega),hms,aaQ] at k3;injection k3 with k3
     rw [hmk,<- k3];exact eb
   ·exfalso
    have:=Y4 k3;rw [ZX] at this;exact k4 this.2
 ·intro id id' h h' he
  obtain ⟨x,hx⟩:=aaf.1 h;obtain ⟨x',hx'⟩:=aaf.1 h';have b1:=bd id x hx;have b2:=bd id' x' hx';unfold uD at he
  split at he<;>split at he<;>omega
 ·rcases (show id=0\/id=1 by omega) with rfl|rfl<;>rfl
end Uw.Tryz
namespace Uw.Tryz
open Go Uw
theorem xi {p:Pg} (h:cV p eY=none):nameP p=true:=by rw [nameP,h];rfl
theorem xj {p:Pg} (j:Nat) (h:j<p.nodes.length) (hn:ft p p.nodes[j] ((aD p).getD j 0)=true):nameP p=true:=by
 have h2:j<(aD p).length:=by rw [dT];exact h
 have hz:j<(p.nodes.zip (aD p)).length:=by rw [aav];omega
 have:((p.nodes.zip (aD p)).any fun y=>ft p y.1 y.2)=true:=Zv.2 ⟨_,YT hz,by
  rw [aaG];simpa [List.getD,h2] using hn⟩
 rw [nameP,this];simp
theorem DU {p:Pg} (j:Nat) (h:j<p.decls.length) (hk:p.decls[j].kind<0\/3<p.decls[j].kind):nameP p=true:=by
 have:(p.decls.any fun d=>decide (d.kind<0)||decide (3<d.kind))=true:=Zv.2 ⟨_,YT h,by simpa using hk⟩;rw [nameP,this];simp
theorem Ig {p:Pg} (h0:cV p eY≠none) (h1:∀(j:Nat) (h:j<p.nodes.length),ft p p.nodes[j] ((aD p).getD j 0)=false) (h2:∀(j:Nat) (h:j<p.decls.length),¬(p.decls[j].kind<0\/3<p.decls[j].kind)):nameP p=false:=by
 have e1:((p.nodes.zip (aD p)).any fun y=>ft p y.1 y.2)=false:=Zl.2 fun y hy=>by
  obtain ⟨j,hj,rfl⟩:=Y0.1 hy;rw [aav] at hj;have hj1:j<p.nodes.length:=by omega
  have hj2:j<(aD p).length:=by omega
  have:=h1 j hj1;rw [aaG];simpa [List.getD,hj2] using this
 have e2:(p.decls.any fun d=>decide (d.kind<0)||decide (3<d.kind))=false:=Zl.2 fun d hd=>by
  obtain ⟨j,hj,rfl⟩:=Y0.1 hd;have:=h2 j hj;simpa using this
 rw [nameP,e1,e2]
 cases h:cV p eY with
 | none=>exact absurd h h0
 | some i=>rfl
end Uw.Tryz
namespace Uw.Tryz
open Go Uw
theorem Td {p:Pg} {k b nx:Nat} {ms:List MS} {m m' : MS} {R R' : fw} {H:Heap} {r n:Nat} {mv' : List V} (hms:ms.length=k) (hl:k<100000) (hb:1000000<=b) (hnx:b<nx) (hmv:mv' = bT mid 0 k++[.hnd b]++List.replicate r (.d .aZ))
  (h1:nV (dm []) R H ((b,.map none m')::naH p mv' (cM (noL k) ms)) R') (e2:look H 2=some (.var (sCs p))) (e3:look H 3=some (.var mv')) (e0:look H 0=some (.map none (thE p.decls))) (e1:look H 1=some (.map none (fnE p.ae))) (eb:look H b=some (.map none m)) (hm:m=m')
  (ho:Over (cM (noL k) ms) H):Weak ⟨R,H,n,[],2⟩ ⟨R',(b,.map none m')::naH p mv' (cM (noL k) ms),nx,[],2⟩:=by
 subst hm;have hkl:(noL k).length=k:=by simp
 have hlk:∀i,(look (naH p mv' (cM (noL k) ms)) i).isSome=true->(look ((b,.map none m)::naH p mv' (cM (noL k) ms)) i).isSome=true:=by
  intro i h;rw [ai]
  split
  ·rfl
  ·exact h
 refine Weak.looks h1 ?_ (by omega) (fun id h _=>?_)
 ·intro id x hx
  rw [ai] at hx;by_cases h2:b=id
  ·rw [if_pos h2] at hx;injection hx with hx;subst h2 hx;exact ⟨eb,rfl,by omega⟩
  rw [if_neg h2] at hx
  rcases yP hx with ⟨rfl,rfl⟩|⟨rfl,rfl⟩|⟨rfl,rfl⟩|⟨rfl,rfl⟩|hx
  ·refine ⟨e2,?_,by omega⟩
   show cF _ _=true;rw [dU];intro v hv;simp only [sCs,Y3,List.mem_nil_iff,or_false] at hv
   rcases hv with rfl|rfl|rfl|rfl|rfl|rfl|rfl
   ·rfl
   ·rfl
   ·rfl
   ·exact hlk 0 rfl
   ·exact hlk 1 rfl
   ·rfl
   ·rfl
  ·refine ⟨e3,?_,by omega⟩
   show cF _ _=true;have hc:=xh (p:=p) (ls:=noL k) (ms:=ms) (mv:=mv') (r:=r) (n:=k) (by rw [hkl,hms]) hkl.symm;rw [dU] at hc ⊢;intro v hv;rw [hmv] at hv
   rcases Y7.1 hv with hv|hv
   ·rcases Y7.1 hv with hv|hv
    ·obtain ⟨q,hq⟩:=Z8.1 hv
     have hql:q<k:=by
      rcases Zg q k with h|h
      ·exact h
      ·rw [YY (by rw [dq];exact h)] at hq;cases hq
     have hg:=km mid k 0 q hql;rw [hq] at hg;injection hg with hg
     have:=hc v (aa3 _ hv);rw [hg] at this ⊢;exact hlk _ this
    ·simp only [Y3,List.mem_nil_iff,or_false] at hv
     subst hv;show (look _ _).isSome=true;rw [ai,if_pos rfl];rfl
   ·rw [(ZX.1 hv).2];rfl
  ·exact ⟨e0,rfl,by omega⟩
  ·exact ⟨e1,rfl,by omega⟩
  ·obtain ⟨g1,g2,g3,_⟩:=fH hx
   rw [hkl] at g2;exact ⟨by rw [ho id g1 (by omega)];exact hx,g3 _,by omega⟩
 ·rcases (show id=0\/id=1 by omega) with rfl|rfl
  ·exact hlk 0 rfl
  ·exact hlk 1 rfl
end Uw.Tryz
namespace Uw.Tryz
open Go Uw
abbrev nL (p:Pg):Nat:=((aj p).map fun l=>[ei l]).length
abbrev nmR (p:Pg):fw:=[(5,.row 3 (nL p)),(1,.ptr 2 0)]
abbrev O9 (n r:Nat):List V:=bT mid 0 n++List.replicate r (.d .aZ)
abbrev JB (p:Pg) (j:Nat):St:=⟨(33,.d (I j))::(32,.d (I (nL p:Nat)))::(31,.d (rU (aj p)))::nmR p,naH p (O9 j (nL p - j)) (cM (noL j) (((aj p).take j).map cq)),1000000,[],2⟩
theorem Ih {k b i:Nat} (h:i<4):uD k b i=i:=by unfold uD;rw [if_neg (by simp only [mid];omega)]
theorem RL {j b k n:Nat} {h h' : Heap} (hk:k<4) (hc:(look h' k).isSome=true):VW (uD j b) h h' (.row k n) (.row k n):=.inl ⟨by rw [V.ren,Ih hk],hc⟩
theorem RN {j b k o:Nat} {h h' : Heap} (hk:k<4) (hc:(look h' k).isSome=true):VW (uD j b) h h' (.ptr k o) (.ptr k o):=.inl ⟨by rw [V.ren,Ih hk],hc⟩
theorem RO {p:Pg} {k b:Nat} {R:fw} {H:Heap} {mv:List V} {fam:Heap} (h5:look R 5=some (.row 3 (nL p))) (h1:look R 1=some (.ptr 2 0)):nV (uD k b) R H (naH p mv fam) (nmR p):=
 ⟨⟨_,h5,RL (by omega) rfl⟩,⟨_,h1,RN (by omega) rfl⟩,trivial⟩
def XW:bN:=qL (qL (qR (qL (qR (qR (qR cA.code))))))
theorem Ii (p:Pg) (hp:Lim p) (hls:∀l∈aj p,l.length<1000000000) (j:Nat) (hj:j<nL p) (hpre:∀i,i<j->True) {QQ:aG->St->Prop}:WT P0 (gJ (JB p) (sK (nL p) fun _=>True) (forM (nL p)) j QQ) (exec XW (JB p j) Tree.done):=by
 have hnl:nL p=(aj p).length:=by simp
 have hll:=fP p;have hF:=hp.ae;have hj2:j<(aj p).length:=by rw [<- hnl];exact hj
 have he:((aj p).map fun l=>[ei l])[(j:Int).toNat]? = some [ei (aj p)[j]]:=by simp [hj2]
 have hml:(O9 j (nL p - j)).length=nL p:=by rw [YP,dq,ZL];omega
 have hlL:=hls _ (YT hj2);have htk:(aj p).take (j+1)=(aj p).take j++[(aj p)[j]]:=YM hj2;have hms:(((aj p).take j).map cq).length=j:=by rw [Y5,Y8];omega
 generalize (aj p)[j]=l at *;have he:((aj p).map fun l=>[ei l])[(j:Int).toNat]? = some [.slice 1 (l.map fun s=>[Dat.str s]) false]:=he;have hrl:(l.map fun s=>[Dat.str s]).length=l.length:=by simp
 have hsm:∀v,(O9 j (nL p - j)).set ((j:Int).toNat * 1) v=bT mid 0 j++[v]++List.replicate (nL p - (j+1)) (.d .aZ):=fun v=>by
  have:=FN (bT mid 0 j) (V.d .aZ) v (nL p - (j+1));rw [dq,show nL p - (j+1)+1=nL p - j by omega] at this;rw [show (j:Int).toNat * 1=j by omega];exact this
 have hS:JB p (j+1)=⟨(33,.d (I ((j+1:Nat):Int)))::(32,.d (I (nL p:Nat)))::(31,.d (rU (aj p)))::nmR p,naH p (bT mid 0 (j+1)++List.replicate (nL p - (j+1)) (.d .aZ)) (cM (noL (j+1)) (((aj p).take j).map cq++[cq l])),1000000,[],2⟩:=by
  rw [JB,htk,ZO];rfl
 have hl5:j<100000:=by omega
 obtain ⟨E,hE⟩:∃E:Nat->MS,∀i,E i=cq (l.take i):=⟨_,fun _=>rfl⟩
 have hE0:([]:MS)=E 0:=by rw [hE];rfl
 have hEn:E l.length=cq l:=by rw [hE,YW]
 have hEs:∀(i:Nat) (h:i<l.length),dK (E i) (.s l[i]) (.bool true)=E (i+1):=fun i h=>by rw [hE,hE,YM h,pX]
 have hge:∀(i:Nat) (h:i<l.length),(l.map fun s=>[Dat.str s])[(i:Int).toNat]? = some [.str l[i]]:=fun i h=>by simp [h]
 obtain ⟨mv',hmv⟩:∃mv',mv' = bT mid 0 j++[V.hnd 1000000]++List.replicate (nL p - (j+1)) (.d .aZ):=⟨_,rfl⟩
 have OX:(O9 j (nL p - j)).set ((j:Int).toNat * 1) (V.hnd 1000000)=mv':=by rw [hsm,hmv]
 have hmg:mv'[(j:Int).toNat * 1]? = some (.hnd 1000000):=by
  rw [hmv,Ze,Zn (by rw [dq];omega),dq];simp
 have XO:mv'.length=nL p:=by rw [<- OX,aaw];exact hml
 repeat (first|refine aw ?_|refine f1 ?_)
 refine bn l.length (fun i:Nat=>⟨(44,.d (I i))::(43,.d (I ((l.map fun s=>[Dat.str s]).length:Nat)))::(42,.d (ei l))::(6,.d (I j))::(33,.d (I j))::(32,.d (I (nL p:Nat)))::(31,.d (rU (aj p)))::nmR p,(1000000,.map none (E i))::naH p mv' (cM (noL j) (((aj p).take j).map cq)),1000001,[],2⟩) (fun _=>True) ?_ (fun _=>?_) (fun i hi _=>?_)
 ·refine Td hms hl5 (YN _) (by omega) hmv ?_ rfl (by rw [<- OX];rfl) rfl rfl rfl hE0 (by (repeat refine bB ?_ rfl);exact bA)
  repeat' first|exact trivial|refine ⟨⟨_,rfl,?_⟩,?_⟩|exact cT (by first|with_reducible rfl|omega)|exact Or.inl ⟨rfl,rfl⟩
 ·refine aw ?_
  refine aA ?_;refine aw ?_;refine ay j trivial (cH hS ?_);exact RJ (b:=1000000) hms hl5 (by omega) ⟨⟨_,rfl,cT rfl⟩,⟨_,rfl,.inl ⟨rfl,rfl⟩⟩,⟨_,rfl,.inl ⟨rfl,rfl⟩⟩,RO rfl rfl⟩ rfl rfl hmv rfl rfl (by rw [<- hEn];rfl) (by (repeat refine bB ?_ rfl);exact bA)
 have hg:=hge i hi;have hs:=hEs i hi;generalize l[i]=nm at *
 repeat (first|refine aw ?_|refine f1 ?_)
 refine zn ((1000000,.map none (dK (E i) (.s nm) (.bool true)))::naH p mv' (cM (noL j) (((aj p).take j).map cq))) (KR _ _ _ _) ?_
 repeat (first|refine aw ?_|refine f1 ?_)
 refine ay i trivial ?_;refine Td hms hl5 (YN _) (by omega) hmv ?_ rfl rfl rfl rfl rfl hs (by (repeat refine bB ?_ rfl);exact bA)
 repeat' first|exact trivial|refine ⟨⟨_,rfl,?_⟩,?_⟩|exact cT (by first|with_reducible rfl|omega)|exact Or.inl ⟨rfl,rfl⟩
end Uw.Tryz
namespace Uw.Tryz
open Go Uw
theorem F6 (p:Pg) (hp:Lim p):∀l∈aj p,l.length<1000000000:=fun l hl=>by
 obtain ⟨i,hi,rfl⟩:=Y0.1 hl;have hN:=hp.nodes;have:=uA p hp p.nodes.length i (aj p)[i] (by rw [rT];simp [hi]);omega
abbrev Vj (p:Pg) (j:Nat):St:=⟨[(114,.d (I j)),(113,.d (I ((p.decls.map bM).length:Nat))),(112,.d (.slice 3 (p.decls.map bM) false))],[(0,.map none (thE p.decls)),(1,.map none (fnE p.ae))],2,[],2⟩
abbrev RP (p:Pg) (k:Nat):Prop:=∀h:k<p.decls.length,¬(p.decls[k].kind<0\/3<p.decls[k].kind)
def XX:bN:=qL (qL (qR (qL (qR (qR (qR (qR (qR cA.code))))))))
theorem Ij (p:Pg) (hp:Lim p) (R:Bool) (j:Nat) (hj:j<p.decls.length) (hone:p.decls[j].kind<0\/3<p.decls[j].kind->R=true) (hpre:∀i,i<j->RP p i) {kk:aG->St->Tree} (hkk:∀s,kk .ret s=Tree.done .ret s) :
  WT P0 (gJ (Vj p) (sK p.decls.length (RP p)) (forM p.decls.length) j fun e s=>WT P0 (EQ 2 cA.res (.d (.bool R)) (sBs p)) (kk e s)) (exec XX (Vj p j) Tree.done):=by
 have hD:=hp.decls;have hdl:(p.decls.map bM).length=p.decls.length:=by simp
 have he:(p.decls.map bM)[(j:Int).toNat]? = some (bM p.decls[j]):=by simp [hj]
 have hG:¬(p.decls[j].kind<0\/3<p.decls[j].kind)->RP p j:=fun h _=>h;generalize p.decls[j]=x at *;obtain ⟨xk,xn,xv⟩:=x;simp only at hone hG
 first
  | (have he:(p.decls.map bM)[(j:Int).toNat]? = some [I xk,.str xn,I xv]:=he)
  | skip
 by_cases k0:xk<0
 ·rw [hone (.inl k0)]
  repeat (first|refine aw ?_|refine f1 ?_)
  refine ix hkk (aI 2 rfl rfl ?_);exact Uw.wM
 by_cases k3:3<xk
 ·rw [hone (.inr k3)]
  repeat (first|refine aw ?_|refine f1 ?_)
  refine ix hkk (aI 2 rfl rfl ?_);exact Uw.wM
 have hG1:=hG (by omega)
 repeat (first|refine aw ?_|refine f1 ?_)
 exact ay j hG1 (by exact Uw.wM)
theorem B5 (p:Pg) (hf:aY p=true) (hp:Lim p):bm P0 iE [.agg (sCs p)] (sBs p) (.d (.bool (nameP p))) (sBs p):=by
 have hmn:=FR p eY
 cases hm:cV p eY with
 | none=>
  rw [xi hm];rw [hm] at hmn;have hmn:bf (fnE p.ae) (.s [109,97,105,110])=none:=hmn;refine aJ kO rfl ?_
  repeat (first|refine aw ?_|refine f1 ?_|refine m1 ?_)
  refine aI 2 rfl rfl ?_;exact Uw.wM
 | some i0=>
 rw [hm] at hmn;have hmn:bf (fnE p.ae) (.s [109,97,105,110])=some (I (i0:Nat)):=hmn;have hll:=fP p;have hF:=hp.ae;have hN:=hp.nodes;have hD:=hp.decls;have hi0:i0<p.ae.length:=by
  rw [cV] at hm;exact (Zy.1 hm).1
 have hnl:nL p=(aj p).length:=by simp
 have hmk:(decide (((nL p:Nat):Int)=(nL p:Nat))&&decide ((0:Int)<=(nL p:Nat))&&decide ((((nL p:Nat):Nat):Int) * ((8:Nat):Int)<=70368744177664))=true:=by rw [hnl];simp;omega
 have hpi:(0:Int)<(nL p:Nat):=by omega
 have Ym:(p.nodes.map ndL).length=p.nodes.length:=by simp
 have hdl:(p.decls.map bM).length=p.decls.length:=by simp
 have h0:cV p eY≠none:=by rw [hm];exact fun h=>by cases h
 have nP:=fun j (h:j<p.nodes.length)=>xj (p:=p) j h;have gB:=fun j (h:j<p.decls.length)=>DU (p:=p) j h;have hall:=fun h1 h2=>Ig (p:=p) h0 h1 h2;clear hm h0;have hls:=F6 p hp;have hSn:JB p (nL p)=⟨(33,.d (I (nL p:Nat)))::(32,.d (I (nL p:Nat)))::(31,.d (rU (aj p)))::nmR p,naH p (nmV (aj p).length) (cM (noL (aj p).length) ((aj p).map cq)),1000000,[],2⟩:=by
  have e:(aj p).take (nL p)=aj p:=YU (by omega);have e2:O9 (nL p) (nL p - nL p)=nmV (aj p).length:=by
   show _=bT mid 0 (noL (aj p).length).length++_;rw [aaQ,hnl,ZL]
  rw [JB,e,e2];rw [show noL (nL p)=noL (aj p).length by rw [hnl]]
 have hS0:L1 p ((aj p).map cq) 0=⟨(59,.d (I ((0:Nat):Int)))::(58,.d (I ((p.nodes.map ndL).length:Nat)))::(57,.d (bZ p.nodes))::nmR p,naH p (nmV (aj p).length) (cM (noL (aj p).length) ((aj p).map cq)),1000000,[],2⟩:=by
  rw [L1,nmR,hnl]
 have XV:(noL (aj p).length).length=(aj p).length:=by simp
 have hms:((aj p).map cq).length=(noL (aj p).length).length:=by simp
 have O8:(noL (aj p).length).length<100000:=by omega
 generalize nameP p=R at *;refine aJ kO rfl ?_
 repeat (first|refine aw ?_|refine f1 ?_|refine m1 ?_)
 refine bn (nL p) (JB p) (fun _=>True) ?_ (fun _=>?_) (fun j hj hpre=>?_);rotate_left 2
 ·exact Ii p hp hls j hj hpre
 ·refine F5 (ls:=noL 0) (ms:=[]) (r:=nL p - 0) rfl (by simp) ?_ rfl rfl rfl rfl (by (repeat refine bB ?_ rfl);exact bA)
  repeat' first|exact trivial|refine ⟨⟨_,rfl,?_⟩,?_⟩|exact cT (by first|with_reducible rfl|omega)|exact Or.inl ⟨rfl,rfl⟩
 rw [hSn];refine aw ?_;refine aA ?_
 repeat (first|refine aw ?_|refine f1 ?_)
 refine bn p.nodes.length (L1 p ((aj p).map cq)) (nmG p) (cH hS0 ?_) (fun g2=>?_) (fun j hj hpre=>?_);rotate_left 2
 ·exact JA p hf hp R j hj (nP j hj) hpre _ rfl (fun s=>rfl)
 ·refine F5 (r:=0) hms O8 ?_ rfl rfl rfl rfl (by (repeat refine bB ?_ rfl);exact bA)
  repeat' first|exact trivial|refine ⟨⟨_,rfl,?_⟩,?_⟩|exact cT (by first|with_reducible rfl|omega)|exact Or.inl ⟨rfl,rfl⟩
 have hall:=hall fun j h=>g2 j h h;refine aw ?_;refine aA ?_
 repeat (first|refine aw ?_|refine f1 ?_)
 refine bn p.decls.length (Vj p) (RP p) ?_ (fun g3=>?_) (fun j hj hpre=>?_);rotate_left 2
 ·exact Ij p hp R j hj (gB j hj) hpre (fun s=>rfl)
 ·exact Uw.wM
 rw [hall fun j h=>g3 j h h];refine aw ?_;refine aA ?_
 repeat (first|refine aw ?_|refine f1 ?_)
 refine aI 2 rfl rfl ?_;exact Uw.wM
theorem Ik (p:Pg) (hp:Lim p):Ret P0 nB [pgD p] (I (jT p)):=Vh p hp fun hf=>B5 p hf hp
end Uw.Tryz
namespace Uw.Tryz
open Go Uw
theorem ya {g:Int->Nat->List In4} (hg:∀k a b,(g k a).length=(g k b).length):∀(l:List Int) (a b:Nat),(layAll g l a).length=(layAll g l b).length
 | [],_,_=>rfl
 | k::r,a,b=>by rw [layAll,layAll,YP,YP,hg k a b,ya hg r _ (b+(g k b).length)]
theorem Il {ns:List Nd} {N:Nms}:∀(f:Nat) (k:Int) (a b:Nat),(iQ ns N f k a).length=(iQ ns N f k b).length
 | 0,_,_,_=>rfl
 | f+1,k,a,b=>by
  have ih:=Il (ns:=ns) (N:=N) f;rw [iQ,iQ];simp only
  split
  ·split
   ·simp only [YP,YR]
    rw [ih _ a b,ih _ (a+_+1) (b+(iQ ns N f (((ns.getD k.toNat default).of).getD 0 0) b).length+1)]
   ·simp only [YP,YR]
    rw [ih _ a b,ih (((ns.getD k.toNat default).of).getD 1 0) (a+_+1) (b+(iQ ns N f (((ns.getD k.toNat default).of).getD 0 0) b).length+1),ih (((ns.getD k.toNat default).of).getD 2 0) _ (b+(iQ ns N f (((ns.getD k.toNat default).of).getD 0 0) b).length+1+(iQ ns N f (((ns.getD k.toNat default).of).getD 1 0) (b+(iQ ns N f (((ns.getD k.toNat default).of).getD 0 0) b).length+1)).length+1)]
  ·split
   ·simp only [YP,YR]
    rw [ih _ a b,ih _ (a+_+1) (b+(iQ ns N f (((ns.getD k.toNat default).of).getD 0 0) b).length+1)]
   ·rw [YP,YP,ya ih _ a b]
def yB (ns:List Nd) (N:Nms) (k:Int):Nat:=(lay ns N k 0).length
theorem vT {ns:List Nd} {N:Nms} (k:Int) (a:Nat):(lay ns N k a).length=yB ns N k:=Il _ _ _ _
theorem Py (N:Nms) (x:Nd):(ja N x).length<=1:=by
 unfold ja
 repeat' split
 all_goals simp
theorem Io {ns:List Nd} {N:Nms}:∀(l:List Int) (a:Nat),(layAll (lay ns N) l a).length=(l.map (yB ns N)).sum
 | [],_=>rfl
 | k::r,a=>by rw [layAll,YP,vT,Io r,Zm,abw]
theorem AY {l:List Int} {W:Int->Nat}:(l.length=2->(l.map W).sum=W (l.getD 0 0)+W (l.getD 1 0))/\(l.length=3->(l.map W).sum=W (l.getD 0 0)+W (l.getD 1 0)+W (l.getD 2 0)):=by
 constructor
 ·intro h
  match l,h with
  | [a,b],_=>simp
 ·intro h
  match l,h with
  | [a,b,c],_=>simp;omega
theorem RR {ns:List Nd} {N:Nms} (hL:Lays ns) (k:Nat) (hk:k<ns.length):yB ns N (k:Int)<=2+(ns[k].of.map (yB ns N)).sum:=by
 rw [yB,OW N hL k hk 0];have h13:=hL.ifs k hk;have h14:=hL.FM k hk
 split
 ·rename_i k13
  split
  ·rename_i h3
   have h2:ns[k].of.length=2:=by have:=h13 k13;omega
   rw [AY.1 h2];simp only [YP,YR,vT];omega
  ·rename_i h3
   have h2:ns[k].of.length=3:=by have:=h13 k13;omega
   rw [AY.2 h2];simp only [YP,YR,vT];omega
 ·split
  ·rename_i k14
   rw [AY.1 (h14 k14)];simp only [YP,YR,ZS,vT];omega
  ·rw [YP,Io]
   have:=Py N ns[k];omega
theorem DV {W:Int->Nat} {c:Nat}:∀(l:List Nd) (w:List Nat),w.length=l.length->(∀(i:Nat) (h:i<l.length),w.getD i 0<=c+(l[i].of.map W).sum)->w.sum<=c * l.length+((l.flatMap (·.of)).map W).sum
 | [],w,hw,_=>by
  have:w=[]:=Y2 hw;subst this;simp
 | x::l,[],hw,_=>by simp at hw
 | x::l,v::w,hw,h=>by
  have h0:=h 0 (by simp);have ih:=DV l w (by simpa using hw) fun i hi=>h (i+1) (Nat.succ_lt_succ hi);simp only [List.getD_cons_zero,Z6] at h0;rw [abw,Z3,ZO,List.sum_append,YR,Nat.mul_add];omega
theorem L2 {p:Pg} (h:aY p=true):(eX p).Perm ((List.range p.nodes.length).map fun (k:Nat)=>(k:Int)):=by
 refine (List.perm_ext_iff_of_nodup (Aj h) ?_).2 fun a=>⟨fun ha=>?_,fun ha=>?_⟩
 ·rw [aan,List.pairwise_map]
  exact (aan.1 List.nodup_range).imp fun hab e=>hab (Int.ofNat.inj e)
 ·obtain ⟨h1,h2⟩:=yO h a ha
  exact Zk.2 ⟨a.toNat,Z7.2 (by omega),by omega⟩
 ·obtain ⟨k,hk,rfl⟩:=Zk.1 ha
  refine List.count_pos_iff.1 ?_;rw [lV h k (Z7.1 hk)];decide
theorem RS {l:List Nat} {a:Nat} (h:a∈l):a<=l.sum:=by
 induction l with
 | nil=>simp at h
 | cons b l ih=>
  rw [abw]
  rcases Y3.1 h with rfl|h
  ·omega
  ·have:=ih h;omega
theorem RU {p:Pg} (h:aY p=true) (N:Nms) (f:Nat) (hf:f<p.ae.length) (a:Nat):(lay p.nodes N p.ae[f].body a).length<=2 * p.nodes.length:=by
 have hL:=xZ h;have h1:=DV (c:=2) (W:=yB p.nodes N) p.nodes ((List.range p.nodes.length).map fun (k:Nat)=>yB p.nodes N (k:Int)) (by simp) fun i hi=>by
  have:=RR (N:=N) hL i hi;simpa [List.getD,hi] using this
 have h2:=((L2 h).map (yB p.nodes N)).sum_nat;rw [eX,ZO,List.sum_append,aaq,aaq] at h2;have h3:(yB p.nodes N ∘ fun (k:Nat)=>(k:Int))=fun (k:Nat)=>yB p.nodes N (k:Int):=rfl;rw [h3] at h2;have h4:yB p.nodes N p.ae[f].body<=(p.ae.map (yB p.nodes N ∘ fun x=>x.body)).sum:=RS (Zk.2 ⟨p.ae[f],YT hf,rfl⟩);rw [vT];omega
abbrev cnB (p:Pg):List Blk:=[.map none (tgE p.decls),.map none (fuE p.ae),.map none (hpE p.ae.length (cS p))]
abbrev cnV (p:Pg):V:=.agg [.hnd 0,.hnd 1,.hnd 2,.d (cb (lJ p (cS p)))]
def lcE (l:List Str):MS:=l.zipIdx.foldl (fun es y=>dK es (.s y.1) (I ((y.2:Nat):Int))) []
theorem JC (l:List Str):lcE l=hpE 0 l:=by simp [lcE,hpE]
theorem Vk (s:Str) (l:List Str) (h:l.Nodup):bf (lcE l) (.s s)=(mW l s).map I:=by
 rw [JC,Jy 0 s l h]
 cases mW l s<;>simp
theorem Pz (l:List Str) (s:Str):lcE (l++[s])=dK (lcE l) (.s s) (I (l.length:Nat)):=by rw [JC,JC,AP,YZ]
abbrev iP0:In4:=⟨1,0,0,0⟩
abbrev iRt:In4:=⟨17,0,0,0⟩
def mkF (p:Pg) (l:List Str):Mk:=⟨p.nodes,tgE p.decls,fuE p.ae,hpE p.ae.length (cS p),lcE l,cb (lJ p (cS p))⟩
theorem WM {p:Pg} (h:May p) (f:Nat) (hf:f<p.ae.length):U9 (mkF p ((aj p).getD f [])) (kn p f):=by
 refine ⟨fun s=>?_,fun s=>?_,fun s=>?_,fun s=>?_⟩
 ·show bf (tgE p.decls) (.s s)=_
  rw [U6 p h.names.1];show _=((aE p s).map fun k=>(k,((OV p s:Nat):Int))).map _
  cases aE p s<;>rfl
 ·show (bf (fuE p.ae) (.s s)).getD (I 0)=I (((cV p s).getD 0:Nat):Int)
  rw [Jx p h.names.2.1]
  cases cV p s<;>rfl
 ·show (bf (hpE p.ae.length (cS p)) (.s s)).getD (I 0)=I (match mW (cS p) s with|some i=>(p.ae.length:Nat)+i|none=>0)
  have e:=Jy p.ae.length s (cS p) (rW _ _ aa2);rw [e]
  cases mW (cS p) s<;>rfl
 ·show bf (lcE ((aj p).getD f [])) (.s s)=(mW ((aj p).getD f []) s).map I
  rw [Vk];have:=(h.locals f hf).1.2.1;rw [h.lof f hf] at this;exact this
theorem L6 (p:Pg) (te fe he:MS) (pi:List Int) (l:List Str) (c0:List In4) (f kb:Nat) (ga:List Str) (gn:Str) (hp:Lim p) (hloc:Ret P0 mM [pgD p,I f] (ei l)) (L0:(p.ae.map fuL)[(f:Int).toNat]? = some [.str gn,.slice 1 (ga.map fun s=>[Dat.str s]) false,I kb]) (hfi:(f:Int)<((p.ae.map fuL).length:Nat)) (hl:l.length<=16) (hc0:c0.length<900000)
  (DW:bm P0 aW [.ptr 0 0,.d (I kb)] (mkB ⟨p.nodes,te,fe,he,lcE l,cb pi⟩ []) (.tuple []) (mkB ⟨p.nodes,te,fe,he,lcE l,cb pi⟩ c0)) :
  bm P0 gR [pgA p,.agg [.hnd 0,.hnd 1,.hnd 2,.d (cb pi)],.d (I f)] [.map none te,.map none fe,.map none he] (.agg [.d (I (ga.length:Nat)),.d (I (l.length:Nat)),.ref 3 (c0++[iP0]++[iRt]).length 0 (c0++[iP0]++[iRt]).length]) [.map none te,.map none fe,.map none he,.mt 4 (c0++[iP0]++[iRt]).length ((c0++[iP0]++[iRt]).map in4)]:=by
 have x8:=bL ⟨p.nodes,te,fe,he,lcE l,cb pi⟩ c0 (by omega) 1 0 0 0;have AU:=bL ⟨p.nodes,te,fe,he,lcE l,cb pi⟩ (c0++[iP0]) (by simp;omega) 17 0 0 0;generalize (c0++[iP0]++[iRt])=c2 at *;generalize (c0++[iP0])=c1 at *;have hF:=hp.ae;have hsl:(l.map fun s=>[Dat.str s]).length=l.length:=by simp
 have hgl:(ga.map fun s=>[Dat.str s]).length=ga.length:=by simp
 obtain ⟨E,hE⟩:∃E:Nat->MS,∀j,E j=lcE (l.take j):=⟨_,fun _=>rfl⟩
 have hE0:E 0=[]:=by rw [hE];rfl
 have hEn:lcE l=E l.length:=by rw [hE,YW]
 have hst:∀(j:Nat) (h:j<l.length),dK (E j) (.s l[j]) (I (j:Nat))=E (j+1):=fun j h=>by
  rw [hE,hE,YM h,Pz,Y8,aaZ (by omega)]
 have hel:∀(j:Nat) (h:j<l.length),(l.map fun s=>[Dat.str s])[(j:Int).toNat]? = some [.str l[j]]:=fun j h=>by simp [h]
 rw [hEn] at DW x8 AU;clear hEn hE;rw [<- hgl,<- hsl];refine aJ yp rfl ?_
 repeat (first|refine aw ?_|refine f1 ?_|refine m1 ?_)
 refine bn l.length (fun j=>⟨[(27,.d (I j)),(26,.d (I ((l.map fun s=>[Dat.str s]).length:Nat))),(25,.d (ei l)),(9,.d (ei l)),(8,.ptr 8 0),(7,.ptr 6 0),(6,.ptr 5 0)],[(7,.map none (E j)),(8,.var [.d (bZ p.nodes),.hnd 0,.hnd 1,.hnd 2,.d (cb pi),.hnd 7,.d .nil]),(6,.var [.d (.str gn),.d (.slice 1 (ga.map fun s=>[Dat.str s]) false),.d (I kb)]),(5,.var [.d (I 0),.d (I 0),.d .nil]),(2,.map none he),(1,.map none fe),(0,.map none te)],9,[],3⟩) (fun _=>True) (cH (by rw [hE0]) ?_) (fun _=>?_) (fun j hj _=>?_)
 ·exact Uw.wM
 rotate_left 1
 ·have he2:=hel j hj
  have hs:=hst j hj;generalize l[j]=s at *
  repeat (first|refine aw ?_|refine f1 ?_|refine m1 ?_)
  exact ay j trivial (by exact Uw.wM)
 clear hel hst
 repeat (first|refine aw ?_|refine f1 ?_)
 refine aA ?_
 repeat (first|refine aw ?_|refine f1 ?_)
 refine ag 9 [8,0,1,2,7] DW ?_
 repeat (first|refine aw ?_|refine f1 ?_)
 refine ag 10 [8,0,1,2,7,9] x8 ?_
 repeat (first|refine aw ?_|refine f1 ?_)
 refine ag 10 [8,0,1,2,7,9] AU ?_
 repeat (first|refine aw ?_|refine f1 ?_)
 refine aI 3 rfl rfl (Weak.ofR [(3,9)] ?_ ?_ rfl rfl ?_ rfl rfl rfl)
 ·refine ⟨⟨_,rfl,?_⟩,trivial⟩
  exact Or.inr (Or.inr (Or.inr (Or.inr (Or.inl ⟨_,_,rfl,rfl,.inl ⟨rfl,rfl⟩,.inl ⟨rfl,rfl⟩,.inl ⟨rfl,rfl⟩,trivial⟩))))
 ·exact ⟨⟨.inl ⟨_,rfl,⟨rfl,rfl⟩⟩,rfl⟩,⟨.inl ⟨_,rfl,⟨rfl,rfl⟩⟩,rfl⟩,⟨.inl ⟨_,rfl,⟨rfl,rfl⟩⟩,rfl⟩,⟨.inl ⟨_,rfl,⟨rfl,rfl,rfl⟩⟩,rfl⟩,trivial⟩
 ·exact ⟨⟨rfl,fun _=>rfl⟩,⟨rfl,fun _=>rfl⟩,⟨rfl,fun _=>rfl⟩,trivial⟩
theorem RV (p:Pg) (hp:Lim p) (hm:May p) (f:Nat) (hf:f<p.ae.length):bm P0 gR [pgA p,cnV p,.d (I f)] (cnB p) (.agg [.d (I (p.ae[f].args.length:Nat)),.d (I (((aj p).getD f []).length:Nat)),.ref 3 (hQ p f p.ae[f]).ins.length 0 (hQ p f p.ae[f]).ins.length]) (cnB p++[.mt 4 (hQ p f p.ae[f]).ins.length ((hQ p f p.ae[f]).ins.map in4)]):=by
 have hF:=hp.ae;have hN:=hp.nodes;have hloc:=AB p hp f;have hll:=(hm.locals f hf)
 rw [hm.lof f hf] at hloc hll;have hlen:=hll.2;have hfb:=nK hm.formed f hf;have hfew:=RU hm.formed (kn p f) f hf 0;have hbody:(hQ p f p.ae[f]).ins=lay p.nodes (kn p f) p.ae[f].body 0++[iP0]++[iRt]:=by simp [hQ,lay]
 obtain ⟨kb,hkb⟩:∃k:Nat,p.ae[f].body=(k:Int):=⟨p.ae[f].body.toNat,by omega⟩
 have DW:=AW (mkF p ((aj p).getD f [])) (kn p f) (WM hm f hf) (xZ hm.formed) (fun i h=>Nat.lt_trans (hp.of _ (YT h)) (by decide)) kb (by show kb<p.nodes.length;omega) [];rw [hkb] at hfew hbody;have DW:bm P0 aW [.ptr 0 0,.d (I kb)] (mkB (mkF p ((aj p).getD f [])) []) (.tuple []) (mkB (mkF p ((aj p).getD f [])) (lay p.nodes (kn p f) kb 0)):=DW (by show 0+(lay p.nodes (kn p f) kb 0).length<1000000;omega);have L0:(p.ae.map fuL)[(f:Int).toNat]? = some (fuL p.ae[f]):=by simp [hf]
 have hfl:(p.ae.map fuL).length=p.ae.length:=by simp
 have hfi:(f:Int)<((p.ae.map fuL).length:Nat):=by omega
 have XY:(p.ae.map fuL)[(f:Int).toNat]? = some [.str p.ae[f].name,.slice 1 (p.ae[f].args.map fun s=>[Dat.str s]) false,I kb]:=by rw [L0,fuL,hkb];rfl
 rw [hbody];exact L6 p _ _ _ (lJ p (cS p)) _ _ f kb _ _ hp hloc XY hfi hlen (by omega) DW
theorem AZ (p:Pg) (hp:Lim p) (hm:May p) (f:Nat) (hf:f<p.ae.length):bm P0 gR [pgA p,cnV p,.d (I f)] (cnB p) (.agg ((bdC (hQ p f p.ae[f])).map V.d)) (cnB p):=by
 refine lh.freeze (RV p hp hm f hf) ?_;rintro r h0 n0 ⟨rfl,rfl,rfl⟩;refine ⟨_,bdC (hQ p f p.ae[f]),bu 0 (cnB p),3,rfl,?_,?_,YN _,?_,rfl,rfl,rfl⟩
 ·have e:((hQ p f p.ae[f]).ins.map in4).drop 0=(hQ p f p.ae[f]).ins.map in4:=rfl
  have e2:((hQ p f p.ae[f]).ins.map in4).take (hQ p f p.ae[f]).ins.length=(hQ p f p.ae[f]).ins.map in4:=YU (by simp);have e3:Nat.beq (hQ p f p.ae[f]).ins.length (hQ p f p.ae[f]).ins.length=true:=aaW _;simp only [frz,cnB,bu,look,e,e2,e3,List.append,HAppend.hAppend,Append.append];rfl
 ·intro id x hx
  rw [kF] at hx ⊢;simp only [ZP,if_true,aaV] at hx ⊢;obtain ⟨h1,h2⟩:=Zi.1 hx;refine ⟨by rw [Zb h1];exact hx,?_,h1⟩
  rcases id with _|_|_|id
  ·subst h2;rfl
  ·subst h2;rfl
  ·subst h2;rfl
  ·have:id+1+1+1<3:=h1
   omega
 ·intro id hid _
  rw [kF]
  rcases id with _|_|_|id
  ·rfl
  ·rfl
  ·rfl
  ·have:id+1+1+1<3:=hid
   omega
end Uw.Tryz
namespace Uw.Tryz
open Go Uw
def RX (res:List gI):Tree->Option Dat
 | .done .ret st=>match st.defers,resV st res with
  | [],some vs=>match dQ st.heap vs,wv st.heap vs with
   | some ds,true=>some (jX ds)
   | _,_=>none
  | _,_=>none
 | _=>none
theorem RY {P:Program} {res:List gI} {t:Tree} {r:Dat} (h:RX res t=some r):WT P (BG res r) t:=by
 unfold RX at h
 split at h
 ·split at h
  ·rename_i hd hv
   split at h
   ·rename_i h1 h2
    injection h with h
    exact al hd hv h1 h2 h
   ·cases h
  ·cases h
 ·cases h
theorem RZ {P:Program} {f:FuncId} {m:bp} (hf:aM P f m) {args:List Dat} {r:Dat} (hn:Nat.ble args.length m.n=true) (h:RX m.res (exec m.code (lj args) Tree.done)=some r):Ret P f args r:=aF hf hn (RY h)
theorem JD (f k:Int):RX kg.res (exec kg.code (lj [I f,I k]) Tree.done)=some (.agg [I 2,I 5,.slice 4 ((xY f k).ins.map in4) true]):=by kernel_rfl
theorem JE (f k:Int):Ret P0 iw [I f,I k] (.agg [I 2,I 5,.slice 4 ((xY f k).ins.map in4) true]):=RZ vj rfl (JD f k)
theorem xl (f k:Int):Ret P0 iw [I f,I k] (.agg (bdC (xY f k))):=(JE f k).res (.agg (.cons (.refl _) (.cons (.refl _) (.cons (.slice (.refl _)) (.refl _)))))
theorem nQ (p:Pg):∀(l:List Fu) (i j:Nat) (h:j<l.length),(dJ p i l)[j]? = some (hQ p (i+j) l[j])
 | [],i,j,h=>by simp at h
 | g::r,i,0,h=>by rw [dJ];rfl
 | g::r,i,j+1,h=>by
  have:=nQ p r (i+1) j (by simpa using h);rw [dJ,ZT,this,show i+1+j=i+(j+1) by omega];rfl
theorem jn (p:Pg):∀(l:List Fu) (i:Nat),(dJ p i l).length=l.length
 | [],_=>rfl
 | g::r,i=>by rw [dJ,YR,jn p r,YR]
theorem qb (p:Pg):∀(l:List Str) (i:Nat),(hZ p i l).length=l.length
 | [],_=>rfl
 | g::r,i=>by rw [hZ,YR,qb p r,YR]
theorem A0 (p:Pg):∀(l:List Str) (i j:Nat) (h:j<l.length),(hZ p i l)[j]? = some (xY (((cV p l[j]).getD 0:Nat):Int) ((i+j:Nat):Int))
 | [],i,j,h=>by simp at h
 | g::r,i,0,h=>by rw [hZ];rfl
 | g::r,i,j+1,h=>by
  have:=A0 p r (i+1) j (by simpa using h);rw [hZ,ZT,this,show i+1+j=i+(j+1) by omega];rfl
abbrev XZ (p:Pg):Heap:=[(5,.var [.hnd 2,.hnd 3,.hnd 4,.d (cb (lJ p (cS p)))]),(4,.map none (hpE p.ae.length (cS p))),(3,.map none (fuE p.ae)),(2,.map none (tgE p.decls)),(1,.var [.d .nil,.d .nil,.d (I 0),.d (I 0),.d (I 0),.d (I 0)]),(0,.var [.d (.slice 3 (p.decls.map bM) false),.d (.slice 3 (p.ae.map fuL) false),.d (bZ p.nodes)])]
abbrev ocR:fw:=[(6,.ptr 6 0),(5,.ptr 5 0),(2,.ptr 1 0),(1,.ptr 0 0)]
abbrev ocH (p:Pg) (cl fs:List (List Dat)) (a b c m:Int):Heap:=(8,.arr 1 cl)::(7,.arr 3 fs)::(6,.var [.ref 7 0 0 fs.length,.ref 8 0 0 cl.length,.d (I a),.d (I b),.d (I c),.d (I m)])::XZ p
abbrev Ip (p:Pg) (CL:Nat->List (List Dat)) (A B C:Nat->Nat) (m:Int) (j:Nat):St:=⟨(28,.d (I j))::(27,.d (I ((p.decls.map bM).length:Nat)))::(26,.d (.slice 3 (p.decls.map bM) false))::ocR,ocH p (CL j) [] (A j:Nat) (B j:Nat) (C j:Nat) m,9,[],0⟩
abbrev R1 (p:Pg) (CL:List (List Dat)) (FS:Nat->List (List Dat)) (a b c m:Int) (j:Nat):St:=⟨(65,.d (I j))::(64,.d (I ((p.ae.map fuL).length:Nat)))::(63,.d (.slice 3 (p.ae.map fuL) false))::ocR,ocH p CL (FS j) a b c m,9,[],0⟩
abbrev Vl (p:Pg) (CL:List (List Dat)) (FS:Nat->List (List Dat)) (a b c m:Int) (j:Nat):St:=⟨(87,.d (I j))::(86,.d (I (((lJ p (cS p)).map fun i=>[I i]).length:Nat)))::(85,.d (cb (lJ p (cS p))))::ocR,ocH p CL (FS j) a b c m,9,[],0⟩
theorem pg (ds:List Dec) (k:Int) (j:Nat) (h:j<ds.length):bX (ds.take (j+1)) k=bX (ds.take j) k+if ds[j].kind=k then 1 else 0:=by
 rw [YM h,bX,bX,aa8,abD];simp
theorem A1 (ds:List Dec) (k:Int) (j:Nat):bX (ds.take j) k<=j:=by
 have:bX (ds.take j) k<=(ds.take j).length:=aaE;rw [Y8] at this;omega
abbrev L8:Dat:=.agg [.nil,.nil,I 0,I 0,I 0,I 0]
abbrev ocG (p:Pg) (j:Nat):Prop:=∀h:j<p.ae.length,¬400<(hQ p j p.ae[j]).ins.length
theorem K0 (p:Pg) (hp:Lim p) (hm:May p) (hy:Ret P0 nB [pgD p] (I 0)) (c:Dat) (e:Int) (hone:∀(j:Nat) (h:j<p.ae.length),400<(hQ p j p.ae[j]).ins.length->c=L8/\e=2) (hall:(∀j,j<p.ae.length->ocG p j)->c=cdD (Au p)/\e=0):Ret P0 jH [pgD p] (.tuple [c,I e]):=by
 have hnu:=xg p hp hm;have hbo:=AZ p hp hm;have hF:=hp.ae;have hD:=hp.decls;have hN:=hp.nodes;have hfl:(p.ae.map fuL).length=p.ae.length:=by simp
 have hdl:(p.decls.map bM).length=p.decls.length:=by simp
 have hpl:((lJ p (cS p)).map fun i=>[I i]).length=(cS p).length:=by simp [lJ]
 have hmain:(bf (fuE p.ae) (.s [109,97,105,110])).getD (I 0)=I (((cV p eY).getD 0:Nat):Int):=by
  have:=Jx p hm.names.2.1 eY;rw [show eY=[109,97,105,110] from rfl] at this;rw [this];show _=I (((cV p [109,97,105,110]).getD 0:Nat):Int)
  cases cV p [109,97,105,110]<;>rfl
 obtain ⟨CL,hCL⟩:∃E:Nat->List (List Dat),∀j,E j=(((p.decls.take j).filter fun d=>decide (d.kind=0)).map (·.n)).map fun i=>[I i]:=⟨_,fun _=>rfl⟩
 obtain ⟨A,hA⟩:∃E:Nat->Nat,∀j,E j=bX (p.decls.take j) 1:=⟨_,fun _=>rfl⟩
 obtain ⟨B,hB⟩:∃E:Nat->Nat,∀j,E j=bX (p.decls.take j) 2:=⟨_,fun _=>rfl⟩
 obtain ⟨C,hC⟩:∃E:Nat->Nat,∀j,E j=bX (p.decls.take j) 3:=⟨_,fun _=>rfl⟩
 obtain ⟨FS,hFS⟩:∃E:Nat->List (List Dat),∀j,E j=((dJ p 0 p.ae).take j).map bdC:=⟨_,fun _=>rfl⟩
 obtain ⟨GS,hGS⟩:∃E:Nat->List (List Dat),∀j,E j=(dJ p 0 p.ae).map bdC++((hZ p p.ae.length (cS p)).take j).map bdC:=⟨_,fun _=>rfl⟩
 have hdel:∀(j:Nat) (h:j<p.decls.length),(p.decls.map bM)[(j:Int).toNat]? = some (bM p.decls[j]):=fun j h=>by simp [h]
 have hcs:∀(j:Nat) (h:j<p.decls.length),(CL j).length<=j/\A j<=j/\B j<=j/\C j<=j/\
   ((p.decls[j].kind=0->CL (j+1)=CL j++(List.replicate 1 [Dat.int .i64 0]).set 0 [I p.decls[j].n])/\(p.decls[j].kind≠0->CL (j+1)=CL j))/\
   ((p.decls[j].kind=1->A (j+1)=A j+1)/\(p.decls[j].kind≠1->A (j+1)=A j))/\((p.decls[j].kind=2->B (j+1)=B j+1)/\(p.decls[j].kind≠2->B (j+1)=B j))/\((p.decls[j].kind=3->C (j+1)=C j+1)/\(p.decls[j].kind≠3->C (j+1)=C j)):=fun j h=>by
  refine ⟨?_,by rw [hA];exact A1 _ _ _,by rw [hB];exact A1 _ _ _,by rw [hC];exact A1 _ _ _,⟨fun e=>?_,fun e=>?_⟩,⟨fun e=>?_,fun e=>?_⟩,⟨fun e=>?_,fun e=>?_⟩,⟨fun e=>?_,fun e=>?_⟩⟩
  ·rw [hCL,Y5,Y5]
   have:=abC (fun d:Dec=>decide (d.kind=0)) (p.decls.take j);rw [Y8] at this;omega
  ·rw [hCL,hCL,YM h,List.filter_append];simp [e]
  ·rw [hCL,hCL,YM h,List.filter_append];simp [e]
  ·rw [hA,hA,pg _ _ _ h,if_pos e]
  ·rw [hA,hA,pg _ _ _ h,if_neg e];rfl
  ·rw [hB,hB,pg _ _ _ h,if_pos e]
  ·rw [hB,hB,pg _ _ _ h,if_neg e];rfl
  ·rw [hC,hC,pg _ _ _ h,if_pos e]
  ·rw [hC,hC,pg _ _ _ h,if_neg e];rfl
 have hfs:∀(j:Nat) (h:j<p.ae.length),(FS j).length<=j/\FS (j+1)=FS j++(List.replicate 1 [Dat.int .i64 0,Dat.int .i64 0,Dat.nil]).set 0 (bdC (hQ p j p.ae[j])):=fun j h=>by
  have hb:=nQ p p.ae 0 j h;rw [YZ] at hb;refine ⟨by rw [hFS,Y5,Y8];omega,?_⟩;rw [hFS,hFS,abd,hb,ZO];rfl
 have hgs:∀(j:Nat) (h:j<(cS p).length),(GS j).length=p.ae.length+j/\GS (j+1)=GS j++(List.replicate 1 [Dat.int .i64 0,Dat.int .i64 0,Dat.nil]).set 0 (bdC (xY (((cV p (cS p)[j]).getD 0:Nat):Int) ((GS j).length:Nat))):=fun j h=>by
  have hb:=A0 p (cS p) p.ae.length j h;have hl:(GS j).length=p.ae.length+j:=by
   rw [hGS,YP,Y5,Y5,Y8,jn,qb];omega
  refine ⟨hl,?_⟩;rw [hl,hGS,hGS,abd,hb,ZO,<- Ze];rfl
 have R2:∀(j:Nat) (h:j<(cS p).length),((lJ p (cS p)).map fun i=>[I i])[(j:Int).toNat]? = some [I (((cV p (cS p)[j]).getD 0:Nat):Int)]:=fun j h=>by simp [lJ,h]
 have hFG:FS p.ae.length=GS 0:=by
  rw [hFS,hGS,YU (by rw [jn];exact YN _)];simp
 have hpn:(cS p).length<=p.nodes.length:=by
  have:∀(r:List Nd) (l:List Str),(fj r l).length<=l.length+r.length:=by
   intro r
   induction r with
   | nil=>intro l;simp [fj]
   | cons x r ih=>
    intro l;rw [fj];refine Zp (ih _) ?_
    split
    ·simp<;>omega
    ·simp<;>omega
  have:=this p.nodes [];simpa [cS] using this
 have hR:cdD (Au p) = .agg [.slice 3 (((GS (cS p).length).drop 0).take (GS (cS p).length).length) false,.slice 1 (((CL p.decls.length).drop 0).take (CL p.decls.length).length) false,I (A p.decls.length:Nat),I (B p.decls.length:Nat),I (C p.decls.length:Nat),I (((cV p eY).getD 0:Nat):Int)]:=by
  rw [Zf,YW,Zf,YW,hGS,hCL,hA,hB,hC,YW,YU (l:=hZ p p.ae.length (cS p)) (by rw [qb];exact YN _),<- ZO];rfl
 have hS1:Ip p CL A B C (((cV p eY).getD 0:Nat):Int) 0=⟨(28,.d (I (0:Nat)))::(27,.d (I ((p.decls.map bM).length:Nat)))::(26,.d (.slice 3 (p.decls.map bM) false))::ocR,ocH p [] [] (0:Nat) (0:Nat) (0:Nat) (((cV p eY).getD 0:Nat):Int),9,[],0⟩:=by
  rw [Ip,hCL,hA,hB,hC];rfl
 have hS2:∀a b c m:Int,∀cl,R1 p cl FS a b c m 0=⟨(65,.d (I (0:Nat)))::(64,.d (I ((p.ae.map fuL).length:Nat)))::(63,.d (.slice 3 (p.ae.map fuL) false))::ocR,ocH p cl [] a b c m,9,[],0⟩:=fun a b c m cl=>by
  rw [R1,hFS];rfl
 have hFl:∀(j:Nat),(FS j).length<=100000:=fun j=>by
  rw [hFS,Y5,Y8,jn];omega
 rw [hR] at hall;clear hR hCL hA hB hC hFS hGS;generalize (((cV p eY).getD 0:Nat):Int)=mn at *;refine aF tu rfl ?_
 repeat (first|refine aw ?_|refine f1 ?_|refine m1 ?_)
 refine ag 2 [] hnu ?_
 repeat (first|refine aw ?_|refine f1 ?_|refine m1 ?_)
 refine cP (I 0) _ hmain ?_
 repeat (first|refine aw ?_|refine f1 ?_|refine m1 ?_)
 refine bn p.decls.length (Ip p CL A B C mn) (fun _=>True) (cH hS1 ?_) (fun _=>?_) (fun j hj _=>?_)
 ·exact Uw.wM
 rotate_left 1
 ·have he:=hdel j hj
  obtain ⟨g1,g2,g3,g4,g5,g6,g7,g8⟩:=hcs j hj;clear hdel hcs hfs hgs R2 hFl hbo hnu;generalize p.decls[j]=d at *;obtain ⟨dk,ds,dn⟩:=d;have he:(p.decls.map bM)[(j:Int).toNat]? = some [I dk,.str ds,I dn]:=he;simp only at g5 g6 g7 g8;obtain ⟨a5,b5⟩:=g5;obtain ⟨a6,b6⟩:=g6;obtain ⟨a7,b7⟩:=g7;obtain ⟨a8,b8⟩:=g8;by_cases k0:dk=0
  ·subst k0
   have e5:=a5 rfl;have e6:=b6 (by decide);have e7:=b7 (by decide);have e8:=b8 (by decide);clear a5 b5 a6 b6 a7 b7 a8 b8
   repeat (first|refine aw ?_|refine f1 ?_|refine m1 ?_)
   refine ay j trivial (cH (by rw [Ip,e5,e6,e7,e8]) ?_);exact Uw.wM
  by_cases k1:dk=1
  ·subst k1
   have e5:=b5 (by decide);have e6:=a6 rfl;have e7:=b7 (by decide);have e8:=b8 (by decide);clear a5 b5 a6 b6 a7 b7 a8 b8
   repeat (first|refine aw ?_|refine f1 ?_|refine m1 ?_)
   refine ay j trivial (cH (by rw [Ip,e5,e6,e7,e8]) ?_);exact Uw.wM
  by_cases k2:dk=2
  ·subst k2
   have e5:=b5 (by decide);have e6:=b6 (by decide);have e7:=a7 rfl;have e8:=b8 (by decide);clear a5 b5 a6 b6 a7 b7 a8 b8
   repeat (first|refine aw ?_|refine f1 ?_|refine m1 ?_)
   refine ay j trivial (cH (by rw [Ip,e5,e6,e7,e8]) ?_);exact Uw.wM
  by_cases k3:dk=3
  ·subst k3
   have e5:=b5 (by decide);have e6:=b6 (by decide);have e7:=b7 (by decide);have e8:=a8 rfl;clear a5 b5 a6 b6 a7 b7 a8 b8
   repeat (first|refine aw ?_|refine f1 ?_|refine m1 ?_)
   refine ay j trivial (cH (by rw [Ip,e5,e6,e7,e8]) ?_);exact Uw.wM
  have e5:=b5 k0;have e6:=b6 k1;have e7:=b7 k2;have e8:=b8 k3
  repeat (first|refine aw ?_|refine f1 ?_|refine m1 ?_)
  refine ay j trivial (cH (by rw [Ip,e5,e6,e7,e8]) ?_);exact Uw.wM
 clear hdel hcs
 repeat (first|refine aw ?_|refine f1 ?_)
 refine aA ?_
 repeat (first|refine aw ?_|refine f1 ?_)
 refine bn p.ae.length (R1 p (CL p.decls.length) FS (A p.decls.length:Nat) (B p.decls.length:Nat) (C p.decls.length:Nat) mn) (ocG p) (cH (hS2 _ _ _ _ _) ?_) (fun hgood=>?_) (fun j hj hpre=>?_)
 ·exact Uw.wM
 rotate_left 1
 ·have hb:=hbo j hj
  obtain ⟨g1,g2⟩:=hfs j hj;have hone:=hone j hj;have hG:¬400<(hQ p j p.ae[j]).ins.length->ocG p j:=fun h _=>h;clear hfs hgs R2 hFl hbo hnu hall;generalize hQ p j p.ae[j]=b at *;obtain ⟨ba,bl,bi⟩:=b;have hb:bm P0 gR [pgA p,cnV p,.d (I j)] (cnB p) (.agg [.d (I ba),.d (I bl),.d (.slice 4 (bi.map in4) false)]) (cnB p):=hb;simp only at hone hG;by_cases hw:400<bi.length
  ·obtain ⟨rfl,rfl⟩:=hone hw
   have hfw:(400:Int)<((bi.map in4).length:Nat):=by rw [Y5];omega
   repeat (first|refine aw ?_|refine f1 ?_|refine m1 ?_)
   refine ag 9 [2,3,4] hb ?_
   repeat (first|refine aw ?_|refine f1 ?_|refine m1 ?_)
   exact aN (al rfl rfl rfl rfl rfl)
  have hG1:=hG hw;have hfw:¬(400:Int)<((bi.map in4).length:Nat):=by rw [Y5];omega
  have g2:FS (j+1)=FS j++(List.replicate 1 [Dat.int .i64 0,Dat.int .i64 0,Dat.nil]).set 0 [I ba,I bl,.slice 4 (bi.map in4) false]:=g2
  repeat (first|refine aw ?_|refine f1 ?_|refine m1 ?_)
  refine ag 9 [2,3,4] hb ?_
  repeat (first|refine aw ?_|refine f1 ?_|refine m1 ?_)
  refine ay j hG1 (cH (by rw [R1,g2]) ?_);exact Uw.wM
 clear hfs hbo hone;obtain ⟨rfl,rfl⟩:=hall hgood;clear hall hgood
 repeat (first|refine aw ?_|refine f1 ?_)
 refine aA ?_
 repeat (first|refine aw ?_|refine f1 ?_)
 refine bn (cS p).length (Vl p (CL p.decls.length) GS (A p.decls.length:Nat) (B p.decls.length:Nat) (C p.decls.length:Nat) mn) (fun _=>True) (cH (by rw [Vl,<- hFG]) ?_) (fun _=>?_) (fun j hj _=>?_)
 ·exact Uw.wM
 rotate_left 1
 ·have he:=R2 j hj
  obtain ⟨g1,g2⟩:=hgs j hj;have hh:=xl (((cV p (cS p)[j]).getD 0:Nat):Int) ((GS j).length:Nat);clear hgs R2 hFl hnu;generalize xY (((cV p (cS p)[j]).getD 0:Nat):Int) ((GS j).length:Nat)=b at *;generalize (((cV p (cS p)[j]).getD 0:Nat):Int)=fi at *;obtain ⟨ba,bl,bi⟩:=b;have hh:Ret P0 iw [I fi,I ((GS j).length:Nat)] (.agg [I ba,I bl,.slice 4 (bi.map in4) false]):=hh;have g2:GS (j+1)=GS j++(List.replicate 1 [Dat.int .i64 0,Dat.int .i64 0,Dat.nil]).set 0 [I ba,I bl,.slice 4 (bi.map in4) false]:=g2
  repeat (first|refine aw ?_|refine f1 ?_|refine m1 ?_)
  refine ay j trivial (cH (by rw [Vl,g2]) ?_);exact Uw.wM
 repeat (first|refine aw ?_|refine f1 ?_)
 refine aA ?_
 repeat (first|refine aw ?_|refine f1 ?_)
 exact al rfl rfl rfl rfl rfl
theorem lX (p:Pg) (hp:Lim p):Ret P0 jH [pgD p] (.tuple [cdD (ofP p).1,I (ofP p).2]):=by
 have hy:=Ik p hp;have hno:DLe L8 (cdD BZ):=.agg (.cons (.nil 3) (.cons (.nil 1) (.refl _)));by_cases hw:jT p=0
 ·rw [hw] at hy
  have hm:=UZ hw
  cases ha:(dJ p 0 p.ae).any fun b=>decide (400<b.ins.length) with
  | true=>
   have e:ofP p=(BZ,2):=by rw [ofP,if_neg (by simp [hw]),ha];rfl
   rw [e];refine Ret.res (K0 p hp hm hy L8 2 (fun _ _ _=>⟨rfl,rfl⟩) fun hall=>?_) (.tuple (.cons hno (.refl _)));obtain ⟨b,hb,hl⟩:=Zv.1 ha;obtain ⟨j,hj,rfl⟩:=Y0.1 hb;rw [jn] at hj;have:=nQ p p.ae 0 j hj;rw [YZ] at this;have h2:=(Zi.1 this).2;rw [h2] at hl;exact absurd (by simpa using hl) (hall j hj hj)
  | false=>
   have e:ofP p=(Au p,0):=by rw [ofP,if_neg (by simp [hw]),ha];rfl
   rw [e];refine K0 p hp hm hy _ 0 (fun j hj hl=>?_) fun _=>⟨rfl,rfl⟩
   have:=nQ p p.ae 0 j hj;rw [YZ] at this;have h2:=Zl.1 ha _ (Y4 this);simp at h2;omega
 ·have e:ofP p=(BZ,jT p):=by rw [ofP,if_pos hw]
  rw [e];refine Ret.res (r:=.tuple [L8,I (jT p)]) ?_ (.tuple (.cons hno (.refl _)));generalize jT p=w at *;refine aF tu rfl ?_
  repeat (first|refine aw ?_|refine f1 ?_|refine m1 ?_)
  exact al rfl rfl rfl rfl rfl
end Uw.Tryz
namespace Uw.Tryz
open Go Uw
section
variable {was is : Str} {p : Pg} (h : Turn was is p)
include h
theorem Turn.Vm (f:Nat):(aj (bC was is p)).getD f []=((aj p).getD f []).map (cm was is)/\FZ is ((aj p).getD f []):=by
 obtain ⟨h1,h2⟩:=h.locals;rw [h1];simp only [List.getD,ZB]
 cases hf:(aj p)[f]? with
 | none=>exact ⟨rfl,fun s hs=>by simp at hs⟩
 | some l=>exact ⟨rfl,h2 l (Y4 hf)⟩
theorem Turn.idx {l:List Str} (hl:FZ is l) {s:Str} (hs:s≠is):mW (l.map (cm was is)) (cm was is s)=mW l s:=by
 unfold mW;rw [List.findIdx?_map]
 congr 1
 induction l with
 | nil=>rfl
 | cons a l ih=>
  have ha:=hl a (by simp);have e:decide (cm was is a=cm was is s)=decide (a=s):=by
   rw [decide_eq_decide];exact ⟨fun e=>h.inj ha hs e,fun e=>by rw [e]⟩
  rw [aa7,aa7];simp only [Function.comp,e];rw [<- ih fun t ht=>hl t (by simp [ht])]
theorem Turn.WN:cS (bC was is p)=cS p:=by
 have:∀(r:List Nd) (l:List Str),fj (r.map (cr was is)) l=fj r l:=by
  intro r
  induction r with
  | nil=>intro l;rfl
  | cons x r ih=>intro l;rw [Zm,fj,fj,(cz was is x).1,(cz was is x).2.2.1,ih]
 exact this p.nodes []
theorem Turn.nms (f:Nat):(kn (bC was is p) f).things=(kn p f).things/\(kn (bC was is p) f).ae=(kn p f).ae/\(kn (bC was is p) f).helps=(kn p f).helps/\∀s,s≠is->(kn (bC was is p) f).wV (cm was is s)=(kn p f).wV s:=by
 refine ⟨rfl,?_,?_,fun s hs=>?_⟩
 ·funext s
  show (((cV (bC was is p) s).getD 0:Nat):Int)=(((cV p s).getD 0:Nat):Int)
  rw [h.LY]
 ·funext s
  show (match mW (cS (bC was is p)) s with|some i=>((bC was is p).ae.length:Nat)+i|none=>0)=(match mW (cS p) s with|some i=>(p.ae.length:Nat)+i|none=>0)
  rw [h.WN,show (bC was is p).ae.length=p.ae.length by show (p.ae.map _).length=_;simp]
 ·show mW ((aj (bC was is p)).getD f []) (cm was is s)=mW ((aj p).getD f []) s
  obtain ⟨g1,g2⟩:=h.Vm f;rw [g1,h.idx g2 hs]
theorem Turn.own (f:Nat) (x:Nd) (hx:x∈p.nodes):ja (kn (bC was is p) f) (cr was is x)=ja (kn p f) x:=by
 obtain ⟨n1,n2,n3,n4⟩:=h.nms f;obtain ⟨k1,k2,k3,k4⟩:=cz was is x;have hn:=h.node x hx;have hth:(kn p f).things (cm was is x.name)=(kn p f).things x.name:=by
  have:=h.thing x.name hn;have e:aE p (cm was is x.name)=aE p x.name:=this;show (aE p (cm was is x.name)).map _=(aE p x.name).map _;rw [e];unfold cm
  split
  ·rename_i ew
   have h2:aE p x.name=none:=kU.2 fun d hd=>ew ▸ (h.decl d hd).1;rw [h2];rfl
  ·rfl
 have hl:BX (kn (bC was is p) f) (cm was is x.name)=BX (kn p f) x.name:=by unfold BX;rw [n4 _ hn]
 have hd:As (kn (bC was is p) f) (cm was is x.name)=As (kn p f) x.name:=by
  unfold As;rw [hl];by_cases e:x.name=[]
  ·rw [if_pos e,if_pos (h.nil.2 e)]
  ·rw [if_neg e,if_neg (fun e2=>e (h.nil.1 e2))]
 unfold ja;rw [k1,k2,k3,k4,n1,n2,n3];by_cases hk:x.kind=2\/x.kind=9\/x.kind=10\/x.kind=11
 ·have e:(cr was is x).name=cm was is x.name:=by unfold cr;rw [if_pos hk]
  rw [e,hth,hl,hd]
 ·have e:(cr was is x).name=x.name:=by unfold cr;rw [if_neg hk]
  rw [e];have c2:¬x.kind=2:=by omega
  have c9:¬x.kind=9:=by omega
  have c10:¬x.kind=10:=by omega
  have c11:¬x.kind=11:=by omega
  simp only [if_neg c2,if_neg c9,if_neg c10,if_neg c11]
theorem Turn.lay (f:Nat):∀(n:Nat) (k:Int) (a:Nat),iQ (bC was is p).nodes (kn (bC was is p) f) n k a=iQ p.nodes (kn p f) n k a
 | 0,_,_=>rfl
 | n+1,k,a=>by
  have ih:=Turn.lay f n;have ih2:iQ (bC was is p).nodes (kn (bC was is p) f) n=iQ p.nodes (kn p f) n:=by funext k a;exact ih k a
  rw [iQ,iQ,ih2];have hg:(bC was is p).nodes.getD k.toNat default=(p.nodes[k.toNat]?.map (cr was is)).getD default:=by
   show (p.nodes.map (cr was is)).getD k.toNat default=_;simp only [List.getD,ZB]
  cases hx:p.nodes[k.toNat]? with
  | none=>
   have e1:(bC was is p).nodes.getD k.toNat default=default:=by rw [hg,hx];rfl
   have e2:p.nodes.getD k.toNat default=default:=by rw [List.getD,hx];rfl
   rw [e1,e2];rfl
  | some x=>
   have e1:(bC was is p).nodes.getD k.toNat default=cr was is x:=by rw [hg,hx];rfl
   have e2:p.nodes.getD k.toNat default=x:=by rw [List.getD,hx];rfl
   rw [e1,e2];simp only [(cz was is x).1,(cz was is x).2.2.2,h.own f x (Y4 hx)]
theorem Turn.bodies:∀(l:List Fu) (i:Nat),dJ (bC was is p) i (l.map (j8 was is))=dJ p i l
 | [],_=>rfl
 | g::l,i=>by
  rw [Zm,dJ,dJ,Turn.bodies l]
  congr 1
  unfold hQ;have e1:((j8 was is g).args.length:Int)=g.args.length:=by show ((g.args.map _).length:Int)=_;simp
  have e2:(((aj (bC was is p)).getD i []).length:Int)=((aj p).getD i []).length:=by rw [(h.Vm i).1];simp
  have e3:(bC was is p).nodes.length=p.nodes.length:=by show (p.nodes.map _).length=_;simp
  rw [e1,e2,e3,h.lay i];rfl
theorem Turn.PD:∀(l:List Str) (i:Nat),hZ (bC was is p) i l=hZ p i l
 | [],_=>rfl
 | s::l,i=>by rw [hZ,hZ,Turn.PD l,h.LY]
theorem Turn.code:Au (bC was is p)=Au p:=by
 unfold Au;have e1:dJ (bC was is p) 0 (bC was is p).ae=dJ p 0 p.ae:=h.bodies p.ae 0;have e2:(bC was is p).ae.length=p.ae.length:=by show (p.ae.map _).length=_;simp
 rw [e1,e2,h.WN,h.PD,h.LY];rfl
theorem Turn.dup:∀(l seen:List Str),FZ is l->FZ is seen->jq (bC was is p) (seen.map (cm was is)) (l.map (cm was is))=jq p seen l
 | [],_,_,_=>rfl
 | a::l,seen,hl,hs=>by
  have ha:=hl a (by simp);have h1:=Turn.dup l (a::seen) (fun s hm=>hl s (by simp [hm])) (fun s hm=>by
   rcases Y3.1 hm with rfl|hm
   ·exact ha
   ·exact hs s hm)
  rw [Zm,jq,jq,h.thing a ha];rw [Zm] at h1;rw [h1];have e:decide (cm was is a∈seen.map (cm was is))=decide (a∈seen):=by rw [decide_eq_decide];exact h.mem hs ha
  rw [e]
theorem K1 {β:Type} {f g:Nd×β->Bool}:∀(l:List Nd) (o:List β),(∀x∈l,∀b,f (cr was is x,b)=g (x,b))->((l.map (cr was is)).zip o).any f=(l.zip o).any g
 | [],o,_=>by simp
 | x::l,[],_=>by simp
 | x::l,b::o,hf=>by
  rw [Zm,List.zip_cons_cons,List.zip_cons_cons,aaI,aaI,hf x (by simp),K1 l o fun y hy=>hf y (by simp [hy])]
theorem Turn.why:jT (bC was is p)=jT p:=by
 have e2:(bC was is p).ae.length=p.ae.length:=by show (p.ae.map _).length=_;simp
 have hb:dw (bC was is p)=dw p:=by
  unfold dw;rw [e2,show (bC was is p).decls=p.decls from rfl,h.locals.1];have e3:((aj p).map (fun l=>l.map (cm was is))).any (fun l=>decide (16<l.length))=(aj p).any (fun l=>decide (16<l.length)):=by rw [abe];congr 1;funext l;simp
  have e4:((bC was is p).nodes.any fun x=>decide (x.kind=10)&&decide (16<x.of.length))=p.nodes.any fun x=>decide (x.kind=10)&&decide (16<x.of.length):=by
   show (p.nodes.map (cr was is)).any _=_;rw [abe];congr 1;funext x;simp only [Function.comp,(cz was is x).1,(cz was is x).2.2.2]
  rw [e3,e4]
 have ht:dp (bC was is p)=dp p:=by
  unfold dp;have e3:((bC was is p).ae.map (·.name))=p.ae.map (·.name):=by show (p.ae.map (j8 was is)).map _=_;rw [aaq];rfl
  have e4:((bC was is p).ae.any fun f=>jq (bC was is p) [] f.args)=p.ae.any fun f=>jq p [] f.args:=by
   show (p.ae.map (j8 was is)).any _=_;rw [abe];have key:∀fs:List Fu,(∀f∈fs,f∈p.ae)->(fs.any ((fun f=>jq (bC was is p) [] f.args) ∘ j8 was is))=fs.any fun f=>jq p [] f.args:=by
    intro fs
    induction fs with
    | nil=>intro _;rfl
    | cons f fs ih=>
     intro hf;rw [aaI,aaI,ih fun g hg=>hf g (by simp [hg])]
     congr 1
     exact h.dup f.args [] (h.args f (hf f (by simp))) (fun s hs=>by simp at hs)
   exact key p.ae fun _ hf=>hf
  rw [e3,e4];rfl
 have hnm:nameP (bC was is p)=nameP p:=by
  unfold nameP;rw [h.LY,x6,show (bC was is p).decls=p.decls from rfl];have e3:((bC was is p).nodes.zip (aD p)).any (fun y=>ft (bC was is p) y.1 y.2)=(p.nodes.zip (aD p)).any fun y=>ft p y.1 y.2:=by
   refine K1 h p.nodes (aD p) fun x hx o=>?_;show ft (bC was is p) (cr was is x) o=ft p x o;unfold ft;rw [(cz was is x).1,(cz was is x).2.2.1,h.LY];by_cases k2:x.kind=2
   ·have e:(cr was is x).name=cm was is x.name:=by unfold cr;rw [if_pos (.inl k2)]
    have hn:=h.node x hx;obtain ⟨g1,g2⟩:=h.Vm o.toNat;have:decide (cm was is x.name∈((aj p).getD o.toNat []).map (cm was is))=decide (x.name∈(aj p).getD o.toNat []):=by rw [decide_eq_decide];exact h.mem g2 hn
    rw [e,h.thing x.name hn,g1,this]
   ·by_cases k8:x.kind=8
    ·have e:(cr was is x).name=x.name:=by unfold cr;rw [if_neg (by omega)]
     rw [e];simp only [if_neg k2];rfl
    ·simp only [if_neg k2,if_neg k8]
  rw [e3]
 have hs:gx (bC was is p)=gx p:=by
  unfold gx;have key:∀l:List Nd,(∀x∈l,x∈p.nodes)->(l.map (cr was is)).any (iN (bC was is p))=l.any (iN p):=by
   intro l
   induction l with
   | nil=>intro _;rfl
   | cons x l ih=>
    intro hl;rw [Zm,aaI,aaI,ih fun y hy=>hl y (by simp [hy])]
    congr 1
    have hn:=h.node x (hl x (by simp));unfold iN;rw [(cz was is x).1,(cz was is x).2.2.1];by_cases hk:x.kind=2\/x.kind=9\/x.kind=10\/x.kind=11
    ·have e:(cr was is x).name=cm was is x.name:=by unfold cr;rw [if_pos hk]
     rw [e,h.thing x.name hn]
    ·have e:(cr was is x).name=x.name:=by unfold cr;rw [if_neg hk]
     rw [e];rfl
  exact key p.nodes fun _ hx=>hx
 have hmy:fu (bC was is p)=fu p:=by
  have ha:∀s,argsAt (bC was is p) s=argsAt p s:=fun s=>by
   unfold argsAt;rw [h.LY];show ((p.ae.map (j8 was is)).getD _ default).args.length=_;simp only [List.getD,ZB]
   cases p.ae[(cV p s).getD 0]? with
   | none=>rfl
   | some f=>show (f.args.map _).length=_;simp
  unfold fu;rw [ha]
  congr 1
  show (p.nodes.map (cr was is)).any _=_;rw [abe];congr 1;funext x;show manyN (bC was is p) (cr was is x)=manyN p x;unfold manyN;rw [(cz was is x).1,(cz was is x).2.2.1,(cz was is x).2.2.2,ha];by_cases k8:x.kind=8
  ·have e:(cr was is x).name=x.name:=by unfold cr;rw [if_neg (by omega)]
   rw [e];rfl
  ·simp only [if_neg k8]
 unfold jT;rw [x5,hb,ht,hnm,hs,hmy]
theorem Turn.of:ofP (bC was is p)=ofP p:=by
 unfold ofP;have e1:dJ (bC was is p) 0 (bC was is p).ae=dJ p 0 p.ae:=h.bodies p.ae 0;rw [h.why,e1,h.code]
end
end Uw.Tryz
namespace Uw.Tryz
open Go Uw
theorem A2 {α:Type} {a b:List α} (hl:a.length=b.length) (h:∀(j:Nat) (h1:j<a.length) (h2:j<b.length),a[j]=b[j]):a=b:=abj hl h
theorem vU (a b:List Int) (ha:a.length<1000000):Ret P0 pN [cb a,cb b] (.bool (decide (a=b))):=by
 have hal:(a.map fun i=>[I i]).length=a.length:=by simp
 have hbl:(b.map fun i=>[I i]).length=b.length:=by simp
 by_cases q:a.length=b.length
 rotate_left 1
 ·rw [decide_eq_false fun e=>q (congrArg List.length e)]
  have q' : ¬(((a.map fun i=>[I i]).length:Nat):Int)=((b.map fun i=>[I i]).length:Nat):=by omega
  refine aF tw rfl ?_
  repeat refine aw ?_
  exact al rfl rfl rfl rfl rfl
 have q' : (((a.map fun i=>[I i]).length:Nat):Int)=((b.map fun i=>[I i]).length:Nat):=by omega
 have hae:∀(j:Nat) (h:j<a.length),(a.map fun i=>[I i])[(j:Int).toNat]? = some [I a[j]]:=fun j h=>by simp [h]
 have hbe:∀(j:Nat) (h:j<b.length),(b.map fun i=>[I i])[(j:Int).toNat]? = some [I b[j]]:=fun j h=>by simp [h]
 have hone:∀(j:Nat) (h1:j<a.length) (h2:j<b.length),a[j]≠b[j]->decide (a=b)=false:=fun j h1 h2 h=>decide_eq_false fun e=>h (by subst e;rfl);have hall:(∀(j:Nat) (h1:j<a.length) (h2:j<b.length),a[j]=b[j])->decide (a=b)=true:=fun h=>decide_eq_true (A2 q h);generalize decide (a=b)=R at *;refine aF tw rfl ?_
 repeat refine aw ?_
 refine bn a.length (fun j=>⟨[(5,.d (I j)),(4,.d (.bool false)),(1,.d (cb b)),(0,.d (cb a))],[],0,[],0⟩) (fun j=>∀(h1:j<a.length) (h2:j<b.length),a[j]=b[j]) ?_ (fun hg=>?_) (fun j hj _=>?_)
 ·exact Uw.wM
 ·obtain rfl:=hall fun j h1 h2=>hg j h1 h1 h2
  repeat refine aw ?_
  refine aA ?_
  repeat refine aw ?_
  exact al rfl rfl rfl rfl rfl
 have he:=hae j hj;have hf:=hbe j (by omega);have ho:=hone j hj (by omega);have hg1:a[j]=b[j]'(by omega)->∀(h1:j<a.length) (h2:j<b.length),a[j]=b[j]:=fun h _ _=>h;clear hae hbe hone hall;generalize a[j]=x at *;generalize b[j]'_=y at *;by_cases e:x=y
 ·have hg1:=hg1 e
  repeat refine aw ?_
  exact ay j hg1 (by exact Uw.wM)
 ·obtain rfl:=ho e
  repeat refine aw ?_
  exact aN (al rfl rfl rfl rfl rfl)
abbrev bcS (a b:Bd) (j:Nat):St:=⟨[(5,.d (I j)),(4,.d (.bool false)),(3,.ptr 1 0),(2,.ptr 0 0)],[(1,.var [.d (I b.args),.d (I b.locals),.d (.slice 4 (b.ins.map in4) false)]),(0,.var [.d (I a.args),.d (I a.locals),.d (.slice 4 (a.ins.map in4) false)])],2,[],0⟩
theorem qc (a b:Bd) (ha:a.ins.length<1000000):Ret P0 iq [.agg (bdC a),.agg (bdC b)] (.bool (decide (a=b))):=by
 have hal:(a.ins.map in4).length=a.ins.length:=by simp
 have hbl:(b.ins.map in4).length=b.ins.length:=by simp
 have heq:decide (a=b)=(decide (a.args=b.args)&&decide (a.locals=b.locals)&&decide (a.ins=b.ins)):=by
  rw [<- aaj,<- aaj,decide_eq_decide];obtain ⟨a1,a2,a3⟩:=a;obtain ⟨b1,b2,b3⟩:=b;simp [and_assoc]
 rw [heq];clear heq;show Ret P0 iq [.agg [I a.args,I a.locals,.slice 4 (a.ins.map in4) false],.agg [I b.args,I b.locals,.slice 4 (b.ins.map in4) false]] _;by_cases q1:a.args=b.args
 rotate_left 1
 ·rw [decide_eq_false q1]
  refine aF ky rfl ?_
  repeat refine aw ?_
  exact al rfl rfl rfl rfl rfl
 by_cases q2:a.locals=b.locals
 rotate_left 1
 ·rw [decide_eq_false q2,aaR,aaC]
  refine aF ky rfl ?_
  repeat refine aw ?_
  exact al rfl rfl rfl rfl rfl
 rw [decide_eq_true q1,decide_eq_true q2,aaT,aaT];by_cases q:a.ins.length=b.ins.length
 rotate_left 1
 ·rw [decide_eq_false fun e=>q (congrArg List.length e)]
  have q' : ¬(((a.ins.map in4).length:Nat):Int)=((b.ins.map in4).length:Nat):=by omega
  refine aF ky rfl ?_
  repeat refine aw ?_
  exact al rfl rfl rfl rfl rfl
 have q' : (((a.ins.map in4).length:Nat):Int)=((b.ins.map in4).length:Nat):=by omega
 have hae:∀(j:Nat) (h:j<a.ins.length),(a.ins.map in4)[(j:Int).toNat]? = some (in4 a.ins[j]):=fun j h=>by simp [h]
 have hbe:∀(j:Nat) (h:j<b.ins.length),(b.ins.map in4)[(j:Int).toNat]? = some (in4 b.ins[j]):=fun j h=>by simp [h]
 have hone:∀(j:Nat) (h1:j<a.ins.length) (h2:j<b.ins.length),a.ins[j]≠b.ins[j]->decide (a.ins=b.ins)=false:=fun j h1 h2 h=>decide_eq_false fun e=>h (by simp only [e]);have hall:(∀(j:Nat) (h1:j<a.ins.length) (h2:j<b.ins.length),a.ins[j]=b.ins[j])->decide (a.ins=b.ins)=true:=fun h=>decide_eq_true (A2 q h);generalize decide (a.ins=b.ins)=R at *;refine aF ky rfl ?_
 repeat refine aw ?_
 refine bn a.ins.length (bcS a b) (fun j=>∀(h1:j<a.ins.length) (h2:j<b.ins.length),a.ins[j]=b.ins[j]) ?_ (fun hg=>?_) (fun j hj _=>?_)
 ·exact Uw.wM
 ·obtain rfl:=hall fun j h1 h2=>hg j h1 h1 h2
  repeat refine aw ?_
  refine aA ?_
  repeat refine aw ?_
  exact al rfl rfl rfl rfl rfl
 have he:=hae j hj;have hf:=hbe j (by omega);have ho:=hone j hj (by omega);have hg1:a.ins[j]=b.ins[j]'(by omega)->∀(h1:j<a.ins.length) (h2:j<b.ins.length),a.ins[j]=b.ins[j]:=fun h _ _=>h;clear hae hbe hone hall;generalize a.ins[j]=x at *;generalize b.ins[j]'_=y at *;obtain ⟨x1,x2,x3,x4⟩:=x;obtain ⟨y1,y2,y3,y4⟩:=y;have he:(a.ins.map in4)[(j:Int).toNat]? = some [I x1,I x2,I x3,I x4]:=he;have hf:(b.ins.map in4)[(j:Int).toNat]? = some [I y1,I y2,I y3,I y4]:=hf;have hjj:(j:Int)<((a.ins.map in4).length:Nat):=by omega
 have hjk:(j:Int)<((b.ins.map in4).length:Nat):=by omega
 by_cases e:(⟨x1,x2,x3,x4⟩:In4)=⟨y1,y2,y3,y4⟩
 ·have hg1:=hg1 e
  have e2:(decide (x1=y1)&&(decide (x2=y2)&&(decide (x3=y3)&&(decide (x4=y4)&&true))))=true:=by
   injection e with e1 e2 e3 e4;simp [e1,e2,e3,e4]
  repeat refine aw ?_
  exact ay j hg1 (by exact Uw.wM)
 ·obtain rfl:=ho e
  have e2:(decide (x1=y1)&&(decide (x2=y2)&&(decide (x3=y3)&&(decide (x4=y4)&&true))))=false:=by
   rw [aaD];intro h;simp at h;exact e (by rw [h.1,h.2.1,h.2.2.1,h.2.2.2])
  repeat refine aw ?_
  exact aN (al rfl rfl rfl rfl rfl)
abbrev cdB (c:Cd):Blk:=.var [.d (.slice 3 (c.ae.map bdC) false),.d (cb c.cells),.d (I c.maps),.d (I c.stacks),.d (I c.chans),.d (I c.main)]
abbrev smS (a b:Cd) (j:Nat):St:=⟨[(5,.d (I j)),(4,.d (.bool false)),(3,.ptr 1 0),(2,.ptr 0 0)],[(1,cdB b),(0,cdB a)],2,[],0⟩
theorem F7 (a b:Cd) (ha:a.ae.length<1000000) (hac:a.cells.length<1000000) (hai:∀f∈a.ae,f.ins.length<1000000):Ret P0 vg [cdD a,cdD b] (.bool (decide (a=b))):=by
 have hal:(a.ae.map bdC).length=a.ae.length:=by simp
 have hbl:(b.ae.map bdC).length=b.ae.length:=by simp
 have heq:decide (a=b)=(decide (a.main=b.main)&&decide (a.maps=b.maps)&&decide (a.stacks=b.stacks)&&decide (a.chans=b.chans)&&decide (a.cells=b.cells)&&decide (a.ae=b.ae)):=by
  rw [<- aaj,<- aaj,<- aaj,<- aaj,<- aaj,decide_eq_decide];obtain ⟨a1,a2,a3,a4,a5,a6⟩:=a;obtain ⟨b1,b2,b3,b4,b5,b6⟩:=b;simp only [Cd.mk.injEq];constructor
  ·rintro ⟨h1,h2,h3,h4,h5,h6⟩;exact ⟨⟨⟨⟨⟨h6,h3⟩,h4⟩,h5⟩,h2⟩,h1⟩
  ·rintro ⟨⟨⟨⟨⟨h6,h3⟩,h4⟩,h5⟩,h2⟩,h1⟩;exact ⟨h1,h2,h3,h4,h5,h6⟩
 have hin:=vU a.cells b.cells hac;rw [heq];clear heq;by_cases q1:a.main=b.main
 rotate_left 1
 ·simp only [decide_eq_false q1,aaC]
  refine aF fl rfl ?_
  repeat refine aw ?_
  exact al rfl rfl rfl rfl rfl
 by_cases q2:a.maps=b.maps
 rotate_left 1
 ·simp only [decide_eq_false q2,aaC,aaR]
  refine aF fl rfl ?_
  repeat refine aw ?_
  exact al rfl rfl rfl rfl rfl
 by_cases q3:a.stacks=b.stacks
 rotate_left 1
 ·simp only [decide_eq_false q3,aaC,aaR]
  refine aF fl rfl ?_
  repeat refine aw ?_
  exact al rfl rfl rfl rfl rfl
 by_cases q4:a.chans=b.chans
 rotate_left 1
 ·simp only [decide_eq_false q4,aaC,aaR]
  refine aF fl rfl ?_
  repeat refine aw ?_
  exact al rfl rfl rfl rfl rfl
 simp only [decide_eq_true q1,decide_eq_true q2,decide_eq_true q3,decide_eq_true q4,aaT];by_cases q5:a.cells=b.cells
 rotate_left 1
 ·rw [decide_eq_false q5] at hin ⊢
  rw [aaC];refine aF fl rfl ?_
  repeat refine aw ?_
  exact al rfl rfl rfl rfl rfl
 rw [decide_eq_true q5] at hin ⊢;rw [aaT];by_cases q:a.ae.length=b.ae.length
 rotate_left 1
 ·rw [decide_eq_false fun e=>q (congrArg List.length e)]
  have q' : ¬(((a.ae.map bdC).length:Nat):Int)=((b.ae.map bdC).length:Nat):=by omega
  refine aF fl rfl ?_
  repeat refine aw ?_
  exact al rfl rfl rfl rfl rfl
 have q' : (((a.ae.map bdC).length:Nat):Int)=((b.ae.map bdC).length:Nat):=by omega
 have hae:∀(j:Nat) (h:j<a.ae.length),(a.ae.map bdC)[(j:Int).toNat]? = some (bdC a.ae[j]):=fun j h=>by simp [h]
 have hbe:∀(j:Nat) (h:j<b.ae.length),(b.ae.map bdC)[(j:Int).toNat]? = some (bdC b.ae[j]):=fun j h=>by simp [h]
 have hone:∀(j:Nat) (h1:j<a.ae.length) (h2:j<b.ae.length),a.ae[j]≠b.ae[j]->decide (a.ae=b.ae)=false:=fun j h1 h2 h=>decide_eq_false fun e=>h (by simp only [e]);have hall:(∀(j:Nat) (h1:j<a.ae.length) (h2:j<b.ae.length),a.ae[j]=b.ae[j])->decide (a.ae=b.ae)=true:=fun h=>decide_eq_true (A2 q h);generalize decide (a.ae=b.ae)=R at *;refine aF fl rfl ?_
 repeat refine aw ?_
 refine bn a.ae.length (smS a b) (fun j=>∀(h1:j<a.ae.length) (h2:j<b.ae.length),a.ae[j]=b.ae[j]) ?_ (fun hg=>?_) (fun j hj _=>?_)
 ·exact Uw.wM
 ·obtain rfl:=hall fun j h1 h2=>hg j h1 h1 h2
  repeat refine aw ?_
  refine aA ?_
  repeat refine aw ?_
  exact al rfl rfl rfl rfl rfl
 have he:=hae j hj;have hf:=hbe j (by omega);have ho:=hone j hj (by omega);have hg1:a.ae[j]=b.ae[j]'(by omega)->∀(h1:j<a.ae.length) (h2:j<b.ae.length),a.ae[j]=b.ae[j]:=fun h _ _=>h;have hbo:=fun y=>qc a.ae[j] y (hai _ (YT hj));have hjj:(j:Int)<((a.ae.map bdC).length:Nat):=by omega
 have hjk:(j:Int)<((b.ae.map bdC).length:Nat):=by omega
 clear hae hbe hone hall hai;generalize a.ae[j]=x at *;generalize b.ae[j]'_=y at *;have hbo:=hbo y;obtain ⟨x1,x2,x3⟩:=x;obtain ⟨y1,y2,y3⟩:=y;have he:(a.ae.map bdC)[(j:Int).toNat]? = some [I x1,I x2,.slice 4 (x3.map in4) false]:=he;have hf:(b.ae.map bdC)[(j:Int).toNat]? = some [I y1,I y2,.slice 4 (y3.map in4) false]:=hf;have hbo:Ret P0 iq [.agg [I x1,I x2,.slice 4 (x3.map in4) false],.agg [I y1,I y2,.slice 4 (y3.map in4) false]] _:=hbo;by_cases e:(⟨x1,x2,x3⟩:Bd)=⟨y1,y2,y3⟩
 ·have hg1:=hg1 e
  rw [decide_eq_true e] at hbo
  repeat refine aw ?_
  exact ay j hg1 (by exact Uw.wM)
 ·obtain rfl:=ho e
  rw [decide_eq_false e] at hbo
  repeat refine aw ?_
  exact aN (al rfl rfl rfl rfl rfl)
end Uw.Tryz
namespace Uw.Tryz
open Go Uw
def rd (l:List Tok) (k:Nat) (xs:List (List Dat)):List Blk:=[.var [.d (u7 l),.d (I k),.ref 1 0 0 xs.length],.arr 5 xs]
theorem bO (l:List Tok) (k:Nat) (xs:List (List Dat)) (hk:k<=l.length):bm P0 ly [.ptr 0 0] (rd l k xs) (.d (.str (hd (l.drop k)))) (rd l k xs):=by
 have e1:(l.map rb).length=l.length:=by simp
 by_cases h:k<l.length
 ·have e:hd (l.drop k)=l[k].text:=by rw [Zo h];rfl
  rw [e];refine aJ kL rfl ?_
  repeat' first|refine aw ?_|refine bw (fun _=>?_) fun _=>?_
  exact aI 2 rfl rfl (by exact Uw.wW)
 ·have e:hd (l.drop k)=[]:=by rw [Zu (by omega)];rfl
  rw [e];refine aJ kL rfl ?_
  repeat' first|refine aw ?_|refine bw (fun _=>?_) fun _=>?_
  exact aI 2 rfl rfl (by exact Uw.wW)
abbrev cZ:Dat:=.iface BM (.agg [])
theorem bK (l:List Tok) (k:Nat) (xs:List (List Dat)) (hk:k<=l.length) (hl:l.length<1000000) (s:Str) (hs:s≠[]):bm P0 lE [.ptr 0 0,.d (.str s)] (rd l k xs) (.d (.bool (decide (hd (l.drop k)=s)))) (rd l (if hd (l.drop k)=s then k+1 else k) xs):=by
 have pk:=bO l k xs hk;by_cases h:hd (l.drop k)=s
 ·rw [if_pos h,decide_eq_true h]
  rw [h] at pk;have hkl:k<l.length:=by
   rcases Zg k l.length with h1|h1
   ·exact h1
   ·rw [Zu h1] at h;exact absurd h.symm hs
  clear h;refine aJ kQ rfl ?_
  repeat' first|refine aw ?_|refine bw (fun _=>?_) fun _=>?_
  refine ag 2 [0,1] pk ?_
  repeat' first|refine aw ?_|refine bw (fun _=>?_) fun _=>?_
  exact aI 2 rfl rfl (by exact Uw.wW)
 ·rw [if_neg h,decide_eq_false h]
  generalize hd (l.drop k)=p at *;refine aJ kQ rfl ?_
  repeat' first|refine aw ?_|refine bw (fun _=>?_) fun _=>?_
  refine ag 2 [0,1] pk ?_
  repeat' first|refine aw ?_|refine bw (fun _=>?_) fun _=>?_
  exact aI 2 rfl rfl (by exact Uw.wW)
theorem aR (l:List Tok) (k:Nat) (xs:List (List Dat)) (hk:k<=l.length) (hl:l.length<1000000) (s:Str) (hs:s≠[]) (h:hd (l.drop k)=s):bm P0 iG [.ptr 0 0,.d (.str s)] (rd l k xs) (.tuple []) (rd l (k+1) xs):=by
 have hv:=bK l k xs hk hl s hs;rw [if_pos h,decide_eq_true h] at hv;refine aJ kR rfl ?_
 repeat' first|refine aw ?_|refine bw (fun _=>?_) fun _=>?_
 refine ag 2 [0,1] hv ?_
 repeat' first|refine aw ?_|refine bw (fun _=>?_) fun _=>?_
 exact dr 2 rfl rfl (by exact Uw.wW)
theorem bh (l:List Tok) (k:Nat) (xs:List (List Dat)) (hk:k<=l.length) (hl:l.length<1000000) (s:Str) (hs:s≠[]) (h:hd (l.drop k)≠s):kH P0 iG [.ptr 0 0,.d (.str s)] (rd l k xs) cZ:=by
 have hv:=bK l k xs hk hl s hs;rw [if_neg h,decide_eq_false h] at hv;refine aP kR rfl ?_
 repeat' first|refine aw ?_|refine bw (fun _=>?_) fun _=>?_
 refine ag 2 [0,1] hv ?_
 repeat' first|refine aw ?_|refine bw (fun _=>?_) fun _=>?_
 exact aQ rfl
theorem fz (l:List Tok) (k:Nat) (xs:List (List Dat)) (hk:k<=l.length) (hl:l.length<1000000) (K:Int) (h:k<l.length) (hK:l[k].kind=K):bm P0 ej [.ptr 0 0,.d (I K)] (rd l k xs) (.agg ((rb l[k]).map V.d)) (rd l (k+1) xs):=by
 have e1:(l.map rb).length=l.length:=by simp
 have he:(l.map rb)[((k:Int)+1 - 1).toNat]? = some (rb l[k]):=by
  rw [show ((k:Int)+1 - 1).toNat=k by omega];exact EF _ _ _ h
 refine aJ gW rfl ?_
 repeat' first|refine aw ?_|refine bw (fun _=>?_) fun _=>?_
 exact aI 2 rfl rfl (by exact Uw.wW)
theorem iI (l:List Tok) (k:Nat) (xs:List (List Dat)) (hk:k<=l.length) (hl:l.length<1000000) (K:Int) (h:∀(h:k<l.length),l[k].kind≠K):kH P0 ej [.ptr 0 0,.d (I K)] (rd l k xs) cZ:=by
 have e1:(l.map rb).length=l.length:=by simp
 by_cases h1:k<l.length
 ·have h2:=h h1
  clear h;refine aP gW rfl ?_
  repeat' first|refine aw ?_|refine bw (fun _=>?_) fun _=>?_
  exact aQ rfl
 ·clear h
  refine aP gW rfl ?_
  repeat' first|refine aw ?_|refine bw (fun _=>?_) fun _=>?_
  exact aQ rfl
theorem s5 (l:List Tok) (k:Nat) (xs:List (List Dat)) (hk:k<=l.length) (hl:l.length<1000000) (h:k<l.length) (hK:l[k].kind=1) (hw:BJ l[k].text=false):bm P0 cg [.ptr 0 0] (rd l k xs) (.d (.str l[k].text)) (rd l (k+1) xs):=by
 have wd:=fz l k xs hk hl 1 h hK;simp only [BJ,Zt,decide_eq_false_iff_not,Ht,OC,zx,Hu,np,gj,pL,xN,sIf,xO,uf,nq,nr] at hw;obtain ⟨⟨⟨⟨⟨⟨⟨⟨⟨⟨⟨⟨w1,w2⟩,w3⟩,w4⟩,w5⟩,w6⟩,w7⟩,w8⟩,w9⟩,w10⟩,w11⟩,w12⟩,w13⟩:=hw;refine aJ gX rfl ?_
 repeat' first|refine aw ?_|refine bw (fun _=>?_) fun _=>?_
 refine ag 2 [0,1] wd ?_
 repeat' first|refine aw ?_|refine bw (fun _=>?_) fun _=>?_
 exact aI 2 rfl rfl (by exact Uw.wW)
theorem iJ (l:List Tok) (k:Nat) (xs:List (List Dat)) (hk:k<=l.length) (hl:l.length<1000000) (h:∀(h:k<l.length),l[k].kind≠1\/BJ l[k].text=true):kH P0 cg [.ptr 0 0] (rd l k xs) cZ:=by
 by_cases h1:∃h1:k<l.length,l[k].kind=1
 ·obtain ⟨h1,h2⟩:=h1
  have h3:=(h h1).resolve_left (fun e=>e h2);clear h;have wd:=fz l k xs hk hl 1 h1 h2;generalize l[k]=t at *;simp only [BJ,Zj,decide_eq_true_eq,or_assoc] at h3
  rcases h3 with h3|h3|h3|h3|h3|h3|h3|h3|h3|h3|h3|h3|h3
  all_goals
   rw [rb,h3] at wd;refine aP gX rfl ?_
   repeat' first|refine aw ?_|refine bw (fun _=>?_) fun _=>?_
   refine ag 2 [0,1] wd ?_
   repeat' first|refine aw ?_|refine bw (fun _=>?_) fun _=>?_
   exact aQ rfl
 ·have wd:=iI l k xs hk hl 1 (fun h h2=>h1 ⟨h,h2⟩)
  refine aP gX rfl ?_
  repeat' first|refine aw ?_|refine bw (fun _=>?_) fun _=>?_
  refine bk 2 [0,1] wd ?_;intro h n
  repeat' first|refine aw ?_|refine bw (fun _=>?_) fun _=>?_
  exact aQ rfl
def ofD (kind:Int) (of:List Nat):Dat:=
 if kind=1\/kind=2\/kind=12 then .nil
 else if kind=8\/kind=10\/kind=11 then (if of=[] then .nil else .slice 1 (of.map fun (i:Nat)=>[I i]) false)
 else if kind=13\/kind=18 then .slice 1 (of.map fun (i:Nat)=>[I i]) false
 else .slice 1 (of.map fun (i:Nat)=>[I i]) true
def bU (x:Nod):List Dat:=[I x.kind,I x.n,.str x.name,.str x.name2,ofD x.kind x.of]
theorem uE (l:List Tok) (k:Nat) (xs:List (List Dat)) (hx:xs.length<1000000) (a b:Int) (c d:Str) (o:Dat) (ho:o = .nil\/∃ys z,o = .slice 1 ys z):bm P0 bF [.ptr 0 0,.agg [.d (I a),.d (I b),.d (.str c),.d (.str d),.d o]] (rd l k xs) (.d (I xs.length)) (rd l k (xs++[[I a,I b,.str c,.str d,o]])):=by
 have e0:((xs.length+1:Nat):Int) - 1=(xs.length:Nat):=by omega
 rcases ho with rfl|⟨ys,z,rfl⟩
 ·refine aJ iH rfl ?_
  repeat' first|refine aw ?_|refine bw (fun _=>?_) fun _=>?_
  refine b9 ⟨[(0,.ptr 0 0)],[(0,.var [.d (u7 l),.d (I k),.ref 1 0 0 (xs.length+1)]),(1,.arr 5 (xs++[[I a,I b,.str c,.str d,.nil]]))],3,[],2⟩ ?_ ?_
  ·repeat' first|refine aw ?_|refine bw (fun _=>?_) fun _=>?_
   exact bg (.inl ⟨rfl,by exact Uw.wW⟩)
  ·repeat' first|refine aw ?_|refine bw (fun _=>?_) fun _=>?_
   exact aI 2 rfl rfl (by exact Uw.wW)
 ·refine aJ iH rfl ?_
  repeat' first|refine aw ?_|refine bw (fun _=>?_) fun _=>?_
  refine b9 ⟨[(0,.ptr 0 0)],[(0,.var [.d (u7 l),.d (I k),.ref 1 0 0 (xs.length+1)]),(1,.arr 5 (xs++[[I a,I b,.str c,.str d,.slice 1 ys z]]))],3,[],2⟩ ?_ ?_
  ·repeat' first|refine aw ?_|refine bw (fun _=>?_) fun _=>?_
   exact bg (.inl ⟨rfl,by exact Uw.wW⟩)
  ·repeat' first|refine aw ?_|refine bw (fun _=>?_) fun _=>?_
   exact aI 2 rfl rfl (by exact Uw.wW)
end Uw.Tryz
