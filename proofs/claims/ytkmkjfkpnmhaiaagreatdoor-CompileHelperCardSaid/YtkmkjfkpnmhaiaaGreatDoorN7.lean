/- N7: Dc Dd De Df Dg Dh Di Gg Gh Fd Gi Gj Gk Gl Gm Fe Ha Hb Pb Pc Pd Pe Pf Pg Ph Pi Pj Pk Pl Pm Pn Pn2 (merged by merge2.py from the working texts). -/
import Derived.Test.YtkmkjfkpnmhaiaaGreatDoorN6
import Derived.Test.YtkmkjfkpnmhaiaaGreatDoorN4
import Derived.Test.YtkmkjfkpnmhaiaaGreatDoorN5
import Derived.Test.YtkmkjfkpnmhaiaaGreatDoorN3
set_option maxRecDepth 4000
set_option maxHeartbeats 2000000
set_option linter.unusedSimpArgs false
set_option linter.unnecessarySimpa false
set_option linter.unusedVariables false
set_option linter.unusedSectionVars false
namespace Uw.Tryz
open Go Uw
abbrev naH (p:Pg) (mv:List V) (fam:Heap):Heap:=(2,.var (sCs p))::(3,.var mv)::(0,.map none (thE p.decls))::(1,.map none (fnE p.ae))::fam
theorem yf {p:Pg} {mv:List V} {fam:Heap} {id:Nat} {b:Blk} (h:look (naH p mv fam) id=some b):(id=2/\b = .var (sCs p))\/(id=3/\b = .var mv)\/(id=0/\b = .map none (thE p.decls))\/(id=1/\b = .map none (fnE p.ae))\/look fam id=some b:=by
 rw [ai] at h;by_cases h2:2=id
 ·rw [if_pos h2] at h;injection h with h;exact .inl ⟨h2.symm,h.symm⟩
 rw [if_neg h2,ai] at h;by_cases h3:3=id
 ·rw [if_pos h3] at h;injection h with h;exact .inr (.inl ⟨h3.symm,h.symm⟩)
 rw [if_neg h3,ai] at h;by_cases h1:0=id
 ·rw [if_pos h1] at h;injection h with h;exact .inr (.inr (.inl ⟨h1.symm,h.symm⟩))
 rw [if_neg h1,ai] at h;by_cases h0:1=id
 ·rw [if_pos h0] at h;injection h with h;exact .inr (.inr (.inr (.inl ⟨h0.symm,h.symm⟩)))
 rw [if_neg h0] at h;exact .inr (.inr (.inr (.inr h)))
theorem PR {p:Pg} {mv:List V} {fam:Heap} {id:Nat} (h:4<=id):look (naH p mv fam) id=look fam id:=by
 rw [ai,if_neg (by omega),ai,if_neg (by omega),ai,if_neg (by omega),ai,if_neg (by omega)]
theorem wx {p:Pg} {ls:List (List Str)} {ms:List MS} {mv:List V} {r n:Nat} (hms:ms.length=ls.length) (hn:n=ls.length):cF (naH p mv (cM ls ms)) (bU mid 0 n++List.replicate r (.d .aV))=true:=by
 subst hn;rw [dU];intro v hv
 rcases List.mem_append.1 hv with hv|hv
 ·obtain ⟨k,hk⟩:=List.mem_iff_getElem?.1 hv
  have hkl:k<ls.length:=by
   rcases Nat.lt_or_ge k ls.length with h|h
   ·exact h
   ·rw [List.getElem?_eq_none (by rw [di];exact h)] at hk;cases hk
  rw [kx mid ls.length 0 k hkl] at hk;injection hk with hk
  subst hk;have:=qf (rid:=rid) (mid:=mid) (wo ls.length) (ls:=ls) (ms:=ms) (i:=0) (k:=k) (m:=ms[k]) (by omega) (by omega) (by simp [show k<ms.length by omega]);show (look _ _).isSome=true;rw [PR (by simp [mid];omega)];show (look (jW rid mid 0 ls ms) _).isSome=true;rw [this];rfl
 ·rw [List.mem_replicate] at hv
  rw [hv.2];rfl
theorem D8 {p:Pg} {ls:List (List Str)} {ms:List MS} {R R' : fp} {H:Heap} {r n:Nat} (hms:ms.length=ls.length) (hl:ls.length<100000) (h1:oC (dh []) R H (naH p (bU mid 0 ls.length++List.replicate r (.d .aV)) (cM ls ms)) R')
  (e2:look H 2=some (.var (sCs p))) (e3:look H 3=some (.var (bU mid 0 ls.length++List.replicate r (.d .aV)))) (e0:look H 0=some (.map none (thE p.decls))) (e1:look H 1=some (.map none (fnE p.ae)))
  (ho:Over (cM ls ms) H):Weak ⟨R,H,n,[],2⟩ ⟨R',naH p (bU mid 0 ls.length++List.replicate r (.d .aV)) (cM ls ms),1000000,[],2⟩:=by
 refine Weak.looks h1 ?_ (by omega) (fun id h _=>?_)
 ·intro id x hx
  rcases yf hx with ⟨rfl,rfl⟩|⟨rfl,rfl⟩|⟨rfl,rfl⟩|⟨rfl,rfl⟩|hx
  ·exact ⟨e2,rfl,by omega⟩
  ·exact ⟨e3,wx hms rfl,by omega⟩
  ·exact ⟨e0,rfl,by omega⟩
  ·exact ⟨e1,rfl,by omega⟩
  ·obtain ⟨g1,g2,g3,_⟩:=fz hx
   exact ⟨by rw [ho id g1 (by omega)];exact hx,g3 _,by omega⟩
 ·rcases (show id=0\/id=1 by omega) with rfl|rfl<;>rfl
end Uw.Tryz
namespace Uw.Tryz
open Go Uw
def Wc:b9:=qL (qL (qR (qL (qR (qR (qR (qR cy.code)))))))
abbrev noL (n:Nat):List (List Str):=List.replicate n []
abbrev nmV (n:Nat):List V:=bU mid 0 (noL n).length++List.replicate 0 (.d .aV)
abbrev JU (p:Pg) (ms:List MS) (k:Nat):St:=⟨[(59,.d (I k)),(58,.d (I ((p.nodes.map ndL).length:Nat))),(57,.d (bN p.nodes)),(5,.row 3 (ao p).length),(1,.ptr 2 0)],naH p (nmV (ao p).length) (cM (noL (ao p).length) ms),1000000,[],2⟩
abbrev nmG (p:Pg) (k:Nat):Prop:=∀h:k<p.nodes.length,nT p p.nodes[k] ((aU p).getD k 0)=false
set_option maxRecDepth 8000 in
set_option maxHeartbeats 4000000 in
theorem HN (p:Pg) (hf:bE p=true) (hp:Lim p) (R:Bool) (j:Nat) (hj:j<p.nodes.length) (hone:nT p p.nodes[j] ((aU p).getD j 0)=true->R=true) (hpre:∀i,i<j->nmG p i) (ms:List MS) (hms:ms=(ao p).map ct) {kk:aH->St->Tree} (hkk:∀s,kk .ret s=Tree.done .ret s) :
  WT P0 (mT (JU p ms) (AE p.nodes.length (nmG p)) (forM p.nodes.length) j fun e s=>WT P0 (EQ 2 cy.res (.d (.bool R)) (sBs p)) (kk e s)) (exec Wc (JU p ms j) Tree.done):=by
 have hN:=hp.nodes;have hF:=hp.ae;have hnl:(p.nodes.map ndL).length=p.nodes.length:=by simp
 have hll:=lk p;have Wg:(noL (ao p).length).length=(ao p).length:=by simp
 have MN:(noL (ao p).length).length<100000:=by omega
 have U4:ms.length=(noL (ao p).length).length:=by rw [hms];simp
 have hvl:(nmV (ao p).length).length=(ao p).length:=by rw [List.length_append,di];simp
 have hown:=zx hf _ j hj (Nat.le_refl _);have hol:((aU p).map fun i=>[I i]).length=p.nodes.length:=by rw [List.length_map,dT]
 have hoe:((aU p).map fun i=>[I i])[(j:Int).toNat]? = some [I ((aU p).getD j 0)]:=by
  have h2:j<(aU p).length:=by rw [dT];exact hj
  simp [List.getD,h2]
 have he:(p.nodes.map ndL)[(j:Int).toNat]? = some (ndL p.nodes[j]):=by simp [hj]
 have hth:=wn p p.nodes[j].name;have hfn:=DY p p.nodes[j].name2;have hG:nT p p.nodes[j] ((aU p).getD j 0)=false->nmG p j:=fun h _=>h;have hd:∀x o,nT p x o=(if x.kind=10\/x.kind=11 then (dD p x.name2).isNone else if x.kind=8 then (bp p x.name).isNone else if x.kind=2 then (bp p x.name).isNone&&!decide (x.name∈(ao p).getD o.toNat []) else false):=fun x o=>rfl;rw [hd] at hone hG;clear hd;generalize (aU p).getD j 0=o at *;generalize p.nodes[j]=x at *;obtain ⟨xk,xn,xs,xt,xo⟩:=x;have he:(p.nodes.map ndL)[(j:Int).toNat]? = some [I xk,I xn,.str xs,.str xt,bT xo]:=he;simp only at hone hG hth hfn;obtain ⟨l,hl⟩:∃l,(ao p)[o.toNat]? = some l:=⟨(ao p)[o.toNat]'(by omega),by simp⟩
 have hld:(ao p).getD o.toNat []=l:=by rw [List.getD,hl];rfl
 rw [hld] at hone hG;have hmg:(nmV (ao p).length)[o.toNat * 1]? = some (.hnd (mid o.toNat)):=by
  rw [Nat.mul_one,List.getElem?_append_left (by rw [di];omega),kx mid _ 0 _ (by omega),Nat.zero_add]
 have hlk:∀H,Over (cM (noL (ao p).length) ms) H->look H (mid o.toNat)=some (.map none (ct l)):=fun H ho=>by
  rw [ho _ (by simp only [mid];omega) (by simp only [mid];omega)];have:=qf (wo (noL (ao p).length).length) (ls:=noL (ao p).length) (ms:=ms) (i:=0) (k:=o.toNat) (m:=ct l) (by omega) (by omega) (by rw [hms];simp [hl])
  rwa [Nat.zero_add] at this
 have hsg:=si l xs;have tq:∀(Rg:fp) (H:Heap) (nx:Nat),look H 2=some (.var (sCs p))->look H 3=some (.var (nmV (ao p).length))->look H 0=some (.map none (thE p.decls))->look H 1=some (.map none (fnE p.ae))->Over (cM (noL (ao p).length) ms) H->
   (∀mv fam,oC (dh []) Rg H (naH p mv fam) [(59,.d (I ((j+1:Nat):Int))),(58,.d (I ((p.nodes.map ndL).length:Nat))),(57,.d (bN p.nodes)),(5,.row 3 (ao p).length),(1,.ptr 2 0)])->Weak ⟨Rg,H,nx,[],2⟩ (JU p ms (j+1)):=by
  intro Rg H nx e2 e3 e0 e1 ho hR;exact D8 U4 MN (hR _ _) e2 e3 e0 e1 ho
 have hend:∀st:St,st.defers=[]->st.base=2->resV st cy.res=some [.d (.bool true)]->look st.heap 0=some (.map none (thE p.decls))->look st.heap 1=some (.map none (fnE p.ae))->EQ 2 cy.res (.d (.bool true)) (sBs p) .ret st:=by
  intro st h1 _ h3 h4 h5;refine ⟨.inr rfl,h1,_,h3,?_⟩;refine Weak.looks ⟨⟨_,rfl,.inl ⟨rfl,rfl⟩⟩,trivial⟩ ?_ (by show 2<=2;omega) (fun id h _=>?_)
  ·intro id y hy
   have:(id=0/\y = .map none (thE p.decls))\/(id=1/\y = .map none (fnE p.ae)):=by
    have hy:look [(0,Blk.map none (thE p.decls)),(1,Blk.map none (fnE p.ae))] id=some y:=hy;rw [ai] at hy;by_cases h0:0=id
    ·rw [if_pos h0] at hy;injection hy with hy;exact .inl ⟨h0.symm,hy.symm⟩
    rw [if_neg h0,ai] at hy;by_cases h0:1=id
    ·rw [if_pos h0] at hy;injection hy with hy;exact .inr ⟨h0.symm,hy.symm⟩
    rw [if_neg h0] at hy;cases hy
   rcases this with ⟨rfl,rfl⟩|⟨rfl,rfl⟩
   ·exact ⟨h4,rfl,by show 0<2;omega⟩
   ·exact ⟨h5,rfl,by show 1<2;omega⟩
  ·rcases (show id=0\/id=1 by omega) with rfl|rfl<;>rfl
 have hT:(bp p xs=none/\aW (thE p.decls) (.s xs)=none)\/∃kd,bp p xs=some kd/\aW (thE p.decls) (.s xs)=some (I kd):=by
  rw [hth]
  cases bp p xs with
  | none=>exact .inl ⟨rfl,rfl⟩
  | some kd=>exact .inr ⟨kd,rfl,rfl⟩
 have hU:(dD p xt=none/\aW (fnE p.ae) (.s xt)=none)\/∃i:Nat,dD p xt=some i/\aW (fnE p.ae) (.s xt)=some (I i):=by
  rw [hfn]
  cases dD p xt with
  | none=>exact .inl ⟨rfl,rfl⟩
  | some i=>exact .inr ⟨i,rfl,rfl⟩
 clear hth hfn;by_cases k1:xk=10\/xk=11
 ·rcases hU with ⟨u1,u2⟩|⟨i,u1,u2⟩
  ·rw [hone (by rw [if_pos k1,u1];rfl)]
   rcases k1 with rfl|rfl<;>rcases hT with ⟨_,t2⟩|⟨kd,_,t2⟩
   all_goals repeat (first|refine aw ?_|refine f1 ?_|refine m1 ?_)
   all_goals exact iE hkk (hend _ rfl rfl rfl rfl rfl)
  ·have hG1:=hG (by rw [if_pos k1,u1];rfl)
   rcases k1 with rfl|rfl<;>rcases hT with ⟨_,t2⟩|⟨kd,_,t2⟩
   all_goals repeat (first|refine aw ?_|refine f1 ?_|refine m1 ?_)
   all_goals refine aJ j hG1 (tq _ _ _ rfl rfl rfl rfl (by (repeat refine bA ?_ rfl);exact bz) (fun mv fam=>?_))
   all_goals (repeat' first|exact trivial|refine ⟨⟨_,rfl,?_⟩,?_⟩|exact cQ (by first|with_reducible rfl|omega)|exact Or.inl ⟨rfl,rfl⟩)
 obtain ⟨k10,k11⟩:xk≠10/\xk≠11:=by omega
 by_cases k8:xk=8
 ·rcases hT with ⟨t1,t2⟩|⟨kd,t1,t2⟩
  ·rw [hone (by rw [if_neg k1,if_pos k8,t1];rfl)]
   subst k8
   rcases hU with ⟨_,u2⟩|⟨i,_,u2⟩
   all_goals repeat (first|refine aw ?_|refine f1 ?_|refine m1 ?_)
   all_goals exact iE hkk (hend _ rfl rfl rfl rfl rfl)
  ·have hG1:=hG (by rw [if_neg k1,if_pos k8,t1];rfl)
   subst k8
   rcases hU with ⟨_,u2⟩|⟨i,_,u2⟩
   all_goals repeat (first|refine aw ?_|refine f1 ?_|refine m1 ?_)
   all_goals refine aJ j hG1 (tq _ _ _ rfl rfl rfl rfl (by (repeat refine bA ?_ rfl);exact bz) (fun mv fam=>?_))
   all_goals (repeat' first|exact trivial|refine ⟨⟨_,rfl,?_⟩,?_⟩|exact cQ (by first|with_reducible rfl|omega)|exact Or.inl ⟨rfl,rfl⟩)
 by_cases k2:xk=2
 ·rcases hT with ⟨t1,t2⟩|⟨kd,t1,t2⟩
  ·by_cases hin:xs∈l
   ·rw [if_pos hin] at hsg
    have hG1:=hG (by rw [if_neg k1,if_neg k8,if_pos k2,t1];simp [hin]);subst k2
    rcases hU with ⟨_,u2⟩|⟨i,_,u2⟩
    all_goals repeat (first|refine aw ?_|refine f1 ?_|refine m1 ?_)
    all_goals refine mS _ (hlk _ (by (repeat refine bA ?_ rfl);exact bz)) ?_
    all_goals repeat (first|refine aw ?_|refine f1 ?_|refine m1 ?_)
    all_goals refine aJ j hG1 (tq _ _ _ rfl rfl rfl rfl (by (repeat refine bA ?_ rfl);exact bz) (fun mv fam=>?_))
    all_goals (repeat' first|exact trivial|refine ⟨⟨_,rfl,?_⟩,?_⟩|exact cQ (by first|with_reducible rfl|omega)|exact Or.inl ⟨rfl,rfl⟩)
   ·rw [if_neg hin] at hsg
    rw [hone (by rw [if_neg k1,if_neg k8,if_pos k2,t1];simp [hin])];subst k2
    rcases hU with ⟨_,u2⟩|⟨i,_,u2⟩
    all_goals repeat (first|refine aw ?_|refine f1 ?_|refine m1 ?_)
    all_goals refine mS _ (hlk _ (by (repeat refine bA ?_ rfl);exact bz)) ?_
    all_goals repeat (first|refine aw ?_|refine f1 ?_|refine m1 ?_)
    all_goals exact iE hkk (hend _ rfl rfl rfl rfl rfl)
  ·have hG1:=hG (by rw [if_neg k1,if_neg k8,if_pos k2,t1];rfl)
   subst k2
   rcases hU with ⟨_,u2⟩|⟨i,_,u2⟩
   all_goals repeat (first|refine aw ?_|refine f1 ?_|refine m1 ?_)
   all_goals refine aJ j hG1 (tq _ _ _ rfl rfl rfl rfl (by (repeat refine bA ?_ rfl);exact bz) (fun mv fam=>?_))
   all_goals (repeat' first|exact trivial|refine ⟨⟨_,rfl,?_⟩,?_⟩|exact cQ (by first|with_reducible rfl|omega)|exact Or.inl ⟨rfl,rfl⟩)
 have hG1:=hG (by rw [if_neg k1,if_neg k8,if_neg k2])
 rcases hU with ⟨_,u2⟩|⟨i,_,u2⟩<;>rcases hT with ⟨_,t2⟩|⟨kd,_,t2⟩
 all_goals repeat (first|refine aw ?_|refine f1 ?_|refine m1 ?_)
 all_goals refine aJ j hG1 (tq _ _ _ rfl rfl rfl rfl (by (repeat refine bA ?_ rfl);exact bz) (fun mv fam=>?_))
 all_goals (repeat' first|exact trivial|refine ⟨⟨_,rfl,?_⟩,?_⟩|exact cQ (by first|with_reducible rfl|omega)|exact Or.inl ⟨rfl,rfl⟩)
end Uw.Tryz
namespace Uw
open Go
theorem Weak.S3 [Glob] (ρ:Nat->Nat) {R R' : fp} {H H' : Heap} {n n' b:Nat} (h1:oC ρ R H H' R') (h2:∀id x,look H' id=some x->(∃y,look H (ρ id)=some y/\nD ρ H H' y x)/\id<n')
  (h3:∀id id',(look H' id).isSome=true->(look H' id').isSome=true->ρ id=ρ id'->id=id') (hb:∀id,id<b->ρ id=id/\((look H id).isSome=true->(look H' id).isSome=true)) (hn:b<=n'):Weak ⟨R,H,n,[],b⟩ ⟨R',H',n',[],b⟩:=
 ⟨ρ,fun i v h=>kl h1 i v h,fun i x h=>.inl (h2 i x h).1,fun i x h=>(h2 i x h).2,rfl,hn,hb,h3,rfl,rfl⟩
end Uw
namespace Uw.Tryz
open Go Uw
def uj (j b:Nat) (id:Nat):Nat:=if id=mid j then b else id
theorem PT {p:Pg} {k:Nat} {ms:List MS} {m:MS} {R R' : fp} {H:Heap} {r n b:Nat} {mv' : List V} (hms:ms.length=k) (hl:k<100000) (hb:1000000<=b)
  (h1:oC (uj k b) R H (naH p (bU mid 0 (k+1)++List.replicate r (.d .aV)) (cM (noL (k+1)) (ms++[m]))) R')
  (e2:look H 2=some (.var (sCs p))) (e3:look H 3=some (.var mv')) (hmv:mv' = bU mid 0 k++[.hnd b]++List.replicate r (.d .aV))
  (e0:look H 0=some (.map none (thE p.decls))) (e1:look H 1=some (.map none (fnE p.ae))) (eb:look H b=some (.map none m)) (ho:Over (cM (noL k) ms) H) :
  Weak ⟨R,H,n,[],2⟩ ⟨R',naH p (bU mid 0 (k+1)++List.replicate r (.d .aV)) (cM (noL (k+1)) (ms++[m])),1000000,[],2⟩:=by
 subst hmv;have hlow:∀i,i<4->uj k b i=i:=fun i h=>by unfold uj;rw [if_neg (by simp only [mid];omega)]
 have hm:∀i,i<k->uj k b (mid i)=mid i:=fun i h=>by unfold uj;rw [if_neg (by simp only [mid];omega)]
 have hmk:uj k b (mid k)=b:=by unfold uj;rw [if_pos rfl]
 have hnk:(noL k).length=k:=by simp
 have hlen:(noL (k+1)).length=k+1:=by simp
 have bd:∀i x,look (naH p (bU mid 0 (k+1)++List.replicate r (.d .aV)) (cM (noL (k+1)) (ms++[m]))) i=some x->i<1000000:=by
  intro i x hx
  rcases yf hx with ⟨rfl,rfl⟩|⟨rfl,rfl⟩|⟨rfl,rfl⟩|⟨rfl,rfl⟩|hx
  ·omega
  ·omega
  ·omega
  ·omega
  ·have:=(fz hx).2.1
   rw [hlen] at this;omega
 refine Weak.S3 (uj k b) h1 ?_ ?_ (fun id h=>⟨hlow id (by omega),fun _=>?_⟩) (by omega)
 ·intro id x hx
  refine ⟨?_,bd id x hx⟩
  rcases yf hx with ⟨rfl,rfl⟩|⟨rfl,rfl⟩|⟨rfl,rfl⟩|⟨rfl,rfl⟩|hx
  ·exact ⟨_,by rw [hlow 2 (by omega)];exact e2,dZ (by show Blk.var _=Blk.var (fC _ _);simp [fC,V.ren,hlow 0,hlow 1]) rfl⟩
  ·refine ⟨_,by rw [hlow 3 (by omega)];exact e3,dZ ?_ (wx (by simp [hms]) hlen.symm)⟩
   show _=Blk.var (fC _ _);have hc:bU (fun i=>uj k b (mid i)) 0 k=bU mid 0 k:=oe k 0 fun i hi=>by simp only [Nat.zero_add];exact hm i hi
   rw [pv,nj,sn,ug,hc];simp only [Nat.zero_add];rw [hmk]
  ·exact ⟨_,by rw [hlow 0 (by omega)];exact e0,dZ rfl rfl⟩
  ·exact ⟨_,by rw [hlow 1 (by omega)];exact e1,dZ rfl rfl⟩
  ·obtain ⟨g1,g2,g3,g4⟩:=fz hx
   refine ⟨x,?_,dZ (g4 _).symm (g3 _)⟩
   rcases vp hx with ⟨i,m',k1,k2,k3,rfl,rfl⟩|⟨i,l',k1,k2,k3,k4,rfl,rfl⟩
   ·rw [Nat.zero_add]
    rw [hlen] at k1;by_cases hi:i<k
    ·rw [hm i hi,ho _ (by simp only [mid];omega) (by simp only [mid];omega)]
     have:=qf (wo (noL k).length) (ls:=noL k) (ms:=ms) (i:=0) (k:=i) (m:=m') (by omega) (by omega) (by rwa [List.getElem?_append_left (by omega)] at k3)
     rwa [Nat.zero_add] at this
    ·obtain rfl:i=k:=by omega
     rw [List.getElem?_append_right (by omega),hms,Nat.sub_self] at k3;injection k3 with k3
     rw [hmk,<- k3];exact eb
   ·exfalso
    have:=List.mem_of_getElem? k3;rw [List.mem_replicate] at this;exact k4 this.2
 ·intro id id' h h' he
  obtain ⟨x,hx⟩:=Option.isSome_iff_exists.1 h;obtain ⟨x',hx'⟩:=Option.isSome_iff_exists.1 h';have b1:=bd id x hx;have b2:=bd id' x' hx';unfold uj at he
  split at he<;>split at he<;>omega
 ·rcases (show id=0\/id=1 by omega) with rfl|rfl<;>rfl
end Uw.Tryz
namespace Uw.Tryz
open Go Uw
theorem JV {p:Pg} (h:dD p gy=none):nameP p=true:=by rw [nameP,h];rfl
theorem JW {p:Pg} (j:Nat) (h:j<p.nodes.length) (hn:nT p p.nodes[j] ((aU p).getD j 0)=true):nameP p=true:=by
 have h2:j<(aU p).length:=by rw [dT];exact h
 have hz:j<(p.nodes.zip (aU p)).length:=by rw [List.length_zip];omega
 have:((p.nodes.zip (aU p)).any fun y=>nT p y.1 y.2)=true:=List.any_eq_true.2 ⟨_,List.getElem_mem hz,by
  rw [List.getElem_zip];simpa [List.getD,h2] using hn⟩
 rw [nameP,this];simp
theorem JY {p:Pg} (j:Nat) (h:j<p.decls.length) (hk:p.decls[j].kind<0\/3<p.decls[j].kind):nameP p=true:=by
 have:(p.decls.any fun d=>decide (d.kind<0)||decide (3<d.kind))=true:=List.any_eq_true.2 ⟨_,List.getElem_mem h,by simpa using hk⟩;rw [nameP,this];simp
theorem MO {p:Pg} (h0:dD p gy≠none) (h1:∀(j:Nat) (h:j<p.nodes.length),nT p p.nodes[j] ((aU p).getD j 0)=false) (h2:∀(j:Nat) (h:j<p.decls.length),¬(p.decls[j].kind<0\/3<p.decls[j].kind)):nameP p=false:=by
 have e1:((p.nodes.zip (aU p)).any fun y=>nT p y.1 y.2)=false:=List.any_eq_false.2 fun y hy=>by
  obtain ⟨j,hj,rfl⟩:=List.mem_iff_getElem.1 hy;rw [List.length_zip] at hj;have hj1:j<p.nodes.length:=by omega
  have hj2:j<(aU p).length:=by omega
  have:=h1 j hj1;rw [List.getElem_zip];simpa [List.getD,hj2] using this
 have e2:(p.decls.any fun d=>decide (d.kind<0)||decide (3<d.kind))=false:=List.any_eq_false.2 fun d hd=>by
  obtain ⟨j,hj,rfl⟩:=List.mem_iff_getElem.1 hd;have:=h2 j hj;simpa using this
 rw [nameP,e1,e2]
 cases h:dD p gy with
 | none=>exact absurd h h0
 | some i=>rfl
end Uw.Tryz
namespace Uw.Tryz
open Go Uw
theorem QU {p:Pg} {k b nx:Nat} {ms:List MS} {m m' : MS} {R R' : fp} {H:Heap} {r n:Nat} {mv' : List V} (hms:ms.length=k) (hl:k<100000) (hb:1000000<=b) (hnx:b<nx) (hmv:mv' = bU mid 0 k++[.hnd b]++List.replicate r (.d .aV))
  (h1:oC (dh []) R H ((b,.map none m')::naH p mv' (cM (noL k) ms)) R') (e2:look H 2=some (.var (sCs p))) (e3:look H 3=some (.var mv')) (e0:look H 0=some (.map none (thE p.decls))) (e1:look H 1=some (.map none (fnE p.ae))) (eb:look H b=some (.map none m)) (hm:m=m')
  (ho:Over (cM (noL k) ms) H):Weak ⟨R,H,n,[],2⟩ ⟨R',(b,.map none m')::naH p mv' (cM (noL k) ms),nx,[],2⟩:=by
 subst hm;have hkl:(noL k).length=k:=by simp
 have hlk:∀i,(look (naH p mv' (cM (noL k) ms)) i).isSome=true->(look ((b,.map none m)::naH p mv' (cM (noL k) ms)) i).isSome=true:=by
  intro i h;rw [ai]
  split
  ·rfl
  ·exact h
 refine Weak.looks h1 ?_ (by omega) (fun id h _=>?_)
 ·intro id x hx
  rw [ai] at hx;by_cases h2:b=id
  ·rw [if_pos h2] at hx;injection hx with hx;subst h2 hx;exact ⟨eb,rfl,by omega⟩
  rw [if_neg h2] at hx
  rcases yf hx with ⟨rfl,rfl⟩|⟨rfl,rfl⟩|⟨rfl,rfl⟩|⟨rfl,rfl⟩|hx
  ·refine ⟨e2,?_,by omega⟩
   show cF _ _=true;rw [dU];intro v hv;simp only [sCs,List.mem_cons,List.mem_nil_iff,or_false] at hv
   rcases hv with rfl|rfl|rfl|rfl|rfl|rfl|rfl
   ·rfl
   ·rfl
   ·rfl
   ·exact hlk 0 rfl
   ·exact hlk 1 rfl
   ·rfl
   ·rfl
  ·refine ⟨e3,?_,by omega⟩
   show cF _ _=true;have hc:=wx (p:=p) (ls:=noL k) (ms:=ms) (mv:=mv') (r:=r) (n:=k) (by rw [hkl,hms]) hkl.symm;rw [dU] at hc ⊢;intro v hv;rw [hmv] at hv
   rcases List.mem_append.1 hv with hv|hv
   ·rcases List.mem_append.1 hv with hv|hv
    ·obtain ⟨q,hq⟩:=List.mem_iff_getElem?.1 hv
     have hql:q<k:=by
      rcases Nat.lt_or_ge q k with h|h
      ·exact h
      ·rw [List.getElem?_eq_none (by rw [di];exact h)] at hq;cases hq
     have hg:=kx mid k 0 q hql;rw [hq] at hg;injection hg with hg
     have:=hc v (List.mem_append_left _ hv);rw [hg] at this ⊢;exact hlk _ this
    ·simp only [List.mem_cons,List.mem_nil_iff,or_false] at hv
     subst hv;show (look _ _).isSome=true;rw [ai,if_pos rfl];rfl
   ·rw [(List.mem_replicate.1 hv).2];rfl
  ·exact ⟨e0,rfl,by omega⟩
  ·exact ⟨e1,rfl,by omega⟩
  ·obtain ⟨g1,g2,g3,_⟩:=fz hx
   rw [hkl] at g2;exact ⟨by rw [ho id g1 (by omega)];exact hx,g3 _,by omega⟩
 ·rcases (show id=0\/id=1 by omega) with rfl|rfl
  ·exact hlk 0 rfl
  ·exact hlk 1 rfl
end Uw.Tryz
namespace Uw.Tryz
open Go Uw
abbrev nL (p:Pg):Nat:=((ao p).map fun l=>[fY l]).length
abbrev nmR (p:Pg):fp:=[(5,.row 3 (nL p)),(1,.ptr 2 0)]
abbrev MP (n r:Nat):List V:=bU mid 0 n++List.replicate r (.d .aV)
abbrev HO (p:Pg) (j:Nat):St:=⟨(33,.d (I j))::(32,.d (I (nL p:Nat)))::(31,.d (rP (ao p)))::nmR p,naH p (MP j (nL p - j)) (cM (noL j) (((ao p).take j).map ct)),1000000,[],2⟩
theorem F5 {k b i:Nat} (h:i<4):uj k b i=i:=by unfold uj;rw [if_neg (by simp only [mid];omega)]
theorem PU {j b k n:Nat} {h h' : Heap} (hk:k<4) (hc:(look h' k).isSome=true):VW (uj j b) h h' (.row k n) (.row k n):=.inl ⟨by rw [V.ren,F5 hk],hc⟩
theorem PV {j b k o:Nat} {h h' : Heap} (hk:k<4) (hc:(look h' k).isSome=true):VW (uj j b) h h' (.ptr k o) (.ptr k o):=.inl ⟨by rw [V.ren,F5 hk],hc⟩
theorem PW {p:Pg} {k b:Nat} {R:fp} {H:Heap} {mv:List V} {fam:Heap} (h5:look R 5=some (.row 3 (nL p))) (h1:look R 1=some (.ptr 2 0)):oC (uj k b) R H (naH p mv fam) (nmR p):=
 ⟨⟨_,h5,PU (by omega) rfl⟩,⟨_,h1,PV (by omega) rfl⟩,trivial⟩
def Wh:b9:=qL (qL (qR (qL (qR (qR (qR cy.code))))))
set_option maxRecDepth 20000 in
set_option maxHeartbeats 4000000 in
theorem F6 (p:Pg) (hp:Lim p) (hls:∀l∈ao p,l.length<1000000000) (j:Nat) (hj:j<nL p) (hpre:∀i,i<j->True) {QQ:aH->St->Prop}:WT P0 (mT (HO p) (AE (nL p) fun _=>True) (forM (nL p)) j QQ) (exec Wh (HO p j) Tree.done):=by
 have hnl:nL p=(ao p).length:=by simp
 have hll:=lk p;have hF:=hp.ae;have hj2:j<(ao p).length:=by rw [<- hnl];exact hj
 have he:((ao p).map fun l=>[fY l])[(j:Int).toNat]? = some [fY (ao p)[j]]:=by simp [hj2]
 have hml:(MP j (nL p - j)).length=nL p:=by rw [List.length_append,di,List.length_replicate];omega
 have hlL:=hls _ (List.getElem_mem hj2);have htk:(ao p).take (j+1)=(ao p).take j++[(ao p)[j]]:=List.take_succ_eq_append_getElem hj2;have hms:(((ao p).take j).map ct).length=j:=by rw [List.length_map,List.length_take];omega
 generalize (ao p)[j]=l at *;have he:((ao p).map fun l=>[fY l])[(j:Int).toNat]? = some [.slice 1 (l.map fun s=>[Dat.str s]) false]:=he;have hrl:(l.map fun s=>[Dat.str s]).length=l.length:=by simp
 have hsm:∀v,(MP j (nL p - j)).set ((j:Int).toNat * 1) v=bU mid 0 j++[v]++List.replicate (nL p - (j+1)) (.d .aV):=fun v=>by
  have:=DU (bU mid 0 j) (V.d .aV) v (nL p - (j+1));rw [di,show nL p - (j+1)+1=nL p - j by omega] at this;rw [show (j:Int).toNat * 1=j by omega];exact this
 have hS:HO p (j+1)=⟨(33,.d (I ((j+1:Nat):Int)))::(32,.d (I (nL p:Nat)))::(31,.d (rP (ao p)))::nmR p,naH p (bU mid 0 (j+1)++List.replicate (nL p - (j+1)) (.d .aV)) (cM (noL (j+1)) (((ao p).take j).map ct++[ct l])),1000000,[],2⟩:=by
  rw [HO,htk,List.map_append];rfl
 have hl5:j<100000:=by omega
 obtain ⟨E,hE⟩:∃E:Nat->MS,∀i,E i=ct (l.take i):=⟨_,fun _=>rfl⟩
 have hE0:([]:MS)=E 0:=by rw [hE];rfl
 have hEn:E l.length=ct l:=by rw [hE,List.take_length]
 have hEs:∀(i:Nat) (h:i<l.length),dJ (E i) (.s l[i]) (.bool true)=E (i+1):=fun i h=>by rw [hE,hE,List.take_succ_eq_append_getElem h,qg]
 have hge:∀(i:Nat) (h:i<l.length),(l.map fun s=>[Dat.str s])[(i:Int).toNat]? = some [.str l[i]]:=fun i h=>by simp [h]
 obtain ⟨mv',hmv⟩:∃mv',mv' = bU mid 0 j++[V.hnd 1000000]++List.replicate (nL p - (j+1)) (.d .aV):=⟨_,rfl⟩
 have MC:(MP j (nL p - j)).set ((j:Int).toNat * 1) (V.hnd 1000000)=mv':=by rw [hsm,hmv]
 have hmg:mv'[(j:Int).toNat * 1]? = some (.hnd 1000000):=by
  rw [hmv,List.append_assoc,List.getElem?_append_right (by rw [di];omega),di];simp
 have V7:mv'.length=nL p:=by rw [<- MC,List.length_set];exact hml
 repeat (first|refine aw ?_|refine f1 ?_)
 refine cb l.length (fun i:Nat=>⟨(44,.d (I i))::(43,.d (I ((l.map fun s=>[Dat.str s]).length:Nat)))::(42,.d (fY l))::(6,.d (I j))::(33,.d (I j))::(32,.d (I (nL p:Nat)))::(31,.d (rP (ao p)))::nmR p,(1000000,.map none (E i))::naH p mv' (cM (noL j) (((ao p).take j).map ct)),1000001,[],2⟩) (fun _=>True) ?_ (fun _=>?_) (fun i hi _=>?_)
 ·refine QU hms hl5 (Nat.le_refl _) (by omega) hmv ?_ rfl (by rw [<- MC];rfl) rfl rfl rfl hE0 (by (repeat refine bA ?_ rfl);exact bz)
  repeat' first|exact trivial|refine ⟨⟨_,rfl,?_⟩,?_⟩|exact cQ (by first|with_reducible rfl|omega)|exact Or.inl ⟨rfl,rfl⟩
 ·refine aw ?_
  refine aC ?_;refine aw ?_;refine aJ j trivial (cX hS ?_);exact PT (b:=1000000) hms hl5 (by omega) ⟨⟨_,rfl,cQ rfl⟩,⟨_,rfl,.inl ⟨rfl,rfl⟩⟩,⟨_,rfl,.inl ⟨rfl,rfl⟩⟩,PW rfl rfl⟩ rfl rfl hmv rfl rfl (by rw [<- hEn];rfl) (by (repeat refine bA ?_ rfl);exact bz)
 have hg:=hge i hi;have hs:=hEs i hi;generalize l[i]=nm at *
 repeat (first|refine aw ?_|refine f1 ?_)
 refine yM ((1000000,.map none (dJ (E i) (.s nm) (.bool true)))::naH p mv' (cM (noL j) (((ao p).take j).map ct))) (IX _ _ _ _) ?_
 repeat (first|refine aw ?_|refine f1 ?_)
 refine aJ i trivial ?_;refine QU hms hl5 (Nat.le_refl _) (by omega) hmv ?_ rfl rfl rfl rfl rfl hs (by (repeat refine bA ?_ rfl);exact bz)
 repeat' first|exact trivial|refine ⟨⟨_,rfl,?_⟩,?_⟩|exact cQ (by first|with_reducible rfl|omega)|exact Or.inl ⟨rfl,rfl⟩
end Uw.Tryz
namespace Uw.Tryz
open Go Uw
theorem D9 (p:Pg) (hp:Lim p):∀l∈ao p,l.length<1000000000:=fun l hl=>by
 obtain ⟨i,hi,rfl⟩:=List.mem_iff_getElem.1 hl;have hN:=hp.nodes;have:=zI p hp p.nodes.length i (ao p)[i] (by rw [vt];simp [hi]);omega
abbrev S4 (p:Pg) (j:Nat):St:=⟨[(114,.d (I j)),(113,.d (I ((p.decls.map cI).length:Nat))),(112,.d (.slice 3 (p.decls.map cI) false))],[(0,.map none (thE p.decls)),(1,.map none (fnE p.ae))],2,[],2⟩
abbrev PX (p:Pg) (k:Nat):Prop:=∀h:k<p.decls.length,¬(p.decls[k].kind<0\/3<p.decls[k].kind)
def Wi:b9:=qL (qL (qR (qL (qR (qR (qR (qR (qR cy.code))))))))
set_option maxRecDepth 8000 in
set_option maxHeartbeats 4000000 in
theorem F7 (p:Pg) (hp:Lim p) (R:Bool) (j:Nat) (hj:j<p.decls.length) (hone:p.decls[j].kind<0\/3<p.decls[j].kind->R=true) (hpre:∀i,i<j->PX p i) {kk:aH->St->Tree} (hkk:∀s,kk .ret s=Tree.done .ret s) :
  WT P0 (mT (S4 p) (AE p.decls.length (PX p)) (forM p.decls.length) j fun e s=>WT P0 (EQ 2 cy.res (.d (.bool R)) (sBs p)) (kk e s)) (exec Wi (S4 p j) Tree.done):=by
 have hD:=hp.decls;have hdl:(p.decls.map cI).length=p.decls.length:=by simp
 have he:(p.decls.map cI)[(j:Int).toNat]? = some (cI p.decls[j]):=by simp [hj]
 have hG:¬(p.decls[j].kind<0\/3<p.decls[j].kind)->PX p j:=fun h _=>h;generalize p.decls[j]=x at *;obtain ⟨xk,xn,xv⟩:=x;simp only at hone hG
 first
  | (have he:(p.decls.map cI)[(j:Int).toNat]? = some [I xk,.str xn,I xv]:=he)
  | skip
 by_cases k0:xk<0
 ·rw [hone (.inl k0)]
  repeat (first|refine aw ?_|refine f1 ?_)
  refine iE hkk (aF 2 rfl rfl ?_);exact Uw.wM
 by_cases k3:3<xk
 ·rw [hone (.inr k3)]
  repeat (first|refine aw ?_|refine f1 ?_)
  refine iE hkk (aF 2 rfl rfl ?_);exact Uw.wM
 have hG1:=hG (by omega)
 repeat (first|refine aw ?_|refine f1 ?_)
 exact aJ j hG1 (by exact Uw.wM)
set_option maxRecDepth 20000 in
set_option maxHeartbeats 4000000 in
theorem AX (p:Pg) (hf:bE p=true) (hp:Lim p):bk P0 iM [.agg (sCs p)] (sBs p) (.d (.bool (nameP p))) (sBs p):=by
 have hmn:=DY p gy
 cases hm:dD p gy with
 | none=>
  rw [JV hm];rw [hm] at hmn;have hmn:aW (fnE p.ae) (.s [109,97,105,110])=none:=hmn;refine aG kV rfl ?_
  repeat (first|refine aw ?_|refine f1 ?_|refine m1 ?_)
  refine aF 2 rfl rfl ?_;exact Uw.wM
 | some i0=>
 rw [hm] at hmn;have hmn:aW (fnE p.ae) (.s [109,97,105,110])=some (I (i0:Nat)):=hmn;have hll:=lk p;have hF:=hp.ae;have hN:=hp.nodes;have hD:=hp.decls;have hi0:i0<p.ae.length:=by
  rw [dD] at hm;exact (List.findIdx?_eq_some_iff_getElem.1 hm).1
 have hnl:nL p=(ao p).length:=by simp
 have hmk:(decide (((nL p:Nat):Int)=(nL p:Nat))&&decide ((0:Int)<=(nL p:Nat))&&decide ((((nL p:Nat):Nat):Int) * ((8:Nat):Int)<=70368744177664))=true:=by rw [hnl];simp;omega
 have hpi:(0:Int)<(nL p:Nat):=by omega
 have WM:(p.nodes.map ndL).length=p.nodes.length:=by simp
 have hdl:(p.decls.map cI).length=p.decls.length:=by simp
 have h0:dD p gy≠none:=by rw [hm];exact fun h=>by cases h
 have Vb:=fun j (h:j<p.nodes.length)=>JW (p:=p) j h;have yy:=fun j (h:j<p.decls.length)=>JY (p:=p) j h;have hall:=fun h1 h2=>MO (p:=p) h0 h1 h2;clear hm h0;have hls:=D9 p hp;have hSn:HO p (nL p)=⟨(33,.d (I (nL p:Nat)))::(32,.d (I (nL p:Nat)))::(31,.d (rP (ao p)))::nmR p,naH p (nmV (ao p).length) (cM (noL (ao p).length) ((ao p).map ct)),1000000,[],2⟩:=by
  have e:(ao p).take (nL p)=ao p:=List.take_of_length_le (by omega);have e2:MP (nL p) (nL p - nL p)=nmV (ao p).length:=by
   show _=bU mid 0 (noL (ao p).length).length++_;rw [Nat.sub_self,hnl,List.length_replicate]
  rw [HO,e,e2];rw [show noL (nL p)=noL (ao p).length by rw [hnl]]
 have hS0:JU p ((ao p).map ct) 0=⟨(59,.d (I ((0:Nat):Int)))::(58,.d (I ((p.nodes.map ndL).length:Nat)))::(57,.d (bN p.nodes))::nmR p,naH p (nmV (ao p).length) (cM (noL (ao p).length) ((ao p).map ct)),1000000,[],2⟩:=by
  rw [JU,nmR,hnl]
 have Wg:(noL (ao p).length).length=(ao p).length:=by simp
 have hms:((ao p).map ct).length=(noL (ao p).length).length:=by simp
 have MN:(noL (ao p).length).length<100000:=by omega
 generalize nameP p=R at *;refine aG kV rfl ?_
 repeat (first|refine aw ?_|refine f1 ?_|refine m1 ?_)
 refine cb (nL p) (HO p) (fun _=>True) ?_ (fun _=>?_) (fun j hj hpre=>?_);rotate_left 2
 ·exact F6 p hp hls j hj hpre
 ·refine D8 (ls:=noL 0) (ms:=[]) (r:=nL p - 0) rfl (by simp) ?_ rfl rfl rfl rfl (by (repeat refine bA ?_ rfl);exact bz)
  repeat' first|exact trivial|refine ⟨⟨_,rfl,?_⟩,?_⟩|exact cQ (by first|with_reducible rfl|omega)|exact Or.inl ⟨rfl,rfl⟩
 rw [hSn];refine aw ?_;refine aC ?_
 repeat (first|refine aw ?_|refine f1 ?_)
 refine cb p.nodes.length (JU p ((ao p).map ct)) (nmG p) (cX hS0 ?_) (fun g2=>?_) (fun j hj hpre=>?_);rotate_left 2
 ·exact HN p hf hp R j hj (Vb j hj) hpre _ rfl (fun s=>rfl)
 ·refine D8 (r:=0) hms MN ?_ rfl rfl rfl rfl (by (repeat refine bA ?_ rfl);exact bz)
  repeat' first|exact trivial|refine ⟨⟨_,rfl,?_⟩,?_⟩|exact cQ (by first|with_reducible rfl|omega)|exact Or.inl ⟨rfl,rfl⟩
 have hall:=hall fun j h=>g2 j h h;refine aw ?_;refine aC ?_
 repeat (first|refine aw ?_|refine f1 ?_)
 refine cb p.decls.length (S4 p) (PX p) ?_ (fun g3=>?_) (fun j hj hpre=>?_);rotate_left 2
 ·exact F7 p hp R j hj (yy j hj) hpre (fun s=>rfl)
 ·exact Uw.wM
 rw [hall fun j h=>g3 j h h];refine aw ?_;refine aC ?_
 repeat (first|refine aw ?_|refine f1 ?_)
 refine aF 2 rfl rfl ?_;exact Uw.wM
theorem F8 (p:Pg) (hp:Lim p):Ret P0 nV [pgD p] (I (m3 p)):=S0 p hp fun hf=>AX p hf hp
end Uw.Tryz
namespace Uw.Tryz
open Go Uw
theorem xm {g:Int->Nat->List In4} (hg:∀k a b,(g k a).length=(g k b).length):∀(l:List Int) (a b:Nat),(layAll g l a).length=(layAll g l b).length
 | [],_,_=>rfl
 | k::r,a,b=>by rw [layAll,layAll,List.length_append,List.length_append,hg k a b,xm hg r _ (b+(g k b).length)]
theorem F9 {ns:List Nd} {N:Nms}:∀(f:Nat) (k:Int) (a b:Nat),(lj ns N f k a).length=(lj ns N f k b).length
 | 0,_,_,_=>rfl
 | f+1,k,a,b=>by
  have ih:=F9 (ns:=ns) (N:=N) f;rw [lj,lj];simp only
  split
  ·split
   ·simp only [List.length_append,List.length_cons]
    rw [ih _ a b,ih _ (a+_+1) (b+(lj ns N f (((ns.getD k.toNat default).of).getD 0 0) b).length+1)]
   ·simp only [List.length_append,List.length_cons]
    rw [ih _ a b,ih (((ns.getD k.toNat default).of).getD 1 0) (a+_+1) (b+(lj ns N f (((ns.getD k.toNat default).of).getD 0 0) b).length+1),ih (((ns.getD k.toNat default).of).getD 2 0) _ (b+(lj ns N f (((ns.getD k.toNat default).of).getD 0 0) b).length+1+(lj ns N f (((ns.getD k.toNat default).of).getD 1 0) (b+(lj ns N f (((ns.getD k.toNat default).of).getD 0 0) b).length+1)).length+1)]
  ·split
   ·simp only [List.length_append,List.length_cons]
    rw [ih _ a b,ih _ (a+_+1) (b+(lj ns N f (((ns.getD k.toNat default).of).getD 0 0) b).length+1)]
   ·rw [List.length_append,List.length_append,xm ih _ a b]
def xT (ns:List Nd) (N:Nms) (k:Int):Nat:=(lay ns N k 0).length
theorem vy {ns:List Nd} {N:Nms} (k:Int) (a:Nat):(lay ns N k a).length=xT ns N k:=F9 _ _ _ _
theorem MQ (N:Nms) (x:Nd):(dP N x).length<=1:=by
 unfold dP
 repeat' split
 all_goals simp
theorem Gp {ns:List Nd} {N:Nms}:∀(l:List Int) (a:Nat),(layAll (lay ns N) l a).length=(l.map (xT ns N)).sum
 | [],_=>rfl
 | k::r,a=>by rw [layAll,List.length_append,vy,Gp r,List.map_cons,List.sum_cons]
theorem zW {l:List Int} {W:Int->Nat}:(l.length=2->(l.map W).sum=W (l.getD 0 0)+W (l.getD 1 0))/\(l.length=3->(l.map W).sum=W (l.getD 0 0)+W (l.getD 1 0)+W (l.getD 2 0)):=by
 constructor
 ·intro h
  match l,h with
  | [a,b],_=>simp
 ·intro h
  match l,h with
  | [a,b,c],_=>simp;omega
theorem PY {ns:List Nd} {N:Nms} (hL:Lays ns) (k:Nat) (hk:k<ns.length):xT ns N (k:Int)<=2+(ns[k].of.map (xT ns N)).sum:=by
 rw [xT,DT N hL k hk 0];have h13:=hL.ifs k hk;have h14:=hL.zC k hk
 split
 ·rename_i k13
  split
  ·rename_i h3
   have h2:ns[k].of.length=2:=by have:=h13 k13;omega
   rw [zW.1 h2];simp only [List.length_append,List.length_cons,vy];omega
  ·rename_i h3
   have h2:ns[k].of.length=3:=by have:=h13 k13;omega
   rw [zW.2 h2];simp only [List.length_append,List.length_cons,vy];omega
 ·split
  ·rename_i k14
   rw [zW.1 (h14 k14)];simp only [List.length_append,List.length_cons,List.length_nil,vy];omega
  ·rw [List.length_append,Gp]
   have:=MQ N ns[k];omega
theorem BP {W:Int->Nat} {c:Nat}:∀(l:List Nd) (w:List Nat),w.length=l.length->(∀(i:Nat) (h:i<l.length),w.getD i 0<=c+(l[i].of.map W).sum)->w.sum<=c * l.length+((l.flatMap (·.of)).map W).sum
 | [],w,hw,_=>by
  have:w=[]:=List.eq_nil_of_length_eq_zero hw;subst this;simp
 | x::l,[],hw,_=>by simp at hw
 | x::l,v::w,hw,h=>by
  have h0:=h 0 (by simp);have ih:=BP l w (by simpa using hw) fun i hi=>h (i+1) (Nat.succ_lt_succ hi);simp only [List.getD_cons_zero,List.getElem_cons_zero] at h0;rw [List.sum_cons,List.flatMap_cons,List.map_append,List.sum_append,List.length_cons,Nat.mul_add];omega
theorem JZ {p:Pg} (h:bE p=true):(iW p).Perm ((List.range p.nodes.length).map fun (k:Nat)=>(k:Int)):=by
 refine (List.perm_ext_iff_of_nodup (zt h) ?_).2 fun a=>⟨fun ha=>?_,fun ha=>?_⟩
 ·rw [List.nodup_iff_pairwise_ne,List.pairwise_map]
  exact (List.nodup_iff_pairwise_ne.1 List.nodup_range).imp fun hab e=>hab (Int.ofNat.inj e)
 ·obtain ⟨h1,h2⟩:=ye h a ha
  exact List.mem_map.2 ⟨a.toNat,List.mem_range.2 (by omega),by omega⟩
 ·obtain ⟨k,hk,rfl⟩:=List.mem_map.1 ha
  refine List.count_pos_iff.1 ?_;rw [qe h k (List.mem_range.1 hk)];decide
theorem PZ {l:List Nat} {a:Nat} (h:a∈l):a<=l.sum:=by
 induction l with
 | nil=>simp at h
 | cons b l ih=>
  rw [List.sum_cons]
  rcases List.mem_cons.1 h with rfl|h
  ·omega
  ·have:=ih h;omega
theorem P1 {p:Pg} (h:bE p=true) (N:Nms) (f:Nat) (hf:f<p.ae.length) (a:Nat):(lay p.nodes N p.ae[f].body a).length<=2 * p.nodes.length:=by
 have hL:=ot h;have h1:=BP (c:=2) (W:=xT p.nodes N) p.nodes ((List.range p.nodes.length).map fun (k:Nat)=>xT p.nodes N (k:Int)) (by simp) fun i hi=>by
  have:=PY (N:=N) hL i hi;simpa [List.getD,hi] using this
 have h2:=((JZ h).map (xT p.nodes N)).sum_nat;rw [iW,List.map_append,List.sum_append,List.map_map,List.map_map] at h2;have h3:(xT p.nodes N ∘ fun (k:Nat)=>(k:Int))=fun (k:Nat)=>xT p.nodes N (k:Int):=rfl;rw [h3] at h2;have h4:xT p.nodes N p.ae[f].body<=(p.ae.map (xT p.nodes N ∘ fun x=>x.body)).sum:=PZ (List.mem_map.2 ⟨p.ae[f],List.getElem_mem hf,rfl⟩);rw [vy];omega
abbrev cnB (p:Pg):List Blk:=[.map none (tgE p.decls),.map none (fuE p.ae),.map none (hpE p.ae.length (bF p))]
abbrev cnV (p:Pg):V:=.agg [.hnd 0,.hnd 1,.hnd 2,.d (bT (lV p (bF p)))]
def lcE (l:List Str):MS:=l.zipIdx.foldl (fun es y=>dJ es (.s y.1) (I ((y.2:Nat):Int))) []
theorem HQ (l:List Str):lcE l=hpE 0 l:=by simp [lcE,hpE]
theorem S5 (s:Str) (l:List Str) (h:l.Nodup):aW (lcE l) (.s s)=(oK l s).map I:=by
 rw [HQ,HL 0 s l h]
 cases oK l s<;>simp
theorem MR (l:List Str) (s:Str):lcE (l++[s])=dJ (lcE l) (.s s) (I (l.length:Nat)):=by rw [HQ,HQ,zQ,Nat.zero_add]
abbrev iP0:In4:=⟨1,0,0,0⟩
abbrev iRt:In4:=⟨17,0,0,0⟩
def mkF (p:Pg) (l:List Str):Mk:=⟨p.nodes,tgE p.decls,fuE p.ae,hpE p.ae.length (bF p),lcE l,bT (lV p (bF p))⟩
theorem Vd {p:Pg} (h:May p) (f:Nat) (hf:f<p.ae.length):SS (mkF p ((ao p).getD f [])) (ky p f):=by
 refine ⟨fun s=>?_,fun s=>?_,fun s=>?_,fun s=>?_⟩
 ·show aW (tgE p.decls) (.s s)=_
  rw [SQ p h.names.1];show _=((bp p s).map fun k=>(k,((rO p s:Nat):Int))).map _
  cases bp p s<;>rfl
 ·show (aW (fuE p.ae) (.s s)).getD (I 0)=I (((dD p s).getD 0:Nat):Int)
  rw [HK p h.names.2.1]
  cases dD p s<;>rfl
 ·show (aW (hpE p.ae.length (bF p)) (.s s)).getD (I 0)=I (match oK (bF p) s with|some i=>(p.ae.length:Nat)+i|none=>0)
  have e:=HL p.ae.length s (bF p) (ll _ _ List.nodup_nil);rw [e]
  cases oK (bF p) s<;>rfl
 ·show aW (lcE ((ao p).getD f [])) (.s s)=(oK ((ao p).getD f []) s).map I
  rw [S5];have:=(h.locals f hf).1.2.1;rw [h.lof f hf] at this;exact this
set_option maxRecDepth 8000 in
set_option maxHeartbeats 4000000 in
theorem J1 (p:Pg) (te fe he:MS) (pi:List Int) (l:List Str) (c0:List In4) (f kb:Nat) (ga:List Str) (gn:Str) (hp:Lim p) (hloc:Ret P0 m6 [pgD p,I f] (fY l)) (JS:(p.ae.map fuL)[(f:Int).toNat]? = some [.str gn,.slice 1 (ga.map fun s=>[Dat.str s]) false,I kb]) (hfi:(f:Int)<((p.ae.map fuL).length:Nat)) (hl:l.length<=16) (hc0:c0.length<900000)
  (BQ:bk P0 aS [.ptr 0 0,.d (I kb)] (mkB ⟨p.nodes,te,fe,he,lcE l,bT pi⟩ []) (.tuple []) (mkB ⟨p.nodes,te,fe,he,lcE l,bT pi⟩ c0)) :
  bk P0 gU [pgA p,.agg [.hnd 0,.hnd 1,.hnd 2,.d (bT pi)],.d (I f)] [.map none te,.map none fe,.map none he] (.agg [.d (I (ga.length:Nat)),.d (I (l.length:Nat)),.ref 3 (c0++[iP0]++[iRt]).length 0 (c0++[iP0]++[iRt]).length]) [.map none te,.map none fe,.map none he,.mt 4 (c0++[iP0]++[iRt]).length ((c0++[iP0]++[iRt]).map in4)]:=by
 have xl:=bL ⟨p.nodes,te,fe,he,lcE l,bT pi⟩ c0 (by omega) 1 0 0 0;have zS:=bL ⟨p.nodes,te,fe,he,lcE l,bT pi⟩ (c0++[iP0]) (by simp;omega) 17 0 0 0;generalize (c0++[iP0]++[iRt])=c2 at *;generalize (c0++[iP0])=c1 at *;have hF:=hp.ae;have hsl:(l.map fun s=>[Dat.str s]).length=l.length:=by simp
 have hgl:(ga.map fun s=>[Dat.str s]).length=ga.length:=by simp
 obtain ⟨E,hE⟩:∃E:Nat->MS,∀j,E j=lcE (l.take j):=⟨_,fun _=>rfl⟩
 have hE0:E 0=[]:=by rw [hE];rfl
 have hEn:lcE l=E l.length:=by rw [hE,List.take_length]
 have hst:∀(j:Nat) (h:j<l.length),dJ (E j) (.s l[j]) (I (j:Nat))=E (j+1):=fun j h=>by
  rw [hE,hE,List.take_succ_eq_append_getElem h,MR,List.length_take,Nat.min_eq_left (by omega)]
 have hel:∀(j:Nat) (h:j<l.length),(l.map fun s=>[Dat.str s])[(j:Int).toNat]? = some [.str l[j]]:=fun j h=>by simp [h]
 rw [hEn] at BQ xl zS;clear hEn hE;rw [<- hgl,<- hsl];refine aG xF rfl ?_
 repeat (first|refine aw ?_|refine f1 ?_|refine m1 ?_)
 refine cb l.length (fun j=>⟨[(27,.d (I j)),(26,.d (I ((l.map fun s=>[Dat.str s]).length:Nat))),(25,.d (fY l)),(9,.d (fY l)),(8,.ptr 8 0),(7,.ptr 6 0),(6,.ptr 5 0)],[(7,.map none (E j)),(8,.var [.d (bN p.nodes),.hnd 0,.hnd 1,.hnd 2,.d (bT pi),.hnd 7,.d .nil]),(6,.var [.d (.str gn),.d (.slice 1 (ga.map fun s=>[Dat.str s]) false),.d (I kb)]),(5,.var [.d (I 0),.d (I 0),.d .nil]),(2,.map none he),(1,.map none fe),(0,.map none te)],9,[],3⟩) (fun _=>True) (cX (by rw [hE0]) ?_) (fun _=>?_) (fun j hj _=>?_)
 ·exact Uw.wM
 rotate_left 1
 ·have he2:=hel j hj
  have hs:=hst j hj;generalize l[j]=s at *
  repeat (first|refine aw ?_|refine f1 ?_|refine m1 ?_)
  exact aJ j trivial (by exact Uw.wM)
 clear hel hst
 repeat (first|refine aw ?_|refine f1 ?_)
 refine aC ?_
 repeat (first|refine aw ?_|refine f1 ?_)
 refine ag 9 [8,0,1,2,7] BQ ?_
 repeat (first|refine aw ?_|refine f1 ?_)
 refine ag 10 [8,0,1,2,7,9] xl ?_
 repeat (first|refine aw ?_|refine f1 ?_)
 refine ag 10 [8,0,1,2,7,9] zS ?_
 repeat (first|refine aw ?_|refine f1 ?_)
 refine aF 3 rfl rfl (Weak.ofR [(3,9)] ?_ ?_ rfl rfl ?_ rfl rfl rfl)
 ·refine ⟨⟨_,rfl,?_⟩,trivial⟩
  exact Or.inr (Or.inr (Or.inr (Or.inr (Or.inl ⟨_,_,rfl,rfl,.inl ⟨rfl,rfl⟩,.inl ⟨rfl,rfl⟩,.inl ⟨rfl,rfl⟩,trivial⟩))))
 ·exact ⟨⟨.inl ⟨_,rfl,⟨rfl,rfl⟩⟩,rfl⟩,⟨.inl ⟨_,rfl,⟨rfl,rfl⟩⟩,rfl⟩,⟨.inl ⟨_,rfl,⟨rfl,rfl⟩⟩,rfl⟩,⟨.inl ⟨_,rfl,⟨rfl,rfl,rfl⟩⟩,rfl⟩,trivial⟩
 ·exact ⟨⟨rfl,fun _=>rfl⟩,⟨rfl,fun _=>rfl⟩,⟨rfl,fun _=>rfl⟩,trivial⟩
set_option maxRecDepth 8000 in
set_option maxHeartbeats 4000000 in
theorem P2 (p:Pg) (hp:Lim p) (hm:May p) (f:Nat) (hf:f<p.ae.length):bk P0 gU [pgA p,cnV p,.d (I f)] (cnB p) (.agg [.d (I (p.ae[f].args.length:Nat)),.d (I (((ao p).getD f []).length:Nat)),.ref 3 (dt p f p.ae[f]).ins.length 0 (dt p f p.ae[f]).ins.length]) (cnB p++[.mt 4 (dt p f p.ae[f]).ins.length ((dt p f p.ae[f]).ins.map in4)]):=by
 have hF:=hp.ae;have hN:=hp.nodes;have hloc:=zJ p hp f;have hll:=(hm.locals f hf)
 rw [hm.lof f hf] at hloc hll;have hlen:=hll.2;have hfb:=lg hm.formed f hf;have hfew:=P1 hm.formed (ky p f) f hf 0;have hbody:(dt p f p.ae[f]).ins=lay p.nodes (ky p f) p.ae[f].body 0++[iP0]++[iRt]:=by simp [dt,lay]
 obtain ⟨kb,hkb⟩:∃k:Nat,p.ae[f].body=(k:Int):=⟨p.ae[f].body.toNat,by omega⟩
 have BQ:=zU (mkF p ((ao p).getD f [])) (ky p f) (Vd hm f hf) (ot hm.formed) (fun i h=>Nat.lt_trans (hp.of _ (List.getElem_mem h)) (by decide)) kb (by show kb<p.nodes.length;omega) [];rw [hkb] at hfew hbody;have BQ:bk P0 aS [.ptr 0 0,.d (I kb)] (mkB (mkF p ((ao p).getD f [])) []) (.tuple []) (mkB (mkF p ((ao p).getD f [])) (lay p.nodes (ky p f) kb 0)):=BQ (by show 0+(lay p.nodes (ky p f) kb 0).length<1000000;omega);have JS:(p.ae.map fuL)[(f:Int).toNat]? = some (fuL p.ae[f]):=by simp [hf]
 have hfl:(p.ae.map fuL).length=p.ae.length:=by simp
 have hfi:(f:Int)<((p.ae.map fuL).length:Nat):=by omega
 have P3:(p.ae.map fuL)[(f:Int).toNat]? = some [.str p.ae[f].name,.slice 1 (p.ae[f].args.map fun s=>[Dat.str s]) false,I kb]:=by rw [JS,fuL,hkb];rfl
 rw [hbody];exact J1 p _ _ _ (lV p (bF p)) _ _ f kb _ _ hp hloc P3 hfi hlen (by omega) BQ
theorem zX (p:Pg) (hp:Lim p) (hm:May p) (f:Nat) (hf:f<p.ae.length):bk P0 gU [pgA p,cnV p,.d (I f)] (cnB p) (.agg ((bdC (dt p f p.ae[f])).map V.d)) (cnB p):=by
 refine l5.freeze (P2 p hp hm f hf) ?_;rintro r h0 n0 ⟨rfl,rfl,rfl⟩;refine ⟨_,bdC (dt p f p.ae[f]),br 0 (cnB p),3,rfl,?_,?_,Nat.le_refl _,?_,rfl,rfl,rfl⟩
 ·have e:((dt p f p.ae[f]).ins.map in4).drop 0=(dt p f p.ae[f]).ins.map in4:=rfl
  have e2:((dt p f p.ae[f]).ins.map in4).take (dt p f p.ae[f]).ins.length=(dt p f p.ae[f]).ins.map in4:=List.take_of_length_le (by simp);have e3:Nat.beq (dt p f p.ae[f]).ins.length (dt p f p.ae[f]).ins.length=true:=Nat.beq_refl _;simp only [frz,cnB,br,look,e,e2,e3,List.append,HAppend.hAppend,Append.append];rfl
 ·intro id x hx
  rw [kN] at hx ⊢;simp only [Nat.zero_le,if_true,Nat.sub_zero] at hx ⊢;obtain ⟨h1,h2⟩:=List.getElem?_eq_some_iff.1 hx;refine ⟨by rw [List.getElem?_append_left h1];exact hx,?_,h1⟩
  rcases id with _|_|_|id
  ·subst h2;rfl
  ·subst h2;rfl
  ·subst h2;rfl
  ·have:id+1+1+1<3:=h1
   omega
 ·intro id hid _
  rw [kN]
  rcases id with _|_|_|id
  ·rfl
  ·rfl
  ·rfl
  ·have:id+1+1+1<3:=hid
   omega
end Uw.Tryz
namespace Uw.Tryz
open Go Uw
def P4 (res:List jh):Tree->Option Dat
 | .done .ret st=>match st.defers,resV st res with
  | [],some vs=>match eI st.heap vs,yK st.heap vs with
   | some ds,true=>some (lI ds)
   | _,_=>none
  | _,_=>none
 | _=>none
theorem P5 {P:Program} {res:List jh} {t:Tree} {r:Dat} (h:P4 res t=some r):WT P (EX res r) t:=by
 unfold P4 at h
 split at h
 ·split at h
  ·rename_i hd hv
   split at h
   ·rename_i h1 h2
    injection h with h
    exact ak hd hv h1 h2 h
   ·cases h
  ·cases h
 ·cases h
set_option maxRecDepth 8000 in
theorem P6 {P:Program} {f:FuncId} {m:bJ} (hf:aR P f m) {args:List Dat} {r:Dat} (hn:Nat.ble args.length m.n=true) (h:P4 m.res (exec m.code (oz args) Tree.done)=some r):Ret P f args r:=az hf hn (P5 h)
theorem HS (f k:Int):P4 kp.res (exec kp.code (oz [I f,I k]) Tree.done)=some (.agg [I 2,I 5,.slice 4 ((dM f k).ins.map in4) true]):=by kernel_rfl
theorem HU (f k:Int):Ret P0 iy [I f,I k] (.agg [I 2,I 5,.slice 4 ((dM f k).ins.map in4) true]):=P6 uX rfl (HS f k)
theorem wy (f k:Int):Ret P0 iy [I f,I k] (.agg (bdC (dM f k))):=(HU f k).res (.agg (.cons (.refl _) (.cons (.refl _) (.cons (.slice (.refl _)) (.refl _)))))
theorem jC (p:Pg):∀(l:List Fu) (i j:Nat) (h:j<l.length),(fU p i l)[j]? = some (dt p (i+j) l[j])
 | [],i,j,h=>by simp at h
 | g::r,i,0,h=>by rw [fU];rfl
 | g::r,i,j+1,h=>by
  have:=jC p r (i+1) j (by simpa using h);rw [fU,List.getElem?_cons_succ,this,show i+1+j=i+(j+1) by omega];rfl
theorem eY (p:Pg):∀(l:List Fu) (i:Nat),(fU p i l).length=l.length
 | [],_=>rfl
 | g::r,i=>by rw [fU,List.length_cons,eY p r,List.length_cons]
theorem qk (p:Pg):∀(l:List Str) (i:Nat),(lz p i l).length=l.length
 | [],_=>rfl
 | g::r,i=>by rw [lz,List.length_cons,qk p r,List.length_cons]
theorem uk (p:Pg):∀(l:List Str) (i j:Nat) (h:j<l.length),(lz p i l)[j]? = some (dM (((dD p l[j]).getD 0:Nat):Int) ((i+j:Nat):Int))
 | [],i,j,h=>by simp at h
 | g::r,i,0,h=>by rw [lz];rfl
 | g::r,i,j+1,h=>by
  have:=uk p r (i+1) j (by simpa using h);rw [lz,List.getElem?_cons_succ,this,show i+1+j=i+(j+1) by omega];rfl
abbrev Wj (p:Pg):Heap:=[(5,.var [.hnd 2,.hnd 3,.hnd 4,.d (bT (lV p (bF p)))]),(4,.map none (hpE p.ae.length (bF p))),(3,.map none (fuE p.ae)),(2,.map none (tgE p.decls)),(1,.var [.d .nil,.d .nil,.d (I 0),.d (I 0),.d (I 0),.d (I 0)]),(0,.var [.d (.slice 3 (p.decls.map cI) false),.d (.slice 3 (p.ae.map fuL) false),.d (bN p.nodes)])]
abbrev ocR:fp:=[(6,.ptr 6 0),(5,.ptr 5 0),(2,.ptr 1 0),(1,.ptr 0 0)]
abbrev ocH (p:Pg) (cl fs:List (List Dat)) (a b c m:Int):Heap:=(8,.arr 1 cl)::(7,.arr 3 fs)::(6,.var [.ref 7 0 0 fs.length,.ref 8 0 0 cl.length,.d (I a),.d (I b),.d (I c),.d (I m)])::Wj p
abbrev Gq (p:Pg) (CL:Nat->List (List Dat)) (A B C:Nat->Nat) (m:Int) (j:Nat):St:=⟨(28,.d (I j))::(27,.d (I ((p.decls.map cI).length:Nat)))::(26,.d (.slice 3 (p.decls.map cI) false))::ocR,ocH p (CL j) [] (A j:Nat) (B j:Nat) (C j:Nat) m,9,[],0⟩
abbrev P7 (p:Pg) (CL:List (List Dat)) (FS:Nat->List (List Dat)) (a b c m:Int) (j:Nat):St:=⟨(65,.d (I j))::(64,.d (I ((p.ae.map fuL).length:Nat)))::(63,.d (.slice 3 (p.ae.map fuL) false))::ocR,ocH p CL (FS j) a b c m,9,[],0⟩
abbrev S7 (p:Pg) (CL:List (List Dat)) (FS:Nat->List (List Dat)) (a b c m:Int) (j:Nat):St:=⟨(87,.d (I j))::(86,.d (I (((lV p (bF p)).map fun i=>[I i]).length:Nat)))::(85,.d (bT (lV p (bF p))))::ocR,ocH p CL (FS j) a b c m,9,[],0⟩
theorem px (ds:List Dec) (k:Int) (j:Nat) (h:j<ds.length):dj (ds.take (j+1)) k=dj (ds.take j) k+if ds[j].kind=k then 1 else 0:=by
 rw [List.take_succ_eq_append_getElem h,dj,dj,List.countP_append,List.countP_singleton];simp
theorem zY (ds:List Dec) (k:Int) (j:Nat):dj (ds.take j) k<=j:=by
 have:dj (ds.take j) k<=(ds.take j).length:=List.countP_le_length;rw [List.length_take] at this;omega
abbrev J2:Dat:=.agg [.nil,.nil,I 0,I 0,I 0,I 0]
abbrev ocG (p:Pg) (j:Nat):Prop:=∀h:j<p.ae.length,¬400<(dt p j p.ae[j]).ins.length
set_option maxRecDepth 8000 in
set_option maxHeartbeats 4000000 in
theorem I4 (p:Pg) (hp:Lim p) (hm:May p) (hy:Ret P0 nV [pgD p] (I 0)) (c:Dat) (e:Int) (hone:∀(j:Nat) (h:j<p.ae.length),400<(dt p j p.ae[j]).ins.length->c=J2/\e=2) (hall:(∀j,j<p.ae.length->ocG p j)->c=cdD (db p)/\e=0):Ret P0 fP [pgD p] (.tuple [c,I e]):=by
 have hnu:=wv p hp hm;have hbo:=zX p hp hm;have hF:=hp.ae;have hD:=hp.decls;have hN:=hp.nodes;have hfl:(p.ae.map fuL).length=p.ae.length:=by simp
 have hdl:(p.decls.map cI).length=p.decls.length:=by simp
 have hpl:((lV p (bF p)).map fun i=>[I i]).length=(bF p).length:=by simp [lV]
 have hmain:(aW (fuE p.ae) (.s [109,97,105,110])).getD (I 0)=I (((dD p gy).getD 0:Nat):Int):=by
  have:=HK p hm.names.2.1 gy;rw [show gy=[109,97,105,110] from rfl] at this;rw [this];show _=I (((dD p [109,97,105,110]).getD 0:Nat):Int)
  cases dD p [109,97,105,110]<;>rfl
 obtain ⟨CL,hCL⟩:∃E:Nat->List (List Dat),∀j,E j=(((p.decls.take j).filter fun d=>decide (d.kind=0)).map (·.n)).map fun i=>[I i]:=⟨_,fun _=>rfl⟩
 obtain ⟨A,hA⟩:∃E:Nat->Nat,∀j,E j=dj (p.decls.take j) 1:=⟨_,fun _=>rfl⟩
 obtain ⟨B,hB⟩:∃E:Nat->Nat,∀j,E j=dj (p.decls.take j) 2:=⟨_,fun _=>rfl⟩
 obtain ⟨C,hC⟩:∃E:Nat->Nat,∀j,E j=dj (p.decls.take j) 3:=⟨_,fun _=>rfl⟩
 obtain ⟨FS,hFS⟩:∃E:Nat->List (List Dat),∀j,E j=((fU p 0 p.ae).take j).map bdC:=⟨_,fun _=>rfl⟩
 obtain ⟨GS,hGS⟩:∃E:Nat->List (List Dat),∀j,E j=(fU p 0 p.ae).map bdC++((lz p p.ae.length (bF p)).take j).map bdC:=⟨_,fun _=>rfl⟩
 have hdel:∀(j:Nat) (h:j<p.decls.length),(p.decls.map cI)[(j:Int).toNat]? = some (cI p.decls[j]):=fun j h=>by simp [h]
 have hcs:∀(j:Nat) (h:j<p.decls.length),(CL j).length<=j/\A j<=j/\B j<=j/\C j<=j/\
   ((p.decls[j].kind=0->CL (j+1)=CL j++(List.replicate 1 [Dat.int .i64 0]).set 0 [I p.decls[j].n])/\(p.decls[j].kind≠0->CL (j+1)=CL j))/\
   ((p.decls[j].kind=1->A (j+1)=A j+1)/\(p.decls[j].kind≠1->A (j+1)=A j))/\((p.decls[j].kind=2->B (j+1)=B j+1)/\(p.decls[j].kind≠2->B (j+1)=B j))/\((p.decls[j].kind=3->C (j+1)=C j+1)/\(p.decls[j].kind≠3->C (j+1)=C j)):=fun j h=>by
  refine ⟨?_,by rw [hA];exact zY _ _ _,by rw [hB];exact zY _ _ _,by rw [hC];exact zY _ _ _,⟨fun e=>?_,fun e=>?_⟩,⟨fun e=>?_,fun e=>?_⟩,⟨fun e=>?_,fun e=>?_⟩,⟨fun e=>?_,fun e=>?_⟩⟩
  ·rw [hCL,List.length_map,List.length_map]
   have:=List.length_filter_le (fun d:Dec=>decide (d.kind=0)) (p.decls.take j);rw [List.length_take] at this;omega
  ·rw [hCL,hCL,List.take_succ_eq_append_getElem h,List.filter_append];simp [e]
  ·rw [hCL,hCL,List.take_succ_eq_append_getElem h,List.filter_append];simp [e]
  ·rw [hA,hA,px _ _ _ h,if_pos e]
  ·rw [hA,hA,px _ _ _ h,if_neg e];rfl
  ·rw [hB,hB,px _ _ _ h,if_pos e]
  ·rw [hB,hB,px _ _ _ h,if_neg e];rfl
  ·rw [hC,hC,px _ _ _ h,if_pos e]
  ·rw [hC,hC,px _ _ _ h,if_neg e];rfl
 have hfs:∀(j:Nat) (h:j<p.ae.length),(FS j).length<=j/\FS (j+1)=FS j++(List.replicate 1 [Dat.int .i64 0,Dat.int .i64 0,Dat.nil]).set 0 (bdC (dt p j p.ae[j])):=fun j h=>by
  have hb:=jC p p.ae 0 j h;rw [Nat.zero_add] at hb;refine ⟨by rw [hFS,List.length_map,List.length_take];omega,?_⟩;rw [hFS,hFS,List.take_add_one,hb,List.map_append];rfl
 have hgs:∀(j:Nat) (h:j<(bF p).length),(GS j).length=p.ae.length+j/\GS (j+1)=GS j++(List.replicate 1 [Dat.int .i64 0,Dat.int .i64 0,Dat.nil]).set 0 (bdC (dM (((dD p (bF p)[j]).getD 0:Nat):Int) ((GS j).length:Nat))):=fun j h=>by
  have hb:=uk p (bF p) p.ae.length j h;have hl:(GS j).length=p.ae.length+j:=by
   rw [hGS,List.length_append,List.length_map,List.length_map,List.length_take,eY,qk];omega
  refine ⟨hl,?_⟩;rw [hl,hGS,hGS,List.take_add_one,hb,List.map_append,<- List.append_assoc];rfl
 have P8:∀(j:Nat) (h:j<(bF p).length),((lV p (bF p)).map fun i=>[I i])[(j:Int).toNat]? = some [I (((dD p (bF p)[j]).getD 0:Nat):Int)]:=fun j h=>by simp [lV,h]
 have hFG:FS p.ae.length=GS 0:=by
  rw [hFS,hGS,List.take_of_length_le (by rw [eY];exact Nat.le_refl _)];simp
 have hpn:(bF p).length<=p.nodes.length:=by
  have:∀(r:List Nd) (l:List Str),(fZ r l).length<=l.length+r.length:=by
   intro r
   induction r with
   | nil=>intro l;simp [fZ]
   | cons x r ih=>
    intro l;rw [fZ];refine Nat.le_trans (ih _) ?_
    split
    ·simp<;>omega
    ·simp<;>omega
  have:=this p.nodes [];simpa [bF] using this
 have hR:cdD (db p) = .agg [.slice 3 (((GS (bF p).length).drop 0).take (GS (bF p).length).length) false,.slice 1 (((CL p.decls.length).drop 0).take (CL p.decls.length).length) false,I (A p.decls.length:Nat),I (B p.decls.length:Nat),I (C p.decls.length:Nat),I (((dD p gy).getD 0:Nat):Int)]:=by
  rw [List.drop_zero,List.take_length,List.drop_zero,List.take_length,hGS,hCL,hA,hB,hC,List.take_length,List.take_of_length_le (l:=lz p p.ae.length (bF p)) (by rw [qk];exact Nat.le_refl _),<- List.map_append];rfl
 have hS1:Gq p CL A B C (((dD p gy).getD 0:Nat):Int) 0=⟨(28,.d (I (0:Nat)))::(27,.d (I ((p.decls.map cI).length:Nat)))::(26,.d (.slice 3 (p.decls.map cI) false))::ocR,ocH p [] [] (0:Nat) (0:Nat) (0:Nat) (((dD p gy).getD 0:Nat):Int),9,[],0⟩:=by
  rw [Gq,hCL,hA,hB,hC];rfl
 have hS2:∀a b c m:Int,∀cl,P7 p cl FS a b c m 0=⟨(65,.d (I (0:Nat)))::(64,.d (I ((p.ae.map fuL).length:Nat)))::(63,.d (.slice 3 (p.ae.map fuL) false))::ocR,ocH p cl [] a b c m,9,[],0⟩:=fun a b c m cl=>by
  rw [P7,hFS];rfl
 have hFl:∀(j:Nat),(FS j).length<=100000:=fun j=>by
  rw [hFS,List.length_map,List.length_take,eY];omega
 rw [hR] at hall;clear hR hCL hA hB hC hFS hGS;generalize (((dD p gy).getD 0:Nat):Int)=mn at *;refine az s7 rfl ?_
 repeat (first|refine aw ?_|refine f1 ?_|refine m1 ?_)
 refine ag 2 [] hnu ?_
 repeat (first|refine aw ?_|refine f1 ?_|refine m1 ?_)
 refine cP (I 0) _ hmain ?_
 repeat (first|refine aw ?_|refine f1 ?_|refine m1 ?_)
 refine cb p.decls.length (Gq p CL A B C mn) (fun _=>True) (cX hS1 ?_) (fun _=>?_) (fun j hj _=>?_)
 ·exact Uw.wM
 rotate_left 1
 ·have he:=hdel j hj
  obtain ⟨g1,g2,g3,g4,g5,g6,g7,g8⟩:=hcs j hj;clear hdel hcs hfs hgs P8 hFl hbo hnu;generalize p.decls[j]=d at *;obtain ⟨dk,ds,dn⟩:=d;have he:(p.decls.map cI)[(j:Int).toNat]? = some [I dk,.str ds,I dn]:=he;simp only at g5 g6 g7 g8;obtain ⟨a5,b5⟩:=g5;obtain ⟨a6,b6⟩:=g6;obtain ⟨a7,b7⟩:=g7;obtain ⟨a8,b8⟩:=g8;by_cases k0:dk=0
  ·subst k0
   have e5:=a5 rfl;have e6:=b6 (by decide);have e7:=b7 (by decide);have e8:=b8 (by decide);clear a5 b5 a6 b6 a7 b7 a8 b8
   repeat (first|refine aw ?_|refine f1 ?_|refine m1 ?_)
   refine aJ j trivial (cX (by rw [Gq,e5,e6,e7,e8]) ?_);exact Uw.wM
  by_cases k1:dk=1
  ·subst k1
   have e5:=b5 (by decide);have e6:=a6 rfl;have e7:=b7 (by decide);have e8:=b8 (by decide);clear a5 b5 a6 b6 a7 b7 a8 b8
   repeat (first|refine aw ?_|refine f1 ?_|refine m1 ?_)
   refine aJ j trivial (cX (by rw [Gq,e5,e6,e7,e8]) ?_);exact Uw.wM
  by_cases k2:dk=2
  ·subst k2
   have e5:=b5 (by decide);have e6:=b6 (by decide);have e7:=a7 rfl;have e8:=b8 (by decide);clear a5 b5 a6 b6 a7 b7 a8 b8
   repeat (first|refine aw ?_|refine f1 ?_|refine m1 ?_)
   refine aJ j trivial (cX (by rw [Gq,e5,e6,e7,e8]) ?_);exact Uw.wM
  by_cases k3:dk=3
  ·subst k3
   have e5:=b5 (by decide);have e6:=b6 (by decide);have e7:=b7 (by decide);have e8:=a8 rfl;clear a5 b5 a6 b6 a7 b7 a8 b8
   repeat (first|refine aw ?_|refine f1 ?_|refine m1 ?_)
   refine aJ j trivial (cX (by rw [Gq,e5,e6,e7,e8]) ?_);exact Uw.wM
  have e5:=b5 k0;have e6:=b6 k1;have e7:=b7 k2;have e8:=b8 k3
  repeat (first|refine aw ?_|refine f1 ?_|refine m1 ?_)
  refine aJ j trivial (cX (by rw [Gq,e5,e6,e7,e8]) ?_);exact Uw.wM
 clear hdel hcs
 repeat (first|refine aw ?_|refine f1 ?_)
 refine aC ?_
 repeat (first|refine aw ?_|refine f1 ?_)
 refine cb p.ae.length (P7 p (CL p.decls.length) FS (A p.decls.length:Nat) (B p.decls.length:Nat) (C p.decls.length:Nat) mn) (ocG p) (cX (hS2 _ _ _ _ _) ?_) (fun hgood=>?_) (fun j hj hpre=>?_)
 ·exact Uw.wM
 rotate_left 1
 ·have hb:=hbo j hj
  obtain ⟨g1,g2⟩:=hfs j hj;have hone:=hone j hj;have hG:¬400<(dt p j p.ae[j]).ins.length->ocG p j:=fun h _=>h;clear hfs hgs P8 hFl hbo hnu hall;generalize dt p j p.ae[j]=b at *;obtain ⟨ba,bl,bi⟩:=b;have hb:bk P0 gU [pgA p,cnV p,.d (I j)] (cnB p) (.agg [.d (I ba),.d (I bl),.d (.slice 4 (bi.map in4) false)]) (cnB p):=hb;simp only at hone hG;by_cases hw:400<bi.length
  ·obtain ⟨rfl,rfl⟩:=hone hw
   have hfw:(400:Int)<((bi.map in4).length:Nat):=by rw [List.length_map];omega
   repeat (first|refine aw ?_|refine f1 ?_|refine m1 ?_)
   refine ag 9 [2,3,4] hb ?_
   repeat (first|refine aw ?_|refine f1 ?_|refine m1 ?_)
   exact bj (ak rfl rfl rfl rfl rfl)
  have hG1:=hG hw;have hfw:¬(400:Int)<((bi.map in4).length:Nat):=by rw [List.length_map];omega
  have g2:FS (j+1)=FS j++(List.replicate 1 [Dat.int .i64 0,Dat.int .i64 0,Dat.nil]).set 0 [I ba,I bl,.slice 4 (bi.map in4) false]:=g2
  repeat (first|refine aw ?_|refine f1 ?_|refine m1 ?_)
  refine ag 9 [2,3,4] hb ?_
  repeat (first|refine aw ?_|refine f1 ?_|refine m1 ?_)
  refine aJ j hG1 (cX (by rw [P7,g2]) ?_);exact Uw.wM
 clear hfs hbo hone;obtain ⟨rfl,rfl⟩:=hall hgood;clear hall hgood
 repeat (first|refine aw ?_|refine f1 ?_)
 refine aC ?_
 repeat (first|refine aw ?_|refine f1 ?_)
 refine cb (bF p).length (S7 p (CL p.decls.length) GS (A p.decls.length:Nat) (B p.decls.length:Nat) (C p.decls.length:Nat) mn) (fun _=>True) (cX (by rw [S7,<- hFG]) ?_) (fun _=>?_) (fun j hj _=>?_)
 ·exact Uw.wM
 rotate_left 1
 ·have he:=P8 j hj
  obtain ⟨g1,g2⟩:=hgs j hj;have hh:=wy (((dD p (bF p)[j]).getD 0:Nat):Int) ((GS j).length:Nat);clear hgs P8 hFl hnu;generalize dM (((dD p (bF p)[j]).getD 0:Nat):Int) ((GS j).length:Nat)=b at *;generalize (((dD p (bF p)[j]).getD 0:Nat):Int)=fi at *;obtain ⟨ba,bl,bi⟩:=b;have hh:Ret P0 iy [I fi,I ((GS j).length:Nat)] (.agg [I ba,I bl,.slice 4 (bi.map in4) false]):=hh;have g2:GS (j+1)=GS j++(List.replicate 1 [Dat.int .i64 0,Dat.int .i64 0,Dat.nil]).set 0 [I ba,I bl,.slice 4 (bi.map in4) false]:=g2
  repeat (first|refine aw ?_|refine f1 ?_|refine m1 ?_)
  refine aJ j trivial (cX (by rw [S7,g2]) ?_);exact Uw.wM
 repeat (first|refine aw ?_|refine f1 ?_)
 refine aC ?_
 repeat (first|refine aw ?_|refine f1 ?_)
 exact ak rfl rfl rfl rfl rfl
set_option maxHeartbeats 1000000 in
theorem mj (p:Pg) (hp:Lim p):Ret P0 fP [pgD p] (.tuple [cdD (ofP p).1,I (ofP p).2]):=by
 have hy:=F8 p hp;have hno:DLe J2 (cdD wq):=.agg (.cons (.nil 3) (.cons (.nil 1) (.refl _)));by_cases hw:m3 p=0
 ·rw [hw] at hy
  have hm:=HD hw
  cases ha:(fU p 0 p.ae).any fun b=>decide (400<b.ins.length) with
  | true=>
   have e:ofP p=(wq,2):=by rw [ofP,if_neg (by simp [hw]),ha];rfl
   rw [e];refine Ret.res (I4 p hp hm hy J2 2 (fun _ _ _=>⟨rfl,rfl⟩) fun hall=>?_) (.tuple (.cons hno (.refl _)));obtain ⟨b,hb,hl⟩:=List.any_eq_true.1 ha;obtain ⟨j,hj,rfl⟩:=List.mem_iff_getElem.1 hb;rw [eY] at hj;have:=jC p p.ae 0 j hj;rw [Nat.zero_add] at this;have h2:=(List.getElem?_eq_some_iff.1 this).2;rw [h2] at hl;exact absurd (by simpa using hl) (hall j hj hj)
  | false=>
   have e:ofP p=(db p,0):=by rw [ofP,if_neg (by simp [hw]),ha];rfl
   rw [e];refine I4 p hp hm hy _ 0 (fun j hj hl=>?_) fun _=>⟨rfl,rfl⟩
   have:=jC p p.ae 0 j hj;rw [Nat.zero_add] at this;have h2:=List.any_eq_false.1 ha _ (List.mem_of_getElem? this);simp at h2;omega
 ·have e:ofP p=(wq,m3 p):=by rw [ofP,if_pos hw]
  rw [e];refine Ret.res (r:=.tuple [J2,I (m3 p)]) ?_ (.tuple (.cons hno (.refl _)));generalize m3 p=w at *;refine az s7 rfl ?_
  repeat (first|refine aw ?_|refine f1 ?_|refine m1 ?_)
  exact ak rfl rfl rfl rfl rfl
end Uw.Tryz
namespace Uw.Tryz
open Go Uw
def dI (i:In4):Int×Int:=
 if i.op=1\/i.op=2\/i.op=4 then (0,1)
 else if i.op=3\/i.op=5\/i.op=12\/i.op=16\/i.op=17\/i.op=18 then (1,0)
 else if (6<=i.op/\i.op<=10)\/i.op=19 then (2,1)
 else if i.op=11 then (i.c,1)
 else if i.op=13 then (i.b,0)
 else (0,0)
def onI (i:In4) (k:Int):List Int:=if i.op=15 then [i.a] else if i.op=16 then [k+1,i.a] else if i.op=17 then [] else [k+1]
def hTo (n:Nat) (v:Int):List Int->List Int->List Int->Option (List Int×List Int)
 | [],hi,td=>some (hi,td)
 | t::r,hi,td=>
  if t<0\/(n:Int)<=t then none
  else if hi.getD t.toNat 0 = -1 then hTo n v r (hi.set t.toNat v) (td++[t])
  else if hi.getD t.toNat 0=v then hTo n v r hi td
  else none
def pz (ins:List In4):Nat->List Int->List Int->Option (List Int)
 | 0,_,_=>none
 | f+1,hi,td=>match td.getLast? with
  | none=>some hi
  | some k=>
   let i:=ins.getD k.toNat default
   if (dI i).1<0\/hi.getD k.toNat 0<(dI i).1 then none
   else match hTo ins.length (hi.getD k.toNat 0 - (dI i).1+(dI i).2) (onI i k) hi td.dropLast with
    | none=>none
    | some s=>pz ins f s.1 s.2
def iI (ins:List In4):List Int:=
 if ins=[] then [] else if ins.any fun i=>decide (i.op<1)||decide (19<i.op) then []
 else (pz ins (2 * ins.length+2) (0::List.replicate (ins.length - 1) (-1)) [0]).getD []
def fA (c:Cd) (f:Int):List Int:=if f<0\/(c.ae.length:Int)<=f then [] else iI (c.ae.getD f.toNat default).ins
def bm (n m:Int):Bool:=decide (0<=n)&&decide (n<m)
def gC (c:Cd) (i:In4):Bool:=
 let o:=if i.a=1\/i.a=3\/i.a=2 then c.maps else if i.a=4\/i.a=5 then c.stacks else if i.a=6\/i.a=7 then c.chans else 0
 let t:=if i.a=2 then 2 else if i.a=5\/i.a=7 then 0 else 1
 bm i.b o&&decide (i.c=t)
def cr (c:Cd) (f:Bd) (i:In4):Bool:=
 if i.op=1 then bm i.a 4294967296
 else if i.op=2\/i.op=3 then bm i.a f.locals
 else if i.op=4\/i.op=5 then bm i.a (c.cells.length:Nat)
 else if i.op=11 then gC c i
 else if i.op=13 then bm i.a (c.ae.length:Nat)&&decide (i.b=(c.ae.getD i.a.toNat default).args)&&(decide (i.c = -1)||bm i.c f.locals)
 else true
def jn (c:Cd) (f:Bd):Bool:=
 !(decide (f.args<0)||decide (f.locals<f.args)||decide (16<f.locals))&&!(decide (f.ins.length<1)||decide (400<f.ins.length)||decide ((iI f.ins).length=0))&&f.ins.all (cr c f)
def wz (c:Cd):Bool:=
 !(decide (c.ae.length<1)||decide (32<c.ae.length)||!bm c.main (c.ae.length:Nat))&&!(!decide ((c.ae.getD c.main.toNat default).args=0)||decide (16<c.cells.length))&&(c.cells.all fun v=>bm v 4294967296)
 &&bm c.maps 9&&bm c.stacks 9&&bm c.chans 9&&c.ae.all (jn c)
structure MU (ins:List In4) (H:Nat->Int):Prop where
 ops:∀i∈ins,1<=i.op/\i.op<=19
 zero:H 0=0
 pos:∀k,0<=H k
 step:∀(k:Nat) (h:k<ins.length),0<=(dI ins[k]).1/\(dI ins[k]).1<=H k/\∀t∈onI ins[k] (k:Int),0<=t/\t<ins.length/\H t.toNat=H k - (dI ins[k]).1+(dI ins[k]).2
structure J3 (n:Nat) (H:Nat->Int) (hi td:List Int):Prop where
 len:hi.length=n
 val:∀(k:Nat),k<n->hi.getD k 0 = -1\/hi.getD k 0=H k
 todo:∀t∈td,0<=t/\t<n/\hi.getD t.toNat 0=H t.toNat
theorem HV {n:Nat} {H:Nat->Int} (hp:∀k,0<=H k) {v:Int}:∀(l hi td:List Int),J3 n H hi td->(∀t∈l,0<=t/\t<n/\H t.toNat=v)->
  ∃hi' td',hTo n v l hi td=some (hi',td')/\J3 n H hi' td'/\2 * hi'.count (-1)+td'.length<=2 * hi.count (-1)+td.length/\∀k,k<n->hi.getD k 0≠-1->hi'.getD k 0=hi.getD k 0
 | [],hi,td,h,_=>⟨hi,td,rfl,h,Nat.le_refl _,fun _ _ _=>rfl⟩
 | t::r,hi,td,h,hl=>by
  obtain ⟨h1,h2,h3⟩:=hl t (by simp);have hr:∀u∈r,0<=u/\u<n/\H u.toNat=v:=fun u hu=>hl u (by simp [hu]);have htl:t.toNat<hi.length:=by rw [h.len];omega
  rw [hTo,if_neg (by omega)];by_cases e:hi.getD t.toNat 0 = -1
  ·rw [if_pos e]
   have hset:∀k,k<n->(hi.set t.toNat v).getD k 0=if k=t.toNat then v else hi.getD k 0:=fun k hk=>by
    simp only [List.getD,List.getElem?_set];by_cases hkt:t.toNat=k
    ·rw [if_pos hkt,if_pos hkt.symm,if_pos htl];rfl
    ·rw [if_neg hkt,if_neg (fun h=>hkt h.symm)]
   have hat:J3 n H (hi.set t.toNat v) (td++[t]):=by
    refine ⟨by rw [List.length_set];exact h.len,fun k hk=>?_,fun u hu=>?_⟩
    ·rw [hset k hk]
     by_cases hkt:k=t.toNat
     ·subst hkt;rw [if_pos rfl];exact .inr h3.symm
     ·rw [if_neg hkt];exact h.val k hk
    ·rcases List.mem_append.1 hu with hu|hu
     ·obtain ⟨a1,a2,a3⟩:=h.todo u hu
      refine ⟨a1,a2,?_⟩;rw [hset _ (by omega)]
      split
      ·rename_i hh;rw [hh];exact h3.symm
      ·exact a3
     ·simp at hu;subst hu
      exact ⟨h1,h2,by rw [hset _ (by omega),if_pos rfl];exact h3.symm⟩
   obtain ⟨hi',td',e1,e2,e3,e4⟩:=HV hp r _ _ hat hr;have hv:v≠-1:=by have:=hp t.toNat;omega
   have hcount:(hi.set t.toNat v).count (-1)+1=hi.count (-1):=by
    have hg:hi[t.toNat] = -1:=by simpa [List.getD,htl] using e
    rw [List.count_set htl];have hpos:0<hi.count (-1):=List.count_pos_iff.2 (hg ▸ List.getElem_mem htl);simp [hg,hv];omega
   refine ⟨hi',td',e1,e2,?_,fun k hk hne=>?_⟩
   ·rw [List.length_append,List.length_cons,List.length_nil] at e3;omega
   ·have hkt:k≠t.toNat:=fun hh=>hne (by rw [hh];exact e)
    have:=e4 k hk (by rw [hset k hk,if_neg hkt];exact hne);rw [this,hset k hk,if_neg hkt]
  ·rw [if_neg e]
   have e2:hi.getD t.toNat 0=v:=by
    rcases h.val t.toNat (by omega) with hh|hh
    ·exact absurd hh e
    ·rw [hh];exact h3
   rw [if_pos e2];exact HV hp r hi td h hr
theorem Gs {ins:List In4} {H:Nat->Int} (h:MU ins H):∀(f:Nat) (hi td:List Int),J3 ins.length H hi td->2 * hi.count (-1)+td.length<f->∃hi',pz ins f hi td=some hi'/\hi'.length=ins.length/\(∀k,k<ins.length->hi'.getD k 0 = -1\/hi'.getD k 0=H k)/\∀k,k<ins.length->hi.getD k 0≠-1->hi'.getD k 0=hi.getD k 0
 | 0,_,_,_,hf=>by omega
 | f+1,hi,td,hat,hf=>by
  rw [pz]
  cases ht:td.getLast? with
  | none=>exact ⟨hi,rfl,hat.len,hat.val,fun _ _ _=>rfl⟩
  | some k=>
   have hne:td≠[]:=by intro e;subst e;cases ht
   have hsp:td=td.dropLast++[k]:=by
    rw [List.getLast?_eq_some_getLast hne] at ht;injection ht with ht
    rw [<- ht];exact (List.dropLast_concat_getLast hne).symm
   obtain ⟨a1,a2,a3⟩:=hat.todo k (by rw [hsp];simp);have hk:k.toNat<ins.length:=by omega
   have hins:ins.getD k.toNat default=ins[k.toNat]:=by simp [List.getD,hk]
   obtain ⟨b1,b2,b3⟩:=h.step k.toNat hk;simp only [hins,a3];rw [if_neg (by omega)];have hkk:((k.toNat:Nat):Int)=k:=by omega
   rw [hkk] at b3;have Ve:J3 ins.length H hi td.dropLast:=⟨hat.len,hat.val,fun t hm=>hat.todo t ((List.dropLast_sublist td).subset hm)⟩
   obtain ⟨hi',td',e1,e2,e3,e4⟩:=HV h.pos (onI ins[k.toNat] k) hi td.dropLast Ve b3;rw [e1];have hlen:td.length=td.dropLast.length+1:=by rw [List.length_dropLast];have:=List.length_pos_iff.2 hne;omega
   obtain ⟨hi2,f1,f2,f3,f4⟩:=Gs h f hi' td' e2 (by omega);refine ⟨hi2,f1,f2,f3,fun m hm hmn=>?_⟩;rw [f4 m hm (by rw [e4 m hm hmn];exact hmn),e4 m hm hmn]
theorem I5 {ins:List In4} {H:Nat->Int} (h:MU ins H) (hne:ins≠[]):(iI ins).length=ins.length/\∀k,k<ins.length->(iI ins).getD k 0 = -1\/(iI ins).getD k 0=H k:=by
 have hpos:=List.length_pos_iff.2 hne;have ha:(ins.any fun i=>decide (i.op<1)||decide (19<i.op))=false:=List.any_eq_false.2 fun i hi=>by
  have:=h.ops i hi;simp;omega
 have hat:J3 ins.length H (0::List.replicate (ins.length - 1) (-1)) [0]:=by
  refine ⟨by simp;omega,fun k hk=>?_,fun t ht=>?_⟩
  ·cases k with
   | zero=>exact .inr (by simp [h.zero])
   | succ k=>
    refine .inl ?_;simp only [List.getD,List.getElem?_cons_succ];rw [List.getElem?_replicate,if_pos (by omega)];rfl
  ·simp at ht;subst ht
   exact ⟨by omega,by omega,by simp [h.zero]⟩
 have hc:2 * (0::List.replicate (ins.length - 1) (-1:Int)).count (-1)+([0]:List Int).length<2 * ins.length+2:=by
  rw [List.count_cons,List.count_replicate];simp;omega
 obtain ⟨hi',e1,e2,e3,_⟩:=Gs h _ _ _ hat hc;rw [iI,if_neg hne,ha,e1];exact ⟨e2,e3⟩
end Uw.Tryz
namespace Uw.Tryz
open Go Uw
set_option maxHeartbeats 1000000 in
theorem wA (i:In4):Ret P0 iz [.agg (in4 i)] (.tuple [I (dI i).1,I (dI i).2]):=by
 obtain ⟨o,a,b,c⟩:=i;show Ret P0 iz [.agg [I o,I a,I b,I c]] (.tuple [I (dI ⟨o,a,b,c⟩).1,I (dI ⟨o,a,b,c⟩).2]);by_cases k1:o=1
 ·subst k1;refine az bf rfl ?_;repeat refine aw ?_
  exact ak rfl rfl rfl rfl rfl
 by_cases k2:o=2
 ·subst k2;refine az bf rfl ?_;repeat refine aw ?_
  exact ak rfl rfl rfl rfl rfl
 by_cases k4:o=4
 ·subst k4;refine az bf rfl ?_;repeat refine aw ?_
  exact ak rfl rfl rfl rfl rfl
 by_cases k3:o=3
 ·subst k3;refine az bf rfl ?_;repeat refine aw ?_
  exact ak rfl rfl rfl rfl rfl
 by_cases k5:o=5
 ·subst k5;refine az bf rfl ?_;repeat refine aw ?_
  exact ak rfl rfl rfl rfl rfl
 by_cases k12:o=12
 ·subst k12;refine az bf rfl ?_;repeat refine aw ?_
  exact ak rfl rfl rfl rfl rfl
 by_cases k16:o=16
 ·subst k16;refine az bf rfl ?_;repeat refine aw ?_
  exact ak rfl rfl rfl rfl rfl
 by_cases k17:o=17
 ·subst k17;refine az bf rfl ?_;repeat refine aw ?_
  exact ak rfl rfl rfl rfl rfl
 by_cases k18:o=18
 ·subst k18;refine az bf rfl ?_;repeat refine aw ?_
  exact ak rfl rfl rfl rfl rfl
 by_cases k6:o=6
 ·subst k6;refine az bf rfl ?_;repeat refine aw ?_
  exact ak rfl rfl rfl rfl rfl
 by_cases k7:o=7
 ·subst k7;refine az bf rfl ?_;repeat refine aw ?_
  exact ak rfl rfl rfl rfl rfl
 by_cases k8:o=8
 ·subst k8;refine az bf rfl ?_;repeat refine aw ?_
  exact ak rfl rfl rfl rfl rfl
 by_cases k9:o=9
 ·subst k9;refine az bf rfl ?_;repeat refine aw ?_
  exact ak rfl rfl rfl rfl rfl
 by_cases k10:o=10
 ·subst k10;refine az bf rfl ?_;repeat refine aw ?_
  exact ak rfl rfl rfl rfl rfl
 by_cases k19:o=19
 ·subst k19;refine az bf rfl ?_;repeat refine aw ?_
  exact ak rfl rfl rfl rfl rfl
 by_cases k11:o=11
 ·subst k11;refine az bf rfl ?_;repeat refine aw ?_
  exact ak rfl rfl rfl rfl rfl
 by_cases k13:o=13
 ·subst k13;refine az bf rfl ?_;repeat refine aw ?_
  exact ak rfl rfl rfl rfl rfl
 have e:dI ⟨o,a,b,c⟩=(0,0):=by
  rw [dI,if_neg (by simp only;omega),if_neg (by simp only;omega),if_neg (by simp only;omega),if_neg (by simp only;omega),if_neg (by simp only;omega)]
 rw [e];refine az bf rfl ?_;repeat refine aw ?_
 exact ak rfl rfl rfl rfl rfl
theorem wB (i:In4) (k:Int) (hk:0<=k/\k<1000000):Ret P0 iC [.agg (in4 i),I k] (bT (onI i k)):=by
 obtain ⟨o,a,b,c⟩:=i;show Ret P0 iC [.agg [I o,I a,I b,I c],I k] (bT (onI ⟨o,a,b,c⟩ k));by_cases k15:o=15
 ·subst k15
  refine Ret.res (r:=.slice 1 [[I a]] true) ?_ (.slice (.refl _));refine az gA rfl ?_;repeat refine aw ?_
  exact ak rfl rfl rfl rfl rfl
 by_cases k16:o=16
 ·subst k16
  refine Ret.res (r:=.slice 1 [[I (k+1)],[I a]] true) ?_ (.slice (.refl _));refine az gA rfl ?_;repeat refine aw ?_
  exact ak rfl rfl rfl rfl rfl
 by_cases k17:o=17
 ·subst k17
  refine Ret.res (r:=.nil) ?_ (.nil 1);refine az gA rfl ?_;repeat refine aw ?_
  exact ak rfl rfl rfl rfl rfl
 have e:onI ⟨o,a,b,c⟩ k=[k+1]:=by rw [onI,if_neg k15,if_neg k16,if_neg k17]
 rw [e];refine Ret.res (r:=.slice 1 [[I (k+1)]] true) ?_ (.slice (.refl _));refine az gA rfl ?_;repeat refine aw ?_
 exact ak rfl rfl rfl rfl rfl
theorem bV (n m:Int):Ret P0 lx [I n,I m] (.bool (bm n m)):=by
 by_cases h:0<=n
 ·have e:bm n m=decide (n<m):=by rw [bm,decide_eq_true h,Bool.true_and]
  rw [e];refine az pg rfl ?_;repeat refine aw ?_
  exact ak rfl rfl rfl rfl rfl
 ·have e:bm n m=false:=by rw [bm,decide_eq_false h,Bool.false_and]
  rw [e];refine az pg rfl ?_;repeat refine aw ?_
  exact ak rfl rfl rfl rfl rfl
end Uw.Tryz
namespace Uw.Tryz
open Go Uw
abbrev rw1 (l:List Int):List (List Dat):=l.map fun i=>[I i]
abbrev J4 (c:Cd):Blk:=.var [.d (.slice 3 (c.ae.map bdC) false),.d (bT c.cells),.d (I c.maps),.d (I c.stacks),.d (I c.chans),.d (I c.main)]
abbrev Vf (c:Cd) (f:Int) (ins:List (List Dat)) (n:Nat) (R:Nat->List (List Dat)) (j:Nat):St:=⟨[(46,.d (I j)),(45,.d (I (ins.length:Nat))),(44,.d (.slice 4 ins false)),(6,.ref 1 0 0 n),(5,.d (.slice 4 ins false)),(4,.d .nil),(2,.ptr 0 0)],[(1,.mt 1 0 (R j)),(0,J4 c)],2,[],0⟩
structure HtX where
 hi:List Int
 td:List Int
 v:Nat
 jk:List (List Dat)
def Vg (c:Cd) (ins:List (List Dat)) (n:Nat):HtX->St
 | ⟨hi,td,v,jk⟩=>⟨[(9,.ref 2 v 0 (rw1 td).length),(6,.ref 1 0 0 n),(5,.d (.slice 4 ins false)),(4,.d .nil),(2,.ptr 0 0)],[(2,.mt 1 v (rw1 td++jk)),(1,.mt 1 0 (rw1 hi)),(0,J4 c)],3,[],0⟩
def S8 (c:Cd) (ins:List (List Dat)) (n:Nat) (k w:Int) (on:List Int):Nat×HtX->St
 | (j,⟨hi,td,v,jk⟩)=>⟨[(113,.d (I j)),(112,.d (I ((rw1 on).length:Nat))),(111,.d (bT on)),(13,.d (I w)),(10,.d (I k)),(9,.ref 2 v 0 (rw1 td).length),(6,.ref 1 0 0 n),(5,.d (.slice 4 ins false)),(4,.d .nil),(2,.ptr 0 0)],[(2,.mt 1 v (rw1 td++jk)),(1,.mt 1 0 (rw1 hi)),(0,J4 c)],3,[],0⟩
structure HtI (n:Nat) (x:HtX):Prop where
 len:x.hi.length=n
 val:∀h∈x.hi,-1<=h/\h+(x.hi.count (-1):Nat)<=(n:Int)
 td:∀t∈x.td,0<=t/\t<(n:Int)/\0<=x.hi.getD t.toNat 0
def ln (x:HtX):Nat:=2 * x.hi.count (-1)+x.td.length
theorem HW {l:List Int} {i:Nat} (h:i<l.length) (e:l.getD i 0 = -1) {v:Int} (hv:v≠-1):(l.set i v).count (-1)+1=l.count (-1):=by
 have hg:l[i] = -1:=by simpa [List.getD,h] using e
 have hpos:0<l.count (-1):=List.count_pos_iff.2 (hg ▸ List.getElem_mem h);rw [List.count_set h];simp [hg,hv];omega
theorem Ea {l:List Int} {t:Int} (h0:0<=t) (h:t<(l.length:Int)):(rw1 l)[0+t.toNat]? = some [I (l.getD t.toNat 0)]:=by
 have hl:t.toNat<l.length:=by omega
 rw [Nat.zero_add,List.getElem?_map,List.getElem?_eq_getElem hl,List.getD,List.getElem?_eq_getElem hl];rfl
theorem vz (l:List Int) (t:Nat) (v w:Int):(rw1 l).set (0+t) (setAt [I w] 0 [I v])=rw1 (l.set t v):=by
 simp [rw1,List.map_set,setAt]
theorem HtI.push {n:Nat} {x:HtX} (h:HtI n x) {t v:Int} (h1:0<=t) (h2:t<(n:Int)) (e:x.hi.getD t.toNat 0 = -1) (hv:0<=v) (hc:v+(x.hi.count (-1):Nat)<=(n:Int)+1) (w:Nat) :
  HtI n ⟨x.hi.set t.toNat v,x.td++[t],w,[]⟩/\ln ⟨x.hi.set t.toNat v,x.td++[t],w,[]⟩<ln x/\((x.hi.set t.toNat v).count (-1):Nat)<=(x.hi.count (-1):Nat):=by
 have hl:t.toNat<x.hi.length:=by rw [h.len];omega
 have hct:=HW hl e (show v≠-1 by omega);refine ⟨⟨by rw [List.length_set];exact h.len,fun a ha=>?_,fun u hu=>?_⟩,?_,by omega⟩
 ·rcases List.mem_or_eq_of_mem_set ha with ha|rfl
  ·have:=h.val a ha
   refine ⟨this.1,?_⟩;simp only at *;omega
  ·refine ⟨by omega,?_⟩
   simp only at *;omega
 ·simp only at hu ⊢
  have hg:∀k:Nat,(x.hi.set t.toNat v).getD k 0=if k=t.toNat then v else x.hi.getD k 0:=fun k=>by
   simp only [List.getD,List.getElem?_set];by_cases hkt:t.toNat=k
   ·rw [if_pos hkt,if_pos hkt.symm,if_pos hl];rfl
   ·rw [if_neg hkt,if_neg (fun h=>hkt h.symm)]
  rcases List.mem_append.1 hu with hu|hu
  ·obtain ⟨a1,a2,a3⟩:=h.td u hu
   refine ⟨a1,a2,?_⟩;rw [hg];split
   ·exact hv
   ·exact a3
  ·simp only [List.mem_singleton] at hu;subst hu
   exact ⟨h1,h2,by rw [hg,if_pos rfl];exact hv⟩
 ·simp only [ln,List.length_append,List.length_singleton];omega
theorem MV (i:In4):(dI i).2=0\/(dI i).2=1:=by
 unfold dI
 repeat' split
 all_goals simp
theorem S9 (i:In4) (k:Int):(onI i k).length<=2:=by
 unfold onI
 repeat' split
 all_goals simp
def P9 (n:Nat) (v:Int) (on:List Int) (HR:Option (List Int×List Int)) (M:Nat) (y:Nat×HtX):Prop:=
 y.1<=on.length/\HtI n y.2/\hTo n v (on.drop y.1) y.2.hi y.2.td=HR/\ln y.2<=M/\v+(y.2.hi.count (-1):Nat)<=(n:Int)+1
def MW (ins:List In4) (R:Option (List Int)) (x:HtX):Prop:=(HtI ins.length x/\ln x<=1000000)/\∃fu,ln x<fu/\pz ins fu x.hi x.td=R
set_option maxRecDepth 8000 in
set_option maxHeartbeats 4000000 in
theorem ql (c:Cd) (f:Nat) (ba bl:Int) (ins:List In4) (D:Dat) (hb:c.ae[f]? = some ⟨ba,bl,ins⟩) (hpos:0<ins.length) (hfew:ins.length<=100000) (hbad:(ins.any fun i=>decide (i.op<1)||decide (19<i.op))=true->D = .nil)
  (hgood:(ins.any fun i=>decide (i.op<1)||decide (19<i.op))=false->∀R,pz ins (2 * ins.length+2) (0::List.replicate (ins.length - 1) (-1)) [0]=R->(R=none->D = .nil)/\∀hi,R=some hi->D = .slice 1 (rw1 hi) false):Ret P0 dz [cdD c,I (f:Nat)] D:=by
 have hfl:=(List.getElem?_eq_some_iff.1 hb).1;have hfi:(f:Int)<((c.ae.map bdC).length:Nat):=by rw [List.length_map];omega
 have hel:(c.ae.map bdC)[(f:Int).toNat]? = some [I ba,I bl,.slice 4 (ins.map in4) false]:=by simp [hb,bdC]
 have hnl:(ins.map in4).length=ins.length:=by simp
 have hinl:∀(j:Nat) (h:j<ins.length),(ins.map in4)[(j:Int).toNat]? = some (in4 ins[j]):=fun j h=>by simp [h]
 obtain ⟨R,hR⟩:∃R:Nat->List (List Dat),∀j,R j=rw1 (List.replicate j (-1)++List.replicate (ins.length - j) 0):=⟨_,fun _=>rfl⟩
 have hR0:R 0=List.replicate (((ins.map in4).length:Nat):Int).toNat [Dat.int .i64 0]:=by rw [hR];simp [rw1]
 have Ta:∀(j:Nat),j<ins.length->(R j)[0+(j:Int).toNat]? = some [I 0]/\(R j).set (0+(j:Int).toNat) (setAt [I 0] 0 [I (-1)])=R (j+1):=fun j h=>by
  have hjl:((j:Nat):Int)<((List.replicate j (-1:Int)++List.replicate (ins.length - j) 0).length:Nat):=by simp;omega
  refine ⟨?_,?_⟩
  ·rw [hR,Ea (by omega) hjl]
   simp [List.getD,List.getElem?_append,List.getElem?_replicate,show 0<ins.length - j by omega]
  ·rw [hR,vz,hR,Int.toNat_natCast]
   obtain ⟨m,hm⟩:∃m,ins.length - j=m+1:=⟨ins.length - j - 1,by omega⟩
   have e:((List.replicate j (-1:Int))++0::List.replicate m 0).set j (-1)=List.replicate j (-1)++-1::List.replicate m 0:=by
    have:j=(List.replicate j (-1:Int)).length:=by simp
    conv=>lhs;arg 2;rw [this]
    rw [List.set_append_right _ _ (Nat.le_refl _),Nat.sub_self];rfl
   rw [hm,List.replicate_succ,e,show ins.length - (j+1)=m by omega,List.replicate_succ' (n:=j)];simp
 have hRn:(R ins.length)[0+(0:Int).toNat]? = some [I (-1)]/\(R ins.length).set (0+(0:Int).toNat) (setAt [I (-1)] 0 [I 0])=rw1 (0::List.replicate (ins.length - 1) (-1)):=by
  obtain ⟨m,hm⟩:∃m,ins.length=m+1:=⟨ins.length - 1,by omega⟩
  rw [hR,hm,Nat.sub_self];refine ⟨rfl,?_⟩;show (rw1 _).set (0+0) _=_;rw [vz];simp [List.replicate_succ]
 clear hR;refine az fQ rfl ?_
 repeat (first|refine aw ?_|refine f1 ?_|refine m1 ?_)
 refine cb ins.length (Vf c f (ins.map in4) ins.length R) (fun j=>∀h:j<ins.length,¬(ins[j].op<1\/19<ins[j].op)) (cX (by rw [Vf,hR0]) ?_) (fun hgo=>?_) (fun j hj hpre=>?_)
 ·exact Uw.wM
 rotate_left 1
 ·have he:=hinl j hj
  obtain ⟨r1,r2⟩:=Ta j hj;have hb1:(ins[j].op<1\/19<ins[j].op)->D = .nil:=fun h=>hbad (List.any_eq_true.2 ⟨ins[j],List.getElem_mem hj,by simpa using h⟩);have hg1:¬(ins[j].op<1\/19<ins[j].op)->∀h:j<ins.length,¬(ins[j].op<1\/19<ins[j].op):=fun h _=>h;clear hbad hgood hinl Ta hRn;generalize ins[j]=i at *;obtain ⟨io,ia,ib,ic⟩:=i;have he:(ins.map in4)[(j:Int).toNat]? = some [I io,I ia,I ib,I ic]:=he;simp only at hb1 hg1;by_cases q1:io<1
  ·obtain rfl:=hb1 (.inl q1)
   repeat (first|refine aw ?_|refine f1 ?_)
   exact bj (ak rfl rfl rfl rfl rfl)
  by_cases q2:19<io
  ·obtain rfl:=hb1 (.inr q2)
   repeat (first|refine aw ?_|refine f1 ?_)
   exact bj (ak rfl rfl rfl rfl rfl)
  have hg1:=hg1 (by omega)
  repeat (first|refine aw ?_|refine f1 ?_)
  exact aJ j hg1 (by exact Uw.wM)
 obtain ⟨hgn,hgs⟩:=hgood (List.any_eq_false.2 fun i hi=>by
  obtain ⟨j,hj,rfl⟩:=List.mem_iff_getElem.1 hi;have:=hgo j hj hj;simpa using this) _ rfl
 obtain ⟨rn1,rn2⟩:=hRn;clear hbad hgood Ta hgo;have hx0:MW ins (pz ins (2 * ins.length+2) (0::List.replicate (ins.length - 1) (-1)) [0]) ⟨0::List.replicate (ins.length - 1) (-1),[0],0,[]⟩:=by
  have hcn:(0::List.replicate (ins.length - 1) (-1:Int)).count (-1)=ins.length - 1:=by rw [List.count_cons,List.count_replicate];simp
  refine ⟨⟨⟨by simp;omega,fun h hh=>?_,fun t ht=>?_⟩,?_⟩,_,?_,rfl⟩
  ·simp only [hcn]
   rcases List.mem_cons.1 hh with rfl|hh
   ·omega
   ·obtain ⟨_,rfl⟩:=List.mem_replicate.1 hh;omega
  ·simp at ht;subst ht;exact ⟨by omega,by omega,by simp⟩
  ·rw [ln];simp only [hcn,List.length_singleton];omega
  ·rw [ln];simp only [hcn,List.length_singleton];omega
 generalize pz ins (2 * ins.length+2) (0::List.replicate (ins.length - 1) (-1)) [0]=HR at *
 repeat (first|refine aw ?_|refine f1 ?_)
 refine aC ?_
 repeat (first|refine aw ?_|refine f1 ?_)
 refine dG (Vg c (ins.map in4) ins.length) (MW ins HR) ln ⟨0::List.replicate (ins.length - 1) (-1),[0],0,[]⟩ (cX (by rw [Vg,<- rn2]) ?_) hx0 ?_
 ·exact Uw.wM
 clear hx0 rn1 rn2 hpos hel hfi hfl hb;rintro ⟨hi,td,v,jk⟩ ⟨⟨hI,hmu⟩,fu,hfu,hRR⟩;obtain ⟨fu,rfl⟩:∃k,fu=k+1:=⟨fu - 1,by omega⟩
 have hl:=hI.len;simp only at hRR hl;have hrl:(rw1 hi).length=hi.length:=by simp
 have Wl:(rw1 td).length=td.length:=by simp
 rcases List.eq_nil_or_concat td with rfl|⟨td',k,rfl⟩
 ·have hRR:some hi=HR:=hRR
  have hD:=hgs hi hRR.symm;have e:((rw1 hi).drop 0).take ins.length=rw1 hi:=by rw [List.drop_zero,List.take_of_length_le (by rw [hrl,hl];exact Nat.le_refl _)]
  rw [<- e] at hD;rw [hD]
  repeat (first|refine aw ?_|refine f1 ?_)
  refine aC ?_
  repeat (first|refine aw ?_|refine f1 ?_)
  exact ak rfl rfl rfl rfl rfl
 rw [List.concat_eq_append] at *;obtain ⟨k0,kn,kh⟩:=hI.td k (by simp);have hlast:(rw1 (td'++[k])++jk)[0+((((rw1 (td'++[k])).length:Nat):Int) - 1).toNat]? = some [I k]:=by
  have e:0+((((rw1 (td'++[k])).length:Nat):Int) - 1).toNat=(rw1 td').length:=by simp
  rw [e,rw1,List.map_append,List.append_assoc];simp
 have hlen1:(rw1 (td'++[k])).length=(rw1 td').length+1:=by simp
 have hrow:rw1 td'++[I k]::jk=rw1 (td'++[k])++jk:=by simp [rw1]
 have hkl:k.toNat<ins.length:=by omega
 have hek:(ins.map in4)[k.toNat]? = some (in4 (ins.getD k.toNat default)):=by simp [List.getD,hkl]
 have hrk:=Ea (l:=hi) k0 (by rw [hl];exact kn);have hq:(if (dI (ins.getD k.toNat default)).1<0\/hi.getD k.toNat 0<(dI (ins.getD k.toNat default)).1 then none
   else match hTo ins.length (hi.getD k.toNat 0 - (dI (ins.getD k.toNat default)).1+(dI (ins.getD k.toNat default)).2) (onI (ins.getD k.toNat default) k) hi td' with
    | none=>none
    | some s=>pz ins fu s.1 s.2)=HR:=by
  rw [pz] at hRR;simp only [List.getLast?_append,List.getLast?_singleton,Option.some_or,List.dropLast_concat] at hRR;exact hRR
 have heff:=wA (ins.getD k.toNat default);have hon:=wB (ins.getD k.toNat default) k ⟨k0,by omega⟩;have hpu:=MV (ins.getD k.toNat default);have hol:=S9 (ins.getD k.toNat default) k;have hh : -1<=hi.getD k.toNat 0/\hi.getD k.toNat 0+(hi.count (-1):Nat)<=(ins.length:Int):=by
  have hkl2:k.toNat<hi.length:=by rw [hl];exact hkl
  have:hi.getD k.toNat 0∈hi:=by rw [List.getD,List.getElem?_eq_getElem hkl2];exact List.getElem_mem hkl2
  exact hI.val _ this
 have hI' : HtI ins.length ⟨hi,td',v,[I k]::jk⟩:=⟨hI.len,hI.val,fun t ht=>hI.td t (by simp [ht])⟩
 have Wm : ln ⟨hi,td',v,[I k]::jk⟩+1=ln ⟨hi,td'++[k],v,jk⟩:=by simp [ln];omega
 have WE:(ins.map in4).length=ins.length:=by simp
 clear hRR hI;simp only at kh;generalize onI (ins.getD k.toNat default) k=on at *;generalize (dI (ins.getD k.toNat default)).1=tk at *;generalize (dI (ins.getD k.toNat default)).2=pu at *;generalize ins.getD k.toNat default=i0 at *;obtain ⟨io,ia,ib,ic⟩:=i0;have hek:(ins.map in4)[k.toNat]? = some [I io,I ia,I ib,I ic]:=hek;have heff:Ret P0 iz [.agg [I io,I ia,I ib,I ic]] (.tuple [I tk,I pu]):=heff;have hon:Ret P0 iC [.agg [I io,I ia,I ib,I ic],I k] (bT on):=hon;obtain ⟨h,hh0⟩:∃h,hi.getD k.toNat 0=h:=⟨_,rfl⟩
 rw [hh0] at hrk hq hh kh;have hvv:Nat.beq v v=true:=Nat.beq_refl v;have hp0:(0:Int)<((rw1 (td'++[k])).length:Nat):=by omega
 have htl:td'.length<=1000000:=by have:=hmu;simp only [ln,List.length_append,List.length_singleton] at this;omega
 have hin:inR .i64 ((((rw1 (td'++[k])).length:Nat):Int) - 1)=true:=by simp [inR];omega
 by_cases q1:tk<0
 ·have hq:none=HR:=by rw [if_pos (.inl q1)] at hq;exact hq
  obtain rfl:=hgn hq.symm
  repeat (first|refine aw ?_|refine f1 ?_)
  exact bj (ak rfl rfl rfl rfl rfl)
 by_cases q2:h<tk
 ·have hq:none=HR:=by rw [if_pos (.inr q2)] at hq;exact hq
  obtain rfl:=hgn hq.symm
  repeat (first|refine aw ?_|refine f1 ?_)
  exact bj (ak rfl rfl rfl rfl rfl)
 rw [if_neg (by omega)] at hq;obtain ⟨w,hw⟩:∃w,h - tk+pu=w:=⟨_,rfl⟩
 have hw0:0<=w/\w+(hi.count (-1):Nat)<=(ins.length:Int)+1:=by omega
 have hwn:¬w = -1:=by omega
 rw [hw] at hq;have hTn:hTo ins.length w on hi td' = none->D = .nil:=fun e=>by rw [e] at hq;exact hgn hq.symm
 have hTs:∀s,hTo ins.length w on hi td' = some s->pz ins fu s.1 s.2=HR:=fun s e=>by rw [e] at hq;exact hq
 have Vh:P9 ins.length w on (hTo ins.length w on hi td') (ln ⟨hi,td',v,[I k]::jk⟩) (0,⟨hi,td',v,[I k]::jk⟩):=⟨Nat.zero_le _,hI',rfl,Nat.le_refl _,hw0.2⟩
 have hrl2:(rw1 on).length=on.length:=by simp
 have hin2:inR .i64 (h - tk)=true:=by simp [inR];omega
 have Wn:inR .i64 (h - tk+pu)=true:=by simp [inR];omega
 clear hq;generalize hTo ins.length w on hi td' = HT at *;have hM:ln ⟨hi,td',v,[I k]::jk⟩<1000000:=by omega
 have hfu2:ln ⟨hi,td',v,[I k]::jk⟩<fu:=by omega
 have hM2:ln ⟨hi,td',v,[I k]::jk⟩<ln ⟨hi,td'++[k],v,jk⟩:=by omega
 clear Wm hmu hfu hI' hgn;generalize hMM:ln ⟨hi,td',v,[I k]::jk⟩=M at *
 repeat (first|refine aw ?_|refine f1 ?_)
 refine dG (S8 c (ins.map in4) ins.length k w on) (P9 ins.length w on HT M) (fun y=>on.length - y.1) (0,⟨hi,td',v,[I k]::jk⟩) (cX (by rw [S8,hrow,<- hw]) ?_) Vh ?_
 ·exact Uw.wM
 clear Vh hrow hlast hlen1 hek hrk hh heff hon hpu hp0 hin hvv hw hin2 Wn hrl hl Wl;rintro ⟨j,hi2,td2,v2,jk2⟩ ⟨g1,g2,g3,g4,g5⟩;have g2:HtI ins.length ⟨hi2,td2,v2,jk2⟩:=g2;have g4:ln ⟨hi2,td2,v2,jk2⟩<=M:=g4;simp only at g1 g3 g5;have hl2:=g2.len;simp only at hl2;have hvv:Nat.beq v2 v2=true:=Nat.beq_refl v2;have WN:td2.length<=1000000:=by have:=g4;simp only [ln] at this;omega
 have WO:(rw1 td2).length=td2.length:=by simp
 rcases Nat.lt_or_ge j on.length with hj|hj
 rotate_left 1
 ·have hjn:j=on.length:=Nat.le_antisymm g1 hj
  subst hjn;have hend:some (hi2,td2)=HT:=by rw [List.drop_length,hTo] at g3;exact g3
  have hnext:=hTs _ hend.symm;have hjj:¬(on.length:Int)<((rw1 on).length:Nat):=by omega
  have hinv:MW ins HR ⟨hi2,td2,v2,jk2⟩:=⟨⟨g2,by omega⟩,fu,by omega,hnext⟩
  have hmm:ln ⟨hi2,td2,v2,jk2⟩<ln ⟨hi,td'++[k],v,jk⟩:=by omega
  repeat (first|refine aw ?_|refine f1 ?_)
  refine aC ?_
  repeat (first|refine aw ?_|refine f1 ?_)
  refine cv ⟨hi2,td2,v2,jk2⟩ hinv hmm ?_;exact Uw.wM
 have hjj:(j:Int)<((rw1 on).length:Nat):=by omega
 have heo:(rw1 on)[(j:Int).toNat]? = some [I on[j]]:=by simp [hj]
 rw [List.drop_eq_getElem_cons hj,hTo] at g3;generalize on[j]=t at *;by_cases t1:t<0
 ·rw [if_pos (.inl t1)] at g3
  obtain rfl:=hTn g3.symm
  repeat (first|refine aw ?_|refine f1 ?_)
  exact bj (bj (ak rfl rfl rfl rfl rfl))
 by_cases t2:(ins.length:Int)<=t
 ·rw [if_pos (.inr t2)] at g3
  obtain rfl:=hTn g3.symm;have t3:(((ins.map in4).length:Nat):Int)<=t:=by omega
  repeat (first|refine aw ?_|refine f1 ?_)
  exact bj (bj (ak rfl rfl rfl rfl rfl))
 rw [if_neg (by omega)] at g3;have t3:¬(((ins.map in4).length:Nat):Int)<=t:=by omega
 have hrt:=Ea (l:=hi2) (show 0<=t by omega) (by omega);by_cases e1:hi2.getD t.toNat 0 = -1
 ·rw [if_pos e1] at g3
  obtain ⟨p1,p2,p3⟩:=g2.push (show 0<=t by omega) (by omega) e1 hw0.1 g5 (v2+1);have p2:ln ⟨hi2.set t.toNat w,td2++[t],v2+1,[]⟩<ln ⟨hi2,td2,v2,jk2⟩:=p2;simp only at p3;have hinv:P9 ins.length w on HT M (j+1,⟨hi2.set t.toNat w,td2++[t],v2+1,[]⟩):=⟨hj,p1,g3,by show ln ⟨hi2.set t.toNat w,td2++[t],v2+1,[]⟩<=M;omega,by simp only;omega⟩
  have hmm:on.length - (j+1)<on.length - j:=by omega
  rw [e1] at hrt;have hset:=vz hi2 t.toNat w (-1);obtain ⟨w2,hw2⟩:∃w2,w2=w:=⟨_,rfl⟩
  have WQ:((rw1 hi2).set (0+t.toNat) (setAt [I (-1)] 0 [I w]))[0+t.toNat]? = some [I w2]:=by
   rw [hw2];have:t.toNat<hi2.length:=by omega
   simp [List.getElem?_set,setAt,this]
  have hrow2:rw1 (td2++[t])++([]:List (List Dat))=(rw1 td2++jk2).take (rw1 td2).length++((((List.replicate 1 [Dat.int .i64 0]).set 0 [I t]).drop 0).take 1):=by
   rw [List.take_left];simp [rw1]
  have hby:decide (((rw1 td2).length+1) * 8<=70368744177664)=true:=by rw [decide_eq_true_eq];omega
  clear p1 p2 p3 g2 g3 e1
  repeat (first|refine aw ?_|refine f1 ?_)
  refine cv (j+1,⟨hi2.set t.toNat w,td2++[t],v2+1,[]⟩) hinv hmm (cX (by rw [S8,hrow2,<- hset]) ?_);exact Uw.wM
 rw [if_neg e1] at g3;obtain ⟨h2,hh2⟩:∃h,hi2.getD t.toNat 0=h:=⟨_,rfl⟩
 rw [hh2] at g3 e1 hrt;by_cases e2:h2=w
 ·rw [if_pos e2] at g3
  have hinv:P9 ins.length w on HT M (j+1,⟨hi2,td2,v2,jk2⟩):=⟨hj,g2,g3,g4,g5⟩
  have hmm:on.length - (j+1)<on.length - j:=by omega
  clear g2 g3
  repeat (first|refine aw ?_|refine f1 ?_)
  refine cv (j+1,⟨hi2,td2,v2,jk2⟩) hinv hmm ?_;exact Uw.wM
 ·rw [if_neg e2] at g3
  obtain rfl:=hTn g3.symm
  repeat (first|refine aw ?_|refine f1 ?_)
  exact bj (bj (ak rfl rfl rfl rfl rfl))
end Uw.Tryz
namespace Uw.Tryz
open Go Uw
theorem gG (c:Cd) (hc:c.ae.length<=1000000) (f:Int) (hfew:∀b,c.ae[f.toNat]? = some b->b.ins.length<=100000):Ret P0 dz [cdD c,I f] (bT (fA c f)):=by
 have hml:(c.ae.map bdC).length=c.ae.length:=by simp
 by_cases h1:f<0
 ·have e:fA c f=[]:=by rw [fA,if_pos (.inl h1)]
  rw [e];refine Ret.res (r:=.nil) ?_ (.nil 1);refine az fQ rfl ?_
  repeat refine aw ?_
  exact ak rfl rfl rfl rfl rfl
 by_cases h2:(c.ae.length:Int)<=f
 ·have e:fA c f=[]:=by rw [fA,if_pos (.inr h2)]
  rw [e];refine Ret.res (r:=.nil) ?_ (.nil 1);have h3:((c.ae.map bdC).length:Int)<=f:=by omega
  refine az fQ rfl ?_
  repeat refine aw ?_
  exact ak rfl rfl rfl rfl rfl
 have hlt:f.toNat<c.ae.length:=by omega
 have hb:c.ae[f.toNat]? = some c.ae[f.toNat]:=List.getElem?_eq_getElem hlt;have e:fA c f=iI c.ae[f.toNat].ins:=by rw [fA,if_neg (by omega),List.getD,hb];rfl
 have hf2:=hfew _ hb;clear hfew;rw [e];generalize c.ae[f.toNat]=b at *;obtain ⟨ba,bl,ins⟩:=b;simp only at hf2 ⊢;by_cases h3:ins=[]
 ·subst h3
  have e:iI []=[]:=rfl;rw [e];refine Ret.res (r:=.nil) ?_ (.nil 1);have hel:(c.ae.map bdC)[f.toNat]? = some [I ba,I bl,.slice 4 [] false]:=by simp [hb,bdC]
  refine az fQ rfl ?_
  repeat refine aw ?_
  exact ak rfl rfl rfl rfl rfl
 have hpos:=List.length_pos_iff.2 h3;obtain ⟨k,rfl⟩:∃k:Nat,f=(k:Int):=⟨f.toNat,by omega⟩
 have hb:c.ae[k]? = some ⟨ba,bl,ins⟩:=hb
 cases ha:ins.any fun i=>decide (i.op<1)||decide (19<i.op) with
 | true=>
  have e:iI ins=[]:=by rw [iI,if_neg h3,ha];rfl
  rw [e];exact Ret.res (ql c k ba bl ins .nil hb hpos hf2 (fun _=>rfl) (fun h=>absurd (h.symm.trans ha) (by simp))) (.nil 1)
 | false=>
  have e:iI ins=(pz ins (2 * ins.length+2) (0::List.replicate (ins.length - 1) (-1)) [0]).getD []:=by rw [iI,if_neg h3,ha];rfl
  rw [e]
  cases hR:pz ins (2 * ins.length+2) (0::List.replicate (ins.length - 1) (-1)) [0] with
  | none=>exact Ret.res (ql c k ba bl ins .nil hb hpos hf2 (fun h=>absurd (h.symm.trans ha) (by simp)) (fun _ R hr=>⟨fun _=>rfl,fun hi hs=>absurd (hs.symm.trans (hr.symm.trans hR)) (by simp)⟩)) (.nil 1)
  | some hi=>exact ql c k ba bl ins _ hb hpos hf2 (fun h=>absurd (h.symm.trans ha) (by simp)) (fun _ R hr=>⟨fun hn=>absurd (hn.symm.trans (hr.symm.trans hR)) (by simp),fun hi2 hs=>by rw [hR] at hr;rw [<- hr] at hs;injection hs with hs;rw [<- hs];rfl⟩)
set_option maxHeartbeats 2000000 in
theorem wC (c:Cd) (i:In4):Ret P0 iD [cdD c,.agg (in4 i)] (.bool (gC c i)):=by
 obtain ⟨fs,cs,m,s,h,mn⟩:=c;obtain ⟨o,a,b,cc⟩:=i;show Ret P0 iD [.agg [.slice 3 (fs.map bdC) false,bT cs,I m,I s,I h,I mn],.agg [I o,I a,I b,I cc]] _;have key:∀x t:Int,∃r,bm b x=r/\Ret P0 lx [I b,I x] (.bool r):=fun x t=>⟨_,rfl,bV b x⟩
 by_cases k1:a=1
 ·subst k1
  obtain ⟨r,hr,hb⟩:=key m 1;have e:gC ⟨fs,cs,m,s,h,mn⟩ ⟨o,1,b,cc⟩=(r&&decide (cc=1)):=by rw [<- hr];rfl
  rw [e]
  cases r
  all_goals
   refine az cV rfl ?_
   repeat refine aw ?_
   exact ak rfl rfl rfl rfl rfl
 by_cases k3:a=3
 ·subst k3
  obtain ⟨r,hr,hb⟩:=key m 1;have e:gC ⟨fs,cs,m,s,h,mn⟩ ⟨o,3,b,cc⟩=(r&&decide (cc=1)):=by rw [<- hr];rfl
  rw [e]
  cases r
  all_goals
   refine az cV rfl ?_
   repeat refine aw ?_
   exact ak rfl rfl rfl rfl rfl
 by_cases k2:a=2
 ·subst k2
  obtain ⟨r,hr,hb⟩:=key m 2;have e:gC ⟨fs,cs,m,s,h,mn⟩ ⟨o,2,b,cc⟩=(r&&decide (cc=2)):=by rw [<- hr];rfl
  rw [e]
  cases r
  all_goals
   refine az cV rfl ?_
   repeat refine aw ?_
   exact ak rfl rfl rfl rfl rfl
 by_cases k4:a=4
 ·subst k4
  obtain ⟨r,hr,hb⟩:=key s 1;have e:gC ⟨fs,cs,m,s,h,mn⟩ ⟨o,4,b,cc⟩=(r&&decide (cc=1)):=by rw [<- hr];rfl
  rw [e]
  cases r
  all_goals
   refine az cV rfl ?_
   repeat refine aw ?_
   exact ak rfl rfl rfl rfl rfl
 by_cases k5:a=5
 ·subst k5
  obtain ⟨r,hr,hb⟩:=key s 0;have e:gC ⟨fs,cs,m,s,h,mn⟩ ⟨o,5,b,cc⟩=(r&&decide (cc=0)):=by rw [<- hr];rfl
  rw [e]
  cases r
  all_goals
   refine az cV rfl ?_
   repeat refine aw ?_
   exact ak rfl rfl rfl rfl rfl
 by_cases k6:a=6
 ·subst k6
  obtain ⟨r,hr,hb⟩:=key h 1;have e:gC ⟨fs,cs,m,s,h,mn⟩ ⟨o,6,b,cc⟩=(r&&decide (cc=1)):=by rw [<- hr];rfl
  rw [e]
  cases r
  all_goals
   refine az cV rfl ?_
   repeat refine aw ?_
   exact ak rfl rfl rfl rfl rfl
 by_cases k7:a=7
 ·subst k7
  obtain ⟨r,hr,hb⟩:=key h 0;have e:gC ⟨fs,cs,m,s,h,mn⟩ ⟨o,7,b,cc⟩=(r&&decide (cc=0)):=by rw [<- hr];rfl
  rw [e]
  cases r
  all_goals
   refine az cV rfl ?_
   repeat refine aw ?_
   exact ak rfl rfl rfl rfl rfl
 obtain ⟨r,hr,hb⟩:=key 0 1;have e:gC ⟨fs,cs,m,s,h,mn⟩ ⟨o,a,b,cc⟩=(r&&decide (cc=1)):=by
  rw [<- hr,gC];simp [k1,k2,k3,k4,k5,k6,k7]
 rw [e]
 cases r
 all_goals
  refine az cV rfl ?_
  repeat refine aw ?_
  exact ak rfl rfl rfl rfl rfl
set_option maxHeartbeats 2000000 in
theorem xU (c:Cd) (hc:c.ae.length<=1000000) (f:Bd) (i:In4):Ret P0 je [cdD c,.agg (bdC f),.agg (in4 i)] (.bool (cr c f i)):=by
 have hca:=wC c i;have hml:(c.ae.map bdC).length=c.ae.length:=by simp
 have hcl:(c.cells.map fun i=>[I i]).length=c.cells.length:=by simp
 obtain ⟨fa,fl,fi⟩:=f;obtain ⟨o,a,b,cc⟩:=i;have hca:Ret P0 iD [cdD c,.agg [I o,I a,I b,I cc]] (.bool (gC c ⟨o,a,b,cc⟩)):=hca;show Ret P0 je [cdD c,.agg [I fa,I fl,.slice 4 (fi.map in4) false],.agg [I o,I a,I b,I cc]] _;by_cases k1:o=1
 ·subst k1
  have hb:=bV a 4294967296;refine az cj rfl ?_
  repeat refine aw ?_
  exact ak rfl rfl rfl rfl rfl
 by_cases k2:o=2
 ·subst k2
  have hb:=bV a fl;refine az cj rfl ?_
  repeat refine aw ?_
  exact ak rfl rfl rfl rfl rfl
 by_cases k3:o=3
 ·subst k3
  have hb:=bV a fl;refine az cj rfl ?_
  repeat refine aw ?_
  exact ak rfl rfl rfl rfl rfl
 by_cases k4:o=4
 ·subst k4
  have hb:=bV a (c.cells.length:Nat);rw [<- hcl] at hb;have e:cr c ⟨fa,fl,fi⟩ ⟨4,a,b,cc⟩=bm a ((c.cells.map fun i=>[I i]).length:Nat):=by rw [hcl];rfl
  rw [e];refine az cj rfl ?_
  repeat refine aw ?_
  exact ak rfl rfl rfl rfl rfl
 by_cases k5:o=5
 ·subst k5
  have hb:=bV a (c.cells.length:Nat);rw [<- hcl] at hb;have e:cr c ⟨fa,fl,fi⟩ ⟨5,a,b,cc⟩=bm a ((c.cells.map fun i=>[I i]).length:Nat):=by rw [hcl];rfl
  rw [e];refine az cj rfl ?_
  repeat refine aw ?_
  exact ak rfl rfl rfl rfl rfl
 by_cases k11:o=11
 ·subst k11
  refine az cj rfl ?_
  repeat refine aw ?_
  exact ak rfl rfl rfl rfl rfl
 by_cases k13:o=13
 ·subst k13
  have hb:=bV a (c.ae.length:Nat);have hd:=bV cc fl;have e0:cr c ⟨fa,fl,fi⟩ ⟨13,a,b,cc⟩=(bm a (c.ae.length:Nat)&&decide (b=(c.ae.getD a.toNat default).args)&&(decide (cc = -1)||bm cc fl)):=rfl;rw [e0];by_cases q1:bm a (c.ae.length:Nat)=true
  ·rw [q1] at hb ⊢
   rw [<- hml] at hb;have q:0<=a/\a<(c.ae.length:Int):=by simpa [bm] using q1
   have hlt:a.toNat<c.ae.length:=by omega
   have hg:c.ae.getD a.toNat default=c.ae[a.toNat]:=by simp [List.getD,hlt]
   have hel:(c.ae.map bdC)[a.toNat]? = some (bdC c.ae[a.toNat]):=by simp [hlt]
   rw [hg];clear e0 q1 hg;generalize c.ae[a.toNat]=g at *;obtain ⟨ga,gl,gi⟩:=g;have hel:(c.ae.map bdC)[a.toNat]? = some [I ga,I gl,.slice 4 (gi.map in4) false]:=hel;simp only [Bool.true_and];by_cases q2:b=ga
   ·rw [decide_eq_true q2,Bool.true_and]
    by_cases q3:cc = -1
    ·rw [decide_eq_true q3,Bool.true_or]
     refine az cj rfl ?_
     repeat refine aw ?_
     exact ak rfl rfl rfl rfl rfl
    ·rw [decide_eq_false q3,Bool.false_or]
     refine az cj rfl ?_
     repeat refine aw ?_
     exact ak rfl rfl rfl rfl rfl
   ·rw [decide_eq_false q2,Bool.false_and]
    refine az cj rfl ?_
    repeat refine aw ?_
    exact ak rfl rfl rfl rfl rfl
  ·have q1:bm a (c.ae.length:Nat)=false:=by simpa using q1
   rw [q1] at hb ⊢;rw [<- hml] at hb;simp only [Bool.false_and];refine az cj rfl ?_
   repeat refine aw ?_
   exact ak rfl rfl rfl rfl rfl
 have e:cr c ⟨fa,fl,fi⟩ ⟨o,a,b,cc⟩=true:=by
  rw [cr,if_neg k1,if_neg (by simp only;omega),if_neg (by simp only;omega),if_neg k11,if_neg k13]
 rw [e];refine az cj rfl ?_
 repeat refine aw ?_
 exact ak rfl rfl rfl rfl rfl
end Uw.Tryz
namespace Uw.Tryz
open Go Uw
abbrev sdS (c:Cd) (ba bl:Int) (ins:List In4) (j:Nat):St:=⟨[(48,.d (I j)),(47,.d (I ((ins.map in4).length:Nat))),(46,.d (.slice 4 (ins.map in4) false)),(5,.ptr 1 0),(4,.d (.bool false)),(2,.ptr 0 0)],[(1,.var [.d (I ba),.d (I bl),.d (.slice 4 (ins.map in4) false)]),(0,J4 c)],2,[],0⟩
set_option maxRecDepth 8000 in
set_option maxHeartbeats 4000000 in
theorem xW (c:Cd) (hc:c.ae.length<=1000000) (k:Nat) (b:Bd) (hb:c.ae[k]? = some b):Ret P0 qw [cdD c,I k] (.bool (jn c b)):=by
 have hlt:=(List.getElem?_eq_some_iff.1 hb).1;have hki:(k:Int)<((c.ae.map bdC).length:Nat):=by rw [List.length_map];omega
 have hel:(c.ae.map bdC)[(k:Int).toNat]? = some [I b.args,I b.locals,.slice 4 (b.ins.map in4) false]:=by simp [hb,bdC]
 have hnl:(b.ins.map in4).length=b.ins.length:=by simp
 have hht:∀h:b.ins.length<=400,Ret P0 dz [cdD c,I k] (bT (iI b.ins)):=fun h=>by
  have:=gG c hc k (fun b2 h2=>by
   rw [show (k:Int).toNat=k from rfl,hb] at h2;injection h2 with h2;subst h2;omega)
  rwa [show fA c k=iI b.ins by rw [fA,if_neg (by omega),List.getD,show (k:Int).toNat=k from rfl,hb];rfl] at this
 have hna:=fun i=>xU c hc b i;obtain ⟨a1,ha1⟩:∃a,decide (b.args<0)=a:=⟨_,rfl⟩
 obtain ⟨hl,hhl⟩:∃hl,(iI b.ins)=hl:=⟨_,rfl⟩
 have hS:jn c b=(!(decide (b.args<0)||decide (b.locals<b.args)||decide (16<b.locals))&&!(decide (b.ins.length<1)||decide (400<b.ins.length)||decide (hl.length=0))&&b.ins.all (cr c b)):=by rw [<- hhl];rfl
 rw [hhl] at hht;rw [hS];clear hhl hS ha1 a1;have hhm:(hl.map fun i=>[I i]).length=hl.length:=by simp
 obtain ⟨ba,bl,ins⟩:=b;simp only at hel hnl hht hna ⊢;by_cases q1:ba<0
 ·simp only [decide_eq_true q1,Bool.true_or,Bool.not_true,Bool.false_and]
  refine az dK rfl ?_
  repeat refine aw ?_
  exact ak rfl rfl rfl rfl rfl
 by_cases q2:bl<ba
 ·simp only [decide_eq_true q2,Bool.or_true,Bool.true_or,Bool.not_true,Bool.false_and]
  refine az dK rfl ?_
  repeat refine aw ?_
  exact ak rfl rfl rfl rfl rfl
 by_cases q3:16<bl
 ·simp only [decide_eq_true q3,Bool.or_true,Bool.not_true,Bool.false_and]
  refine az dK rfl ?_
  repeat refine aw ?_
  exact ak rfl rfl rfl rfl rfl
 simp only [decide_eq_false q1,decide_eq_false q2,decide_eq_false q3,Bool.or_false,Bool.not_false,Bool.true_and];by_cases q4:ins.length<1
 ·simp only [decide_eq_true q4,Bool.true_or,Bool.not_true,Bool.false_and]
  have q5:(((ins.map in4).length:Nat):Int)<1:=by omega
  refine az dK rfl ?_
  repeat refine aw ?_
  exact ak rfl rfl rfl rfl rfl
 have q4' : ¬(((ins.map in4).length:Nat):Int)<1:=by omega
 by_cases q5:400<ins.length
 ·simp only [decide_eq_true q5,Bool.or_true,Bool.true_or,Bool.not_true,Bool.false_and]
  have q6:(400:Int)<((ins.map in4).length:Nat):=by omega
  refine az dK rfl ?_
  repeat refine aw ?_
  exact ak rfl rfl rfl rfl rfl
 have q5' : ¬(400:Int)<((ins.map in4).length:Nat):=by omega
 have hht:=hht (by omega);by_cases q6:hl.length=0
 ·simp only [decide_eq_true q6,Bool.or_true,Bool.not_true,Bool.false_and]
  have q7:(((hl.map fun i=>[I i]).length:Nat):Int)=0:=by omega
  refine az dK rfl ?_
  repeat refine aw ?_
  exact ak rfl rfl rfl rfl rfl
 have q6' : ¬(((hl.map fun i=>[I i]).length:Nat):Int)=0:=by omega
 simp only [decide_eq_false q4,decide_eq_false q5,decide_eq_false q6,Bool.or_false,Bool.not_false,Bool.true_and];have hone:∀(j:Nat) (h:j<ins.length),cr c ⟨ba,bl,ins⟩ ins[j]=false->ins.all (cr c ⟨ba,bl,ins⟩)=false:=fun j h e=>by
  rw [List.all_eq_false];exact ⟨_,List.getElem_mem h,by rw [e];simp⟩
 have hall:(∀(j:Nat) (h:j<ins.length),cr c ⟨ba,bl,ins⟩ ins[j]=true)->ins.all (cr c ⟨ba,bl,ins⟩)=true:=fun h=>List.all_eq_true.2 fun i hi=>by
  obtain ⟨j,hj,rfl⟩:=List.mem_iff_getElem.1 hi;exact h j hj
 have MX:∀(j:Nat) (h:j<ins.length),(ins.map in4)[(j:Int).toNat]? = some (in4 ins[j]):=fun j h=>by simp [h]
 generalize ins.all (cr c ⟨ba,bl,ins⟩)=R at *;refine az dK rfl ?_
 repeat (first|refine aw ?_|refine f1 ?_)
 refine cb ins.length (sdS c ba bl ins) (fun j=>∀h:j<ins.length,cr c ⟨ba,bl,ins⟩ ins[j]=true) ?_ (fun hg=>?_) (fun j hj _=>?_)
 ·exact Uw.wM
 ·obtain rfl:=hall fun j h=>hg j h h
  repeat (first|refine aw ?_|refine f1 ?_)
  refine aC ?_
  repeat (first|refine aw ?_|refine f1 ?_)
  exact ak rfl rfl rfl rfl rfl
 have he:=MX j hj;have hn:=hna ins[j];have ho:=hone j hj;have hg1:cr c ⟨ba,bl,ins⟩ ins[j]=true->∀h:j<ins.length,cr c ⟨ba,bl,ins⟩ ins[j]=true:=fun h _=>h;clear hone hall MX hna hht;generalize cr c ⟨ba,bl,ins⟩ ins[j]=r at *;generalize ins[j]=i at *;obtain ⟨io,ia,ib,ic⟩:=i;have he:(ins.map in4)[(j:Int).toNat]? = some [I io,I ia,I ib,I ic]:=he;have hn:Ret P0 je [cdD c,.agg [I ba,I bl,.slice 4 (ins.map in4) false],.agg [I io,I ia,I ib,I ic]] (.bool r):=hn
 cases r with
 | true=>
  have hg1:=hg1 rfl
  repeat (first|refine aw ?_|refine f1 ?_)
  exact aJ j hg1 (by exact Uw.wM)
 | false=>
  obtain rfl:=ho rfl
  repeat (first|refine aw ?_|refine f1 ?_)
  exact bj (ak rfl rfl rfl rfl rfl)
abbrev Wp (c:Cd) (j:Nat):St:=⟨[(44,.d (I j)),(43,.d (I ((c.cells.map fun i=>[I i]).length:Nat))),(42,.d (bT c.cells)),(2,.d (.bool false)),(1,.ptr 0 0)],[(0,J4 c)],1,[],0⟩
abbrev Wq (c:Cd) (j:Nat):St:=⟨[(71,.d (I j)),(70,.d (I ((c.ae.map bdC).length:Nat))),(2,.d (.bool false)),(1,.ptr 0 0)],[(0,J4 c)],1,[],0⟩
set_option maxRecDepth 8000 in
set_option maxHeartbeats 4000000 in
theorem lE (c:Cd) (hc:c.ae.length<=1000000) (hcc:c.cells.length<=1000000):Ret P0 jd [cdD c] (.bool (wz c)):=by
 have hfl:(c.ae.map bdC).length=c.ae.length:=by simp
 have hcl:(c.cells.map fun i=>[I i]).length=c.cells.length:=by simp
 have hso:=xW c hc;have hbm:=bV c.main (c.ae.length:Nat);have hb1:=bV c.maps 9;have hb2:=bV c.stacks 9;have hb3:=bV c.chans 9;have hbc:=fun v=>bV v 4294967296;rw [<- hfl] at hbm;have hR:wz c=(!(decide (c.ae.length<1)||decide (32<c.ae.length)||!bm c.main ((c.ae.map bdC).length:Nat))&&!(!decide ((c.ae.getD c.main.toNat default).args=0)||decide (16<c.cells.length))&&(c.cells.all fun v=>bm v 4294967296)&&bm c.maps 9&&bm c.stacks 9&&bm c.chans 9&&c.ae.all (jn c)):=by rw [hfl];rfl
 rw [hR];clear hR;by_cases q1:c.ae.length<1
 ·simp only [decide_eq_true q1,Bool.true_or,Bool.not_true,Bool.false_and]
  have q1' : (((c.ae.map bdC).length:Nat):Int)<1:=by omega
  refine az eF rfl ?_
  repeat refine aw ?_
  exact ak rfl rfl rfl rfl rfl
 have q1' : ¬(((c.ae.map bdC).length:Nat):Int)<1:=by omega
 by_cases q2:32<c.ae.length
 ·simp only [decide_eq_true q2,Bool.or_true,Bool.true_or,Bool.not_true,Bool.false_and]
  have q2' : (32:Int)<((c.ae.map bdC).length:Nat):=by omega
  refine az eF rfl ?_
  repeat refine aw ?_
  exact ak rfl rfl rfl rfl rfl
 have q2' : ¬(32:Int)<((c.ae.map bdC).length:Nat):=by omega
 simp only [decide_eq_false q1,decide_eq_false q2,Bool.or_false,Bool.false_or,Bool.not_not]
 cases q3:bm c.main ((c.ae.map bdC).length:Nat) with
 | false=>
  rw [q3] at hbm;simp only [Bool.false_and];refine az eF rfl ?_
  repeat refine aw ?_
  exact ak rfl rfl rfl rfl rfl
 | true=>
 rw [q3] at hbm;have q3' : 0<=c.main/\c.main<(c.ae.length:Int):=by simpa [bm] using q3
 have Vi:c.main.toNat<c.ae.length:=by omega
 have hg:c.ae.getD c.main.toNat default=c.ae[c.main.toNat]:=by simp [List.getD,Vi]
 have hel:(c.ae.map bdC)[c.main.toNat]? = some (bdC c.ae[c.main.toNat]):=by simp [Vi]
 have hmr:0<=c.main/\c.main<(((c.ae.map bdC).length:Nat):Int):=by omega
 rw [hg];simp only [Bool.true_and];clear hg;generalize c.ae[c.main.toNat]=g at *;obtain ⟨ga,gl,gi⟩:=g;have hel:(c.ae.map bdC)[c.main.toNat]? = some [I ga,I gl,.slice 4 (gi.map in4) false]:=hel;simp only;by_cases q4:ga=0
 rotate_left 1
 ·simp only [decide_eq_false q4,Bool.not_false,Bool.true_or,Bool.not_true,Bool.false_and]
  refine az eF rfl ?_
  repeat refine aw ?_
  exact ak rfl rfl rfl rfl rfl
 simp only [decide_eq_true q4,Bool.not_true,Bool.false_or];by_cases q5:16<c.cells.length
 ·simp only [decide_eq_true q5,Bool.not_true,Bool.false_and]
  have q5' : (16:Int)<((c.cells.map fun i=>[I i]).length:Nat):=by omega
  refine az eF rfl ?_
  repeat refine aw ?_
  exact ak rfl rfl rfl rfl rfl
 have q5' : ¬(16:Int)<((c.cells.map fun i=>[I i]).length:Nat):=by omega
 simp only [decide_eq_false q5,Bool.not_false,Bool.true_and];have hone:∀(j:Nat) (h:j<c.cells.length),bm c.cells[j] 4294967296=false->(c.cells.all fun v=>bm v 4294967296)=false:=fun j h e=>by
  rw [List.all_eq_false];exact ⟨_,List.getElem_mem h,by rw [e];simp⟩
 have hall:(∀(j:Nat) (h:j<c.cells.length),bm c.cells[j] 4294967296=true)->(c.cells.all fun v=>bm v 4294967296)=true:=fun h=>List.all_eq_true.2 fun i hi=>by
  obtain ⟨j,hj,rfl⟩:=List.mem_iff_getElem.1 hi;exact h j hj
 have MY:∀(j:Nat) (h:j<c.ae.length),jn c c.ae[j]=false->c.ae.all (jn c)=false:=fun j h e=>by
  rw [List.all_eq_false];exact ⟨_,List.getElem_mem h,by rw [e];simp⟩
 have MZ:(∀(j:Nat) (h:j<c.ae.length),jn c c.ae[j]=true)->c.ae.all (jn c)=true:=fun h=>List.all_eq_true.2 fun i hi=>by
  obtain ⟨j,hj,rfl⟩:=List.mem_iff_getElem.1 hi;exact h j hj
 have Tc:∀(j:Nat) (h:j<c.cells.length),(c.cells.map fun i=>[I i])[(j:Int).toNat]? = some [I c.cells[j]]:=fun j h=>by simp [h]
 generalize (c.cells.all fun v=>bm v 4294967296)=A at *;generalize c.ae.all (jn c)=F at *;generalize bm c.maps 9=b1 at *;generalize bm c.stacks 9=b2 at *;generalize bm c.chans 9=b3 at *;refine az eF rfl ?_
 repeat (first|refine aw ?_|refine f1 ?_)
 refine cb c.cells.length (Wp c) (fun j=>∀h:j<c.cells.length,bm c.cells[j] 4294967296=true) ?_ (fun hg=>?_) (fun j hj _=>?_)
 ·exact Uw.wM
 rotate_left 1
 ·have he:=Tc j hj
  have hn:=hbc c.cells[j];have ho:=hone j hj;have hg1:bm c.cells[j] 4294967296=true->∀h:j<c.cells.length,bm c.cells[j] 4294967296=true:=fun h _=>h;clear hone hall Tc hbc MY MZ hso;generalize bm c.cells[j] 4294967296=r at *;generalize c.cells[j]=i at *
  cases r with
  | true=>
   have hg1:=hg1 rfl
   repeat (first|refine aw ?_|refine f1 ?_)
   exact aJ j hg1 (by exact Uw.wM)
  | false=>
   obtain rfl:=ho rfl
   repeat (first|refine aw ?_|refine f1 ?_)
   exact bj (ak rfl rfl rfl rfl rfl)
 obtain rfl:=hall fun j h=>hg j h h;simp only [Bool.true_and];clear hone hall Tc hg
 cases b1 with
 | false=>
  simp only [Bool.false_and]
  repeat (first|refine aw ?_|refine f1 ?_)
  refine aC ?_
  repeat (first|refine aw ?_|refine f1 ?_)
  refine dY 4 ?_;show WT _ _ _;refine aw ?_;refine aw ?_;refine dW [I c.maps] rfl ?_
  repeat refine aw ?_
  exact jv (ak rfl rfl rfl rfl rfl)
 | true=>
 cases b2 with
 | false=>
  simp only [Bool.false_and,Bool.and_false]
  repeat (first|refine aw ?_|refine f1 ?_)
  refine aC ?_
  repeat (first|refine aw ?_|refine f1 ?_)
  refine dY 4 ?_;show WT _ _ _;refine aw ?_;refine aw ?_;refine dW [I c.maps] rfl ?_
  repeat refine aw ?_
  refine c8 ?_;refine aw ?_;refine aw ?_;refine dW [I c.stacks] rfl ?_
  repeat refine aw ?_
  exact jv (ak rfl rfl rfl rfl rfl)
 | true=>
 cases b3 with
 | false=>
  simp only [Bool.false_and,Bool.and_false]
  repeat (first|refine aw ?_|refine f1 ?_)
  refine aC ?_
  repeat (first|refine aw ?_|refine f1 ?_)
  refine dY 4 ?_;show WT _ _ _;refine aw ?_;refine aw ?_;refine dW [I c.maps] rfl ?_
  repeat refine aw ?_
  refine c8 ?_;refine aw ?_;refine aw ?_;refine dW [I c.stacks] rfl ?_
  repeat refine aw ?_
  refine c8 ?_;refine aw ?_;refine aw ?_;refine dW [I c.chans] rfl ?_
  repeat refine aw ?_
  exact jv (ak rfl rfl rfl rfl rfl)
 | true=>
  simp only [Bool.true_and]
  repeat (first|refine aw ?_|refine f1 ?_)
  refine aC ?_
  repeat (first|refine aw ?_|refine f1 ?_)
  refine dY 4 ?_;show WT _ _ _;refine aw ?_;refine aw ?_;refine dW [I c.maps] rfl ?_
  repeat refine aw ?_
  refine c8 ?_;refine aw ?_;refine aw ?_;refine dW [I c.stacks] rfl ?_
  repeat refine aw ?_
  refine c8 ?_;refine aw ?_;refine aw ?_;refine dW [I c.chans] rfl ?_
  repeat refine aw ?_
  refine c8 ?_
  repeat refine aw ?_
  refine mC ?_
  repeat (first|refine aw ?_|refine f1 ?_)
  refine cb c.ae.length (Wq c) (fun j=>∀h:j<c.ae.length,jn c c.ae[j]=true) ?_ (fun hg=>?_) (fun j hj _=>?_)
  ·exact Uw.wM
  rotate_left 1
  ·have hn:=hso j c.ae[j] (List.getElem?_eq_getElem hj)
   have ho:=MY j hj;have hg1:jn c c.ae[j]=true->∀h:j<c.ae.length,jn c c.ae[j]=true:=fun h _=>h;clear hbc MY MZ hso;generalize jn c c.ae[j]=r at *
   cases r with
   | true=>
    have hg1:=hg1 rfl
    repeat (first|refine aw ?_|refine f1 ?_)
    exact aJ j hg1 (by exact Uw.wM)
   | false=>
    obtain rfl:=ho rfl
    repeat (first|refine aw ?_|refine f1 ?_)
    exact bj (ak rfl rfl rfl rfl rfl)
  obtain rfl:=MZ fun j h=>hg j h h
  repeat (first|refine aw ?_|refine f1 ?_)
  refine aC ?_
  repeat (first|refine aw ?_|refine f1 ?_)
  exact ak rfl rfl rfl rfl rfl
end Uw.Tryz
namespace Uw.Tryz
open Go Uw
theorem Gt {α:Type} {a b:List α} (hl:a.length=b.length) (h:∀(j:Nat) (h1:j<a.length) (h2:j<b.length),a[j]=b[j]):a=b:=List.ext_getElem hl h
set_option maxHeartbeats 2000000 in
theorem Eb (a b:List Int) (ha:a.length<1000000):Ret P0 pW [bT a,bT b] (.bool (decide (a=b))):=by
 have hal:(a.map fun i=>[I i]).length=a.length:=by simp
 have hbl:(b.map fun i=>[I i]).length=b.length:=by simp
 by_cases q:a.length=b.length
 rotate_left 1
 ·rw [decide_eq_false fun e=>q (congrArg List.length e)]
  have q' : ¬(((a.map fun i=>[I i]).length:Nat):Int)=((b.map fun i=>[I i]).length:Nat):=by omega
  refine az s9 rfl ?_
  repeat refine aw ?_
  exact ak rfl rfl rfl rfl rfl
 have q' : (((a.map fun i=>[I i]).length:Nat):Int)=((b.map fun i=>[I i]).length:Nat):=by omega
 have hae:∀(j:Nat) (h:j<a.length),(a.map fun i=>[I i])[(j:Int).toNat]? = some [I a[j]]:=fun j h=>by simp [h]
 have hbe:∀(j:Nat) (h:j<b.length),(b.map fun i=>[I i])[(j:Int).toNat]? = some [I b[j]]:=fun j h=>by simp [h]
 have hone:∀(j:Nat) (h1:j<a.length) (h2:j<b.length),a[j]≠b[j]->decide (a=b)=false:=fun j h1 h2 h=>decide_eq_false fun e=>h (by subst e;rfl);have hall:(∀(j:Nat) (h1:j<a.length) (h2:j<b.length),a[j]=b[j])->decide (a=b)=true:=fun h=>decide_eq_true (Gt q h);generalize decide (a=b)=R at *;refine az s9 rfl ?_
 repeat refine aw ?_
 refine cb a.length (fun j=>⟨[(5,.d (I j)),(4,.d (.bool false)),(1,.d (bT b)),(0,.d (bT a))],[],0,[],0⟩) (fun j=>∀(h1:j<a.length) (h2:j<b.length),a[j]=b[j]) ?_ (fun hg=>?_) (fun j hj _=>?_)
 ·exact Uw.wM
 ·obtain rfl:=hall fun j h1 h2=>hg j h1 h1 h2
  repeat refine aw ?_
  refine aC ?_
  repeat refine aw ?_
  exact ak rfl rfl rfl rfl rfl
 have he:=hae j hj;have hf:=hbe j (by omega);have ho:=hone j hj (by omega);have hg1:a[j]=b[j]'(by omega)->∀(h1:j<a.length) (h2:j<b.length),a[j]=b[j]:=fun h _ _=>h;clear hae hbe hone hall;generalize a[j]=x at *;generalize b[j]'_=y at *;by_cases e:x=y
 ·have hg1:=hg1 e
  repeat refine aw ?_
  exact aJ j hg1 (by exact Uw.wM)
 ·obtain rfl:=ho e
  repeat refine aw ?_
  exact bj (ak rfl rfl rfl rfl rfl)
abbrev bcS (a b:Bd) (j:Nat):St:=⟨[(5,.d (I j)),(4,.d (.bool false)),(3,.ptr 1 0),(2,.ptr 0 0)],[(1,.var [.d (I b.args),.d (I b.locals),.d (.slice 4 (b.ins.map in4) false)]),(0,.var [.d (I a.args),.d (I a.locals),.d (.slice 4 (a.ins.map in4) false)])],2,[],0⟩
set_option maxHeartbeats 2000000 in
theorem vA (a b:Bd) (ha:a.ins.length<1000000):Ret P0 jR [.agg (bdC a),.agg (bdC b)] (.bool (decide (a=b))):=by
 have hal:(a.ins.map in4).length=a.ins.length:=by simp
 have hbl:(b.ins.map in4).length=b.ins.length:=by simp
 have heq:decide (a=b)=(decide (a.args=b.args)&&decide (a.locals=b.locals)&&decide (a.ins=b.ins)):=by
  rw [<- Bool.decide_and,<- Bool.decide_and,decide_eq_decide];obtain ⟨a1,a2,a3⟩:=a;obtain ⟨b1,b2,b3⟩:=b;simp [and_assoc]
 rw [heq];clear heq;show Ret P0 jR [.agg [I a.args,I a.locals,.slice 4 (a.ins.map in4) false],.agg [I b.args,I b.locals,.slice 4 (b.ins.map in4) false]] _;by_cases q1:a.args=b.args
 rotate_left 1
 ·rw [decide_eq_false q1]
  refine az kF rfl ?_
  repeat refine aw ?_
  exact ak rfl rfl rfl rfl rfl
 by_cases q2:a.locals=b.locals
 rotate_left 1
 ·rw [decide_eq_false q2,Bool.and_false,Bool.false_and]
  refine az kF rfl ?_
  repeat refine aw ?_
  exact ak rfl rfl rfl rfl rfl
 rw [decide_eq_true q1,decide_eq_true q2,Bool.true_and,Bool.true_and];by_cases q:a.ins.length=b.ins.length
 rotate_left 1
 ·rw [decide_eq_false fun e=>q (congrArg List.length e)]
  have q' : ¬(((a.ins.map in4).length:Nat):Int)=((b.ins.map in4).length:Nat):=by omega
  refine az kF rfl ?_
  repeat refine aw ?_
  exact ak rfl rfl rfl rfl rfl
 have q' : (((a.ins.map in4).length:Nat):Int)=((b.ins.map in4).length:Nat):=by omega
 have hae:∀(j:Nat) (h:j<a.ins.length),(a.ins.map in4)[(j:Int).toNat]? = some (in4 a.ins[j]):=fun j h=>by simp [h]
 have hbe:∀(j:Nat) (h:j<b.ins.length),(b.ins.map in4)[(j:Int).toNat]? = some (in4 b.ins[j]):=fun j h=>by simp [h]
 have hone:∀(j:Nat) (h1:j<a.ins.length) (h2:j<b.ins.length),a.ins[j]≠b.ins[j]->decide (a.ins=b.ins)=false:=fun j h1 h2 h=>decide_eq_false fun e=>h (by simp only [e]);have hall:(∀(j:Nat) (h1:j<a.ins.length) (h2:j<b.ins.length),a.ins[j]=b.ins[j])->decide (a.ins=b.ins)=true:=fun h=>decide_eq_true (Gt q h);generalize decide (a.ins=b.ins)=R at *;refine az kF rfl ?_
 repeat refine aw ?_
 refine cb a.ins.length (bcS a b) (fun j=>∀(h1:j<a.ins.length) (h2:j<b.ins.length),a.ins[j]=b.ins[j]) ?_ (fun hg=>?_) (fun j hj _=>?_)
 ·exact Uw.wM
 ·obtain rfl:=hall fun j h1 h2=>hg j h1 h1 h2
  repeat refine aw ?_
  refine aC ?_
  repeat refine aw ?_
  exact ak rfl rfl rfl rfl rfl
 have he:=hae j hj;have hf:=hbe j (by omega);have ho:=hone j hj (by omega);have hg1:a.ins[j]=b.ins[j]'(by omega)->∀(h1:j<a.ins.length) (h2:j<b.ins.length),a.ins[j]=b.ins[j]:=fun h _ _=>h;clear hae hbe hone hall;generalize a.ins[j]=x at *;generalize b.ins[j]'_=y at *;obtain ⟨x1,x2,x3,x4⟩:=x;obtain ⟨y1,y2,y3,y4⟩:=y;have he:(a.ins.map in4)[(j:Int).toNat]? = some [I x1,I x2,I x3,I x4]:=he;have hf:(b.ins.map in4)[(j:Int).toNat]? = some [I y1,I y2,I y3,I y4]:=hf;have hjj:(j:Int)<((a.ins.map in4).length:Nat):=by omega
 have hjk:(j:Int)<((b.ins.map in4).length:Nat):=by omega
 by_cases e:(⟨x1,x2,x3,x4⟩:In4)=⟨y1,y2,y3,y4⟩
 ·have hg1:=hg1 e
  have e2:(decide (x1=y1)&&(decide (x2=y2)&&(decide (x3=y3)&&(decide (x4=y4)&&true))))=true:=by
   injection e with e1 e2 e3 e4;simp [e1,e2,e3,e4]
  repeat refine aw ?_
  exact aJ j hg1 (by exact Uw.wM)
 ·obtain rfl:=ho e
  have e2:(decide (x1=y1)&&(decide (x2=y2)&&(decide (x3=y3)&&(decide (x4=y4)&&true))))=false:=by
   rw [Bool.eq_false_iff];intro h;simp at h;exact e (by rw [h.1,h.2.1,h.2.2.1,h.2.2.2])
  repeat refine aw ?_
  exact bj (ak rfl rfl rfl rfl rfl)
abbrev cdB (c:Cd):Blk:=.var [.d (.slice 3 (c.ae.map bdC) false),.d (bT c.cells),.d (I c.maps),.d (I c.stacks),.d (I c.chans),.d (I c.main)]
end Uw.Tryz
namespace Uw.Tryz
open Go Uw
structure Ws (E:Int->Int->Prop) (l:List In4) (a:Nat) (h h2:Int) (H:Nat->Int):Prop where
 pos:∀k,0<=H k
 bgn:H a=h
 fin:H (a+l.length)=h2
 ops:∀(j:Nat) (hj:j<l.length),1<=l[j].op/\l[j].op<=19/\(l[j].op=17->H (a+j)=1)
 step:∀(j:Nat) (hj:j<l.length),0<=(dI l[j]).1/\(dI l[j]).1<=H (a+j)/\∀t∈onI l[j] ((a+j:Nat):Int),((a:Int)<=t/\t<=((a+l.length:Nat):Int)/\H t.toNat=H (a+j) - (dI l[j]).1+(dI l[j]).2)\/E t (H (a+j) - (dI l[j]).1+(dI l[j]).2)
def cH (E:Int->Int->Prop) (l:List In4) (a:Nat) (h h2:Int):Prop:=∃H,Ws E l a h h2 H
abbrev noE:Int->Int->Prop:=fun _ _=>False
theorem cH.nil {E:Int->Int->Prop} {a:Nat} {h:Int} (hh:0<=h):cH E [] a h h:=
 ⟨fun _=>h,fun _=>hh,rfl,rfl,fun j hj=>absurd hj (Nat.not_lt_zero j),fun j hj=>absurd hj (Nat.not_lt_zero j)⟩
theorem cH.mono {E E2:Int->Int->Prop} (hE:∀t v,E t v->E2 t v) {l:List In4} {a:Nat} {h h2:Int}:cH E l a h h2->cH E2 l a h h2
 | ⟨H,s⟩=>⟨H,s.pos,s.bgn,s.fin,s.ops,fun j hj=>⟨(s.step j hj).1,(s.step j hj).2.1,fun t ht=>((s.step j hj).2.2 t ht).imp id (hE t _)⟩⟩
theorem cH.shut {E E2:Int->Int->Prop} {l:List In4} {a:Nat} {h h2:Int} (hE:∀t v,E t v->E2 t v\/(t=((a+l.length:Nat):Int)/\v=h2)\/(t=(a:Int)/\v=h)):cH E l a h h2->cH E2 l a h h2
 | ⟨H,s⟩=>⟨H,s.pos,s.bgn,s.fin,s.ops,fun j hj=>⟨(s.step j hj).1,(s.step j hj).2.1,fun t ht=>by
   rcases (s.step j hj).2.2 t ht with h1|h1
   ·exact .inl h1
   ·rcases hE t _ h1 with h3|⟨rfl,h3⟩|⟨rfl,h3⟩
    ·exact .inr h3
    ·refine .inl ⟨by omega,Int.le_refl _,?_⟩
     rw [Int.toNat_natCast,s.fin,h3]
    ·refine .inl ⟨Int.le_refl _,by omega,?_⟩
     rw [Int.toNat_natCast,s.bgn,h3]⟩⟩
theorem cH.app {E:Int->Int->Prop} {l1 l2:List In4} {a:Nat} {h h1 h2:Int}:cH E l1 a h h1->cH E l2 (a+l1.length) h1 h2->cH E (l1++l2) a h h2
 | ⟨H1,s1⟩,⟨H2,s2⟩=>by
  have hl:∀k,k<=a+l1.length->(if k<a+l1.length then H1 k else H2 k)=H1 k:=fun k hk=>by
   by_cases e:k<a+l1.length
   ·rw [if_pos e]
   ·rw [if_neg e,show k=a+l1.length by omega,s1.fin,s2.bgn]
  have hr:∀k,a+l1.length<=k->(if k<a+l1.length then H1 k else H2 k)=H2 k:=fun k hk=>by rw [if_neg (by omega)]
  refine ⟨fun k=>if k<a+l1.length then H1 k else H2 k,fun k=>?_,?_,?_,fun j hj=>?_,fun j hj=>?_⟩
  ·show 0<=(if k<a+l1.length then H1 k else H2 k)
   split
   ·exact s1.pos k
   ·exact s2.pos k
  ·show (if a<a+l1.length then H1 a else H2 a)=h
   rw [hl a (by omega),s1.bgn]
  ·show (if a+(l1++l2).length<a+l1.length then H1 _ else H2 _)=h2
   rw [hr _ (by simp),List.length_append,<- Nat.add_assoc,s2.fin]
  ·by_cases e:j<l1.length
   ·rw [List.getElem_append_left e,hl _ (by omega)]
    exact s1.ops j e
   ·have hj2:j - l1.length<l2.length:=by rw [List.length_append] at hj;omega
    have:=s2.ops (j - l1.length) hj2;rw [show a+l1.length+(j - l1.length)=a+j by omega] at this;rw [List.getElem_append_right (by omega),hr _ (by omega)];exact this
  ·by_cases e:j<l1.length
   ·have h3:=s1.step j e
    rw [List.getElem_append_left e,hl _ (by omega)];refine ⟨h3.1,h3.2.1,fun t ht=>?_⟩
    rcases h3.2.2 t ht with ⟨h4,h5,h6⟩|h4
    ·refine .inl ⟨h4,by rw [List.length_append];omega,?_⟩
     rw [hl _ (by omega)];exact h6
    ·exact .inr h4
   ·have hj2:j - l1.length<l2.length:=by rw [List.length_append] at hj;omega
    have h3:=s2.step (j - l1.length) hj2;rw [show a+l1.length+(j - l1.length)=a+j by omega] at h3;rw [List.getElem_append_right (by omega),hr _ (by omega)];refine ⟨h3.1,h3.2.1,fun t ht=>?_⟩
    rcases h3.2.2 t ht with ⟨h4,h5,h6⟩|h4
    ·refine .inl ⟨by omega,by rw [List.length_append];omega,?_⟩
     rw [hr _ (by omega)];exact h6
    ·exact .inr h4
theorem cH.one {E:Int->Int->Prop} (i:In4) (a:Nat) (h h2:Int) (ho:1<=i.op/\i.op<=19) (hr:i.op=17->h=1) (h0:0<=(dI i).1) (h1:(dI i).1<=h) (hh:0<=h2) (ht:∀t∈onI i (a:Int),(t=((a+1:Nat):Int)/\h2=h - (dI i).1+(dI i).2)\/E t (h - (dI i).1+(dI i).2)):cH E [i] a h h2:=by
 refine ⟨fun k=>if k=a then h else h2,fun k=>?_,if_pos rfl,if_neg (by simp),fun j hj=>?_,fun j hj=>?_⟩
 ·show 0<=(if k=a then h else h2)
  split<;>omega
 ·obtain rfl:j=0:=by simpa using hj
  simp only [List.getElem_cons_zero,Nat.add_zero,if_true];exact ⟨ho.1,ho.2,hr⟩
 ·obtain rfl:j=0:=by simpa using hj
  simp only [List.getElem_cons_zero,Nat.add_zero,if_true];refine ⟨h0,h1,fun t hm=>?_⟩
  rcases ht t hm with ⟨rfl,h3⟩|h3
  ·refine .inl ⟨by omega,by simp,?_⟩
   rw [Int.toNat_natCast,if_neg (by omega),h3]
  ·exact .inr h3
theorem cH.plain {E:Int->Int->Prop} (i:In4) (a:Nat) (h:Int) (ho:1<=i.op/\i.op<=19) (hj:i.op≠15/\i.op≠16/\i.op≠17) (h0:0<=(dI i).1) (h1:(dI i).1<=h) (h2:0<=(dI i).2):cH E [i] a h (h - (dI i).1+(dI i).2):=
 cH.one i a h _ ho (fun e=>absurd e hj.2.2) h0 h1 (by omega) fun t ht=>by
  rw [onI,if_neg hj.1,if_neg hj.2.1,if_neg hj.2.2] at ht;simp at ht;exact .inl ⟨by omega,rfl⟩
end Uw.Tryz
namespace Uw.Tryz
open Go Uw
theorem Gu {g:Int->Nat->List In4}:∀(l:List Int) (a:Nat) (h:Int),0<=h->(∀k∈l,∀a h,0<=h->cH noE (g k a) a h (h+1))->cH noE (layAll g l a) a h (h+(l.length:Nat))
 | [],a,h,hh,_=>by
  rw [layAll];have:=cH.nil (E:=noE) (a:=a) hh;simpa using this
 | k::r,a,h,hh,hg=>by
  rw [layAll];have h1:=hg k (by simp) a h hh;have h2:=Gu r (a+(g k a).length) (h+1) (by omega) fun k hk=>hg k (by simp [hk]);have h3:=cH.app h1 h2;rw [show h+((k::r).length:Nat)=h+1+(r.length:Nat) by simp;omega];exact h3
theorem Gv {g:Int->Nat->List In4}:∀(l:List Int) (a:Nat),(∀k∈l,∀a,cH noE (g k a) a 0 0)->cH noE (layAll g l a) a 0 0
 | [],a,_=>cH.nil (Int.le_refl _)
 | k::r,a,hg=>by
  rw [layAll];exact cH.app (hg k (by simp) a) (Gv r _ fun k hk=>hg k (by simp [hk]))
def toE (l:List Int):Int->Int->Prop:=fun t v=>t∈l/\v=0
theorem um (l:List Int):∀t v,noE t v->toE l t v:=fun _ _ h=>h.elim
abbrev r17:In4:=⟨17,0,0,0⟩
abbrev p01:In4:=⟨1,0,0,0⟩
theorem I6 (e:Int):dI ⟨16,e,0,0⟩=(1,0):=rfl
theorem M1 (e:Int):dI ⟨15,e,0,0⟩=(0,0):=rfl
theorem HY (e:Int) (l:List Int) (a:Nat) (he:e∈l):cH (toE l) [⟨16,e,0,0⟩] a 1 0:=by
 refine cH.one _ a 1 0 (by simp) (by simp) (by simp [I6]) (by simp [I6]) (by simp) fun t ht=>?_;have ht:t=(a:Int)+1\/t=e:=by simpa [onI] using ht
 rcases ht with rfl|rfl
 ·exact .inl ⟨by omega,by simp [I6]⟩
 ·exact .inr ⟨he,by simp [I6]⟩
theorem QV (e:Int) (l:List Int) (a:Nat) (he:e∈l):cH (toE l) [⟨15,e,0,0⟩] a 0 0:=by
 refine cH.one _ a 0 0 (by simp) (by simp) (by simp [M1]) (by simp [M1]) (by simp) fun t ht=>?_;have ht:t=e:=by simpa [onI] using ht
 subst ht;exact .inr ⟨he,by simp [M1]⟩
theorem Td {A B:List In4} {a:Nat} (hA:cH noE A a 0 1) (hB:cH noE B (a+A.length+1) 0 0):cH noE (A++⟨16,(a+A.length+1+B.length:Nat),0,0⟩::B) a 0 0:=by
 have h1:=cH.app (hA.mono (um [((a+A.length+1+B.length:Nat):Int)])) (cH.app (HY ((a+A.length+1+B.length:Nat):Int) _ (a+A.length) (by simp)) (hB.mono (um _)));refine cH.shut (fun t v h=>.inr (.inl ⟨?_,h.2⟩)) h1;have:=h.1;simp only [List.mem_singleton] at this;rw [this];simp;omega
theorem HZ {A B C:List In4} {a:Nat} (hA:cH noE A a 0 1) (hB:cH noE B (a+A.length+1) 0 0) (hC:cH noE C (a+A.length+1+B.length+1) 0 0) :
  cH noE (A++⟨16,(a+A.length+1+B.length+1:Nat),0,0⟩::(B++⟨15,(a+A.length+1+B.length+1+C.length:Nat),0,0⟩::C)) a 0 0:=by
 obtain ⟨m,hm⟩:∃m:Int,m=((a+A.length+1+B.length+1:Nat):Int):=⟨_,rfl⟩
 obtain ⟨e,he⟩:∃e:Int,e=((a+A.length+1+B.length+1+C.length:Nat):Int):=⟨_,rfl⟩
 rw [<- hm,<- he];have h1:cH (toE [m,e]) (A++((⟨16,m,0,0⟩:In4)::(B++[(⟨15,e,0,0⟩:In4)]))) a 0 0:=
  cH.app (hA.mono (um _)) (cH.app (l1:=[⟨16,m,0,0⟩]) (HY m _ (a+A.length) (by simp)) (cH.app (hB.mono (um _)) (QV e _ _ (by simp))))
 have h2:cH (toE [e]) (A++(⟨16,m,0,0⟩::(B++[⟨15,e,0,0⟩]))) a 0 0:=by
  refine cH.shut (fun t v h=>?_) h1;obtain ⟨h3,h4⟩:=h;simp only [List.mem_cons,List.not_mem_nil,or_false] at h3
  rcases h3 with rfl|rfl
  ·exact .inr (.inl ⟨by rw [hm];simp;omega,h4⟩)
  ·exact .inl ⟨by simp,h4⟩
 have hl:(A++((⟨16,m,0,0⟩:In4)::(B++[(⟨15,e,0,0⟩:In4)]))).length=A.length+1+B.length+1:=by simp;omega
 have h3:cH (toE [e]) ((A++(⟨16,m,0,0⟩::(B++[⟨15,e,0,0⟩])))++C) a 0 0:=cH.app h2 (by rw [hl,show a+(A.length+1+B.length+1)=a+A.length+1+B.length+1 by omega];exact hC.mono (um _));have e1:(A++(⟨16,m,0,0⟩::(B++[⟨15,e,0,0⟩])))++C=A++⟨16,m,0,0⟩::(B++⟨15,e,0,0⟩::C):=by simp
 rw [e1] at h3;refine cH.shut (fun t v h=>.inr (.inl ⟨?_,h.2⟩)) h3;have:=h.1;simp only [List.mem_singleton] at this;rw [this,he];simp;omega
theorem J5 {A B:List In4} {a:Nat} (hA:cH noE A a 0 1) (hB:cH noE B (a+A.length+1) 0 0):cH noE (A++⟨16,(a+A.length+1+B.length+1:Nat),0,0⟩::(B++[⟨15,(a:Nat),0,0⟩])) a 0 0:=by
 obtain ⟨e,he⟩:∃e:Int,e=((a+A.length+1+B.length+1:Nat):Int):=⟨_,rfl⟩
 rw [<- he];have h1:cH (toE [(a:Int),e]) (A++(⟨16,e,0,0⟩::(B++[⟨15,(a:Nat),0,0⟩]))) a 0 0:=
  cH.app (hA.mono (um _)) (cH.app (l1:=[⟨16,e,0,0⟩]) (HY e _ (a+A.length) (by simp)) (cH.app (hB.mono (um _)) (QV _ _ _ (by simp))))
 refine cH.shut (fun t v h=>.inr ?_) h1;obtain ⟨h3,h4⟩:=h;simp only [List.mem_cons,List.not_mem_nil,or_false] at h3
 rcases h3 with rfl|rfl
 ·exact .inr ⟨rfl,h4⟩
 ·exact .inl ⟨by rw [he];simp;omega,h4⟩
theorem I7 {i:In4} {a:Nat} {h:Int} {n:Nat} (hh:0<=h) (ho:1<=i.op/\i.op<=19) (hj:i.op≠15/\i.op≠16/\i.op≠17) {p:Int} (he:dI i=(((n:Nat):Int),p)) (hp:0<=p):cH noE [i] a (h+n) (h+p):=by
 have:=cH.plain (E:=noE) i a (h+n) ho hj (by rw [he];simp) (by rw [he];simp;omega) (by rw [he];exact hp);rw [he] at this;simpa using this
theorem Qa {ns:List Nd} (N:Nms) (hL:Lays ns) (hS:∀(i:Nat) (h:i<ns.length),ew ns ns[i]=true) (k:Nat):k<ns.length->∀a:Nat,
  (cU (cq ns k)=1->∀h,0<=h->cH noE (lay ns N k a) a h (h+1))/\(cU (cq ns k)=2\/cU (cq ns k)=3->cH noE (lay ns N k a) a 0 0):=by
 induction k using Nat.strongRecOn with
 | ind k ih=>
  intro hk a;have hkk:cq ns k=ns[k].kind:=by simp [cq,List.getD,hk]
  have hc:∀c∈ns[k].of,∀a:Nat,(cU (cq ns c)=1->∀h,0<=h->cH noE (lay ns N c a) a h (h+1))/\(cU (cq ns c)=2\/cU (cq ns c)=3->cH noE (lay ns N c a) a 0 0):=fun c hcm a=>by
   obtain ⟨h1,h2⟩:=hL.low k hk c hcm;obtain ⟨m,rfl⟩:∃m:Nat,c=(m:Int):=⟨c.toNat,by omega⟩
   exact ih m (by omega) (by omega) a
  have hs:=hS k hk;have hq:=DT N hL k hk a;rw [hq,hkk];clear hq ih;rw [ew] at hs;generalize ns[k]=x at *;obtain ⟨xk,xn,xs,xt,xo⟩:=x;simp only [dx] at hc hs ⊢;have one:∀l:List Int,(∀c∈l,c∈xo)->(l.map fun k=>cU (cq ns k)).all (fun s=>decide (s=1))=true->∀h,0<=h->cH noE (layAll (lay ns N) l a) a h (h+(l.length:Nat)):=fun l hl hs h hh=>by
   refine Gu l a h hh fun c hm a h hh=>(hc c (hl c hm) a).1 ?_ h hh;have:=List.all_eq_true.1 hs _ (List.mem_map.2 ⟨c,hm,rfl⟩);simpa using this
  have two:∀s:List Int,(xo.map fun k=>cU (cq ns k))=s->(s.all fun s=>decide (s=1))=true->∀h,0<=h->cH noE (layAll (lay ns N) xo a) a h (h+(s.length:Nat)):=fun s e hs h hh=>by
   have:=one xo (fun _ h=>h) (by rw [e];exact hs) h hh;rw [<- e];simpa using this
  by_cases k13:xk=13
  ·subst k13
   refine ⟨fun h=>by simp [cU] at h,fun _=>?_⟩;simp only [if_true];have hs:(xo.map fun k=>cU (cq ns k))=[1,3]\/(xo.map fun k=>cU (cq ns k))=[1,3,3]:=by simpa [dy] using hs
   rcases hs with hs|hs
   ·obtain ⟨c0,c1,rfl⟩:∃c0 c1,xo=[c0,c1]:=by
     have:=congrArg List.length hs
     match xo,this with
     | [c0,c1],_=>exact ⟨c0,c1,rfl⟩
    simp only [List.map_cons,List.map_nil,List.cons.injEq,and_true] at hs;exact Td ((hc c0 (by simp) a).1 hs.1 0 (by decide)) ((hc c1 (by simp) _).2 (.inr hs.2))
   ·obtain ⟨c0,c1,c2,rfl⟩:∃c0 c1 c2,xo=[c0,c1,c2]:=by
     have:=congrArg List.length hs
     match xo,this with
     | [c0,c1,c2],_=>exact ⟨c0,c1,c2,rfl⟩
    simp only [List.map_cons,List.map_nil,List.cons.injEq,and_true] at hs;exact HZ ((hc c0 (by simp) a).1 hs.1 0 (by decide)) ((hc c1 (by simp) _).2 (.inr hs.2.1)) ((hc c2 (by simp) _).2 (.inr hs.2.2))
  by_cases k14:xk=14
  ·subst k14
   refine ⟨fun h=>by simp [cU] at h,fun _=>?_⟩;have hs:(xo.map fun k=>cU (cq ns k))=[1,3]:=by simpa [dy] using hs
   obtain ⟨c0,c1,rfl⟩:∃c0 c1,xo=[c0,c1]:=by
    have:=congrArg List.length hs
    match xo,this with
    | [c0,c1],_=>exact ⟨c0,c1,rfl⟩
   simp only [List.map_cons,List.map_nil,List.cons.injEq,and_true] at hs;exact J5 ((hc c0 (by simp) a).1 hs.1 0 (by decide)) ((hc c1 (by simp) _).2 (.inr hs.2))
  simp only [if_neg k13,if_neg k14];clear hL hS hk hkk;have fin1:∀(i:In4) (n:Nat) (s:List Int),(xo.map fun k=>cU (cq ns k))=s->(s.all fun s=>decide (s=1))=true->s.length=n->dP N ⟨xk,xn,xs,xt,xo⟩=[i]->(1<=i.op/\i.op<=19)->(i.op≠15/\i.op≠16/\i.op≠17)->dI i=(((n:Nat):Int),(1:Int))->∀h,0<=h->cH noE (layAll (lay ns N) xo a++dP N ⟨xk,xn,xs,xt,xo⟩) a h (h+1):=fun i n s e hs hn eo ho hj he h hh=>by
   rw [eo];refine cH.app (two s e hs h hh) ?_;rw [hn];exact I7 hh ho hj he (by decide)
  have fin0:∀(i:In4) (n:Nat) (s:List Int),(xo.map fun k=>cU (cq ns k))=s->(s.all fun s=>decide (s=1))=true->s.length=n->dP N ⟨xk,xn,xs,xt,xo⟩=[i]->(1<=i.op/\i.op<=19)->(i.op≠15/\i.op≠16/\i.op≠17)->dI i=(((n:Nat):Int),(0:Int))->cH noE (layAll (lay ns N) xo a++dP N ⟨xk,xn,xs,xt,xo⟩) a 0 0:=fun i n s e hs hn eo ho hj he=>by
   rw [eo];refine cH.app (two s e hs 0 (by decide)) ?_;rw [hn];have:=I7 (a:=a+(layAll (lay ns N) xo a).length) (h:=0) (by decide) ho hj he (by decide);simpa using this
  by_cases k1:xk=1
  ·subst k1
   refine ⟨fun _=>?_,fun h=>by simp [cU] at h⟩;have hs:(xo.map fun k=>cU (cq ns k))=[]:=by simp [dy] at hs;simp [hs.1]
   exact fin1 ⟨1,xn,0,0⟩ 0 [] hs rfl rfl rfl (by simp) (by simp) rfl
  by_cases k2:xk=2
  ·subst k2
   refine ⟨fun _=>?_,fun h=>by simp [cU] at h⟩;have hs:(xo.map fun k=>cU (cq ns k))=[]:=by simpa [dy] using hs
   cases ht:N.things xs with
   | none=>exact fin1 ⟨2,xP N xs,0,0⟩ 0 [] hs rfl rfl (by simp [dP,ht]) (by simp) (by simp) rfl
   | some t=>exact fin1 ⟨4,t.2,0,0⟩ 0 [] hs rfl rfl (by simp [dP,ht]) (by simp) (by simp) rfl
  by_cases kb:3<=xk/\xk<=7
  ·refine ⟨fun _=>?_,fun h=>by simp [cU] at h;omega⟩
   have hs:(xo.map fun k=>cU (cq ns k))=[1,1]:=by
    rw [dy,if_neg (by omega),if_neg (by omega),if_pos (by omega)] at hs;simpa using hs
   refine fin1 ⟨xk+3,0,0,0⟩ 2 [1,1] hs rfl rfl (by simp [dP,k1,k2,kb]) (by simp;omega) (by simp;omega) ?_;have:6<=xk+3/\xk+3<=10:=by omega
   rw [dI,if_neg (by simp;omega),if_neg (by simp;omega),if_pos (by simp;omega)];rfl
  by_cases k8:xk=8
  ·subst k8
   refine ⟨fun _=>?_,fun h=>by simp [cU] at h⟩;have hs:(xo.map fun k=>cU (cq ns k)).all (fun s=>decide (s=1))=true:=by simpa [dy] using hs
   exact fin1 ⟨11,li xt,((N.things xs).getD (0,0)).2,(xo.length:Nat)⟩ xo.length _ rfl hs (by simp) (by simp [dP]) (by simp) (by simp) rfl
  by_cases k9:xk=9
  ·subst k9
   refine ⟨fun h=>by simp [cU] at h,fun _=>?_⟩;have hs:(xo.map fun k=>cU (cq ns k))=[1]:=by simpa [dy] using hs
   cases ht:N.things xs with
   | none=>exact fin0 ⟨3,xP N xs,0,0⟩ 1 [1] hs rfl rfl (by simp [dP,ht]) (by simp) (by simp) rfl
   | some t=>exact fin0 ⟨5,t.2,0,0⟩ 1 [1] hs rfl rfl (by simp [dP,ht]) (by simp) (by simp) rfl
  by_cases k10:xk=10
  ·subst k10
   refine ⟨fun h=>by simp [cU] at h,fun _=>?_⟩;have hs:(xo.map fun k=>cU (cq ns k)).all (fun s=>decide (s=1))=true:=by simpa [dy] using hs
   exact fin0 ⟨13,N.ae xt,(xo.length:Nat),lU N xs⟩ xo.length _ rfl hs (by simp) (by simp [dP]) (by simp) (by simp) rfl
  by_cases k11:xk=11
  ·subst k11
   refine ⟨fun h=>by simp [cU] at h,fun _=>?_⟩;have hs:(xo.map fun k=>cU (cq ns k))=[1,1]:=by simpa [dy] using hs
   exact fin0 ⟨13,N.helps xt,2,lU N xs⟩ 2 [1,1] hs rfl rfl (by simp [dP]) (by simp) (by simp) rfl
  by_cases k12:xk=12
  ·subst k12
   refine ⟨fun h=>by simp [cU] at h,fun _=>?_⟩;have hs:(xo.map fun k=>cU (cq ns k))=[]:=by simpa [dy] using hs
   exact fin0 ⟨14,0,0,0⟩ 0 [] hs rfl rfl rfl (by simp) (by simp) rfl
  by_cases k15:xk=15
  ·subst k15
   refine ⟨fun h=>by simp [cU] at h,fun _=>?_⟩;have hs:(xo.map fun k=>cU (cq ns k))=[1]:=by simpa [dy] using hs
   refine cH.app (two [1] hs rfl 0 (by decide)) ?_;exact cH.one _ _ _ _ (by simp) (fun _=>by simp) (by simp [dI]) (by simp [dI]) (by simp) (fun t ht=>by simp [onI] at ht)
  by_cases k16:xk=16
  ·subst k16
   refine ⟨fun h=>by simp [cU] at h,fun _=>?_⟩;have hs:(xo.map fun k=>cU (cq ns k))=[1]:=by simpa [dy] using hs
   exact fin0 ⟨18,0,0,0⟩ 1 [1] hs rfl rfl rfl (by simp) (by simp) rfl
  by_cases k17:xk=17
  ·subst k17
   refine ⟨fun h=>by simp [cU] at h,fun _=>?_⟩;have hs:(xo.map fun k=>cU (cq ns k))=[1]:=by simp [dy] at hs;simp [hs.1]
   exact fin0 ⟨12,0,0,0⟩ 1 [1] hs rfl rfl rfl (by simp) (by simp) rfl
  by_cases k18:xk=18
  ·subst k18
   refine ⟨fun h=>by simp [cU] at h,fun _=>?_⟩;have hs:(xo.map fun k=>cU (cq ns k)).all (fun s=>decide (s=2))=true:=by simpa [dy] using hs
   have e:dP N ⟨18,xn,xs,xt,xo⟩=[]:=rfl;rw [e,List.append_nil];refine Gv xo a fun c hm a=>(hc c hm a).2 (.inl ?_);have:=List.all_eq_true.1 hs _ (List.mem_map.2 ⟨c,hm,rfl⟩);simpa using this
  ·exfalso
   rw [dy,if_neg k1,if_neg (by omega),if_neg (by omega),if_neg (by omega),if_neg (by omega),if_neg k17,if_neg k13,if_neg k14,if_neg k18] at hs
   cases hs
theorem Qb {l:List In4} (h:cH noE l 0 0 0):∃H,MU (l++[p01,r17]) H/\∀(j:Nat) (hj:j<(l++[p01,r17]).length),(l++[p01,r17])[j].op=17->H j=1:=by
 obtain ⟨H,s⟩:=h;have h1:cH noE [p01] (0+l.length) 0 1:=cH.one _ _ _ _ (by decide) (by decide) (by decide) (by decide) (by decide) (fun t ht=>by
  have ht:t=((0+l.length:Nat):Int)+1:=by simpa [onI] using ht
  exact .inl ⟨by omega,by decide⟩)
 obtain ⟨H2,s2⟩:=cH.app ⟨H,s⟩ h1;have hl:(l++[p01]).length=l.length+1:=by simp
 have hlast:H2 (l.length+1)=1:=by have:=s2.fin;rw [hl,Nat.zero_add] at this;exact this
 have e3:l++[p01,r17]=(l++[p01])++[r17]:=by simp
 rw [e3];have hget:∀(j:Nat) (hj:j<((l++[p01])++[r17]).length),(∃h:j<(l++[p01]).length,((l++[p01])++[r17])[j]=(l++[p01])[j])\/(j=l.length+1/\((l++[p01])++[r17])[j]=r17):=fun j hj=>by
  rcases Nat.lt_or_ge j (l++[p01]).length with h|h
  ·exact .inl ⟨h,List.getElem_append_left h⟩
  ·have:j=l.length+1:=by rw [List.length_append,hl] at hj;rw [hl] at h;simp at hj;omega
   refine .inr ⟨this,?_⟩;rw [List.getElem_append_right h];simp
 have hz:H2 0=0:=s2.bgn;refine ⟨H2,⟨fun i hi=>?_,hz,s2.pos,fun k hk=>?_⟩,fun j hj ho=>?_⟩
 ·obtain ⟨j,hj,rfl⟩:=List.mem_iff_getElem.1 hi
  rcases hget j hj with ⟨h,e⟩|⟨h,e⟩
  ·rw [e];exact ⟨(s2.ops j h).1,(s2.ops j h).2.1⟩
  ·rw [e];decide
 ·rcases hget k hk with ⟨h,e⟩|⟨h,e⟩
  ·rw [e]
   obtain ⟨g1,g2,g3⟩:=s2.step k h;rw [Nat.zero_add] at g2 g3;refine ⟨g1,g2,fun t ht=>?_⟩
   rcases g3 t ht with ⟨a1,a2,a3⟩|a
   ·refine ⟨a1,?_,a3⟩
    rw [List.length_append];simp only [List.length_singleton];omega
   ·exact a.elim
  ·rw [e,h,hlast]
   exact ⟨by decide,by decide,fun t ht=>by simp [onI] at ht⟩
 ·rcases hget j hj with ⟨h,e⟩|⟨h,e⟩
  ·rw [e] at ho
   have:=(s2.ops j h).2.2 ho
   rwa [Nat.zero_add] at this
  ·rw [h];exact hlast
def hpH:List Int:=[0,1,2,1,0,1,2,1,2,1,0,1,0,1,0,1,2,1,0,1,2,0,1,2,0,1,2,1,0,1]
def htB (ins:List In4) (H:List Int):Bool:=(List.range ins.length).all fun k=>let i:=ins.getD k default
 decide (0<=(dI i).1)&&decide ((dI i).1<=H.getD k 0)&&decide (1<=i.op)&&decide (i.op<=19)&&(!decide (i.op=17)||decide (H.getD k 0=1))&&(onI i (k:Nat)).all fun t=>decide (0<=t)&&decide (t<(ins.length:Nat))&&decide (H.getD t.toNat 0=H.getD k 0 - (dI i).1+(dI i).2)
theorem Vj {ins:List In4} {H:List Int} (h:htB ins H=true) (h0:H.getD 0 0=0) (hp:∀v∈H,0<=v):MU ins (fun k=>H.getD k 0)/\∀(j:Nat) (hj:j<ins.length),ins[j].op=17->H.getD j 0=1:=by
 rw [htB,List.all_eq_true] at h;have hg:∀(k:Nat) (hk:k<ins.length),ins.getD k default=ins[k]:=fun k hk=>by simp [List.getD,hk]
 have h:∀(k:Nat) (hk:k<ins.length),((((0<=(dI ins[k]).1/\(dI ins[k]).1<=H.getD k 0)/\1<=ins[k].op)/\ins[k].op<=19)/\(ins[k].op=17->H.getD k 0=1))/\∀t∈onI ins[k] (k:Nat),(0<=t/\t<(ins.length:Nat))/\H.getD t.toNat 0=H.getD k 0 - (dI ins[k]).1+(dI ins[k]).2:=fun k hk=>by
  have:=h k (List.mem_range.2 hk);simp only [hg k hk,Bool.and_eq_true,decide_eq_true_eq,List.all_eq_true] at this;refine ⟨⟨this.1.1,fun e=>?_⟩,this.2⟩;have h2:=this.1.2;simp only [e,decide_true,Bool.not_true,Bool.false_or,decide_eq_true_eq] at h2;exact h2
 refine ⟨⟨fun i hi=>?_,h0,fun k=>?_,fun k hk=>?_⟩,fun j hj=>(h j hj).1.2⟩
 ·obtain ⟨j,hj,rfl⟩:=List.mem_iff_getElem.1 hi
  exact ⟨(h j hj).1.1.1.2,(h j hj).1.1.2⟩
 ·show 0<=H.getD k 0
  rcases Nat.lt_or_ge k H.length with hk|hk
  ·rw [List.getD,List.getElem?_eq_getElem hk];exact hp _ (List.getElem_mem hk)
  ·rw [List.getD,List.getElem?_eq_none hk];exact Int.le_refl _
 ·exact ⟨(h k hk).1.1.1.1.1,(h k hk).1.1.1.1.2,fun t ht=>⟨((h k hk).2 t ht).1.1,((h k hk).2 t ht).1.2,((h k hk).2 t ht).2⟩⟩
theorem Qc (f own:Int):MU (dM f own).ins (fun k=>hpH.getD k 0)/\∀(j:Nat) (hj:j<(dM f own).ins.length),(dM f own).ins[j].op=17->hpH.getD j 0=1:=
 Vj (by rfl) rfl (by decide)
end Uw.Tryz
namespace Uw.Tryz
open Go Uw
theorem zZ {g:Int->Nat->List In4} {y:In4}:∀(l:List Int) (a:Nat),y∈layAll g l a->∃k∈l,∃a,y∈g k a
 | [],_,h=>by simp [layAll] at h
 | k::r,a,h=>by
  rw [layAll,List.mem_append] at h
  rcases h with h|h
  ·exact ⟨k,by simp,a,h⟩
  ·obtain ⟨k2,h1,h2⟩:=zZ r _ h
   exact ⟨k2,by simp [h1],h2⟩
theorem lay_all {ns:List Nd} {N:Nms} {R:In4->Prop} (hL:Lays ns) (hJ:∀a:Int,R ⟨16,a,0,0⟩/\R ⟨15,a,0,0⟩) (D:Nat->Prop) (hD:∀(i:Nat) (h:i<ns.length),D i->∀j:Nat,(j:Int)∈ns[i].of->D j) (hO:∀(i:Nat) (h:i<ns.length),D i->∀y∈dP N ns[i],R y) (k:Nat):k<ns.length->D k->∀a:Nat,∀y∈lay ns N k a,R y:=by
 induction k using Nat.strongRecOn with
 | ind k ih=>
  intro hk hd a;have hc:∀c∈ns[k].of,∀a:Nat,∀y∈lay ns N c a,R y:=fun c hcm a=>by
   obtain ⟨h1,h2⟩:=hL.low k hk c hcm;obtain ⟨m,rfl⟩:∃m:Nat,c=(m:Int):=⟨c.toNat,by omega⟩
   exact ih m (by omega) (by omega) (hD k hk hd m hcm) a
  have h13:=hL.ifs k hk;have h14:=hL.zC k hk;have ho:=hO k hk hd;rw [DT N hL k hk a];generalize ns[k]=x at *;intro y hy
  split at hy
  ·rename_i k13
   have h13:=h13 k13;have c0:=hc _ (getD_mem (show 0<x.of.length by omega));have c1:=hc _ (getD_mem (show 1<x.of.length by omega))
   split at hy
   ·simp only [List.mem_append,List.mem_cons] at hy
    rcases hy with hy|rfl|hy
    ·exact c0 _ _ hy
    ·exact (hJ _).1
    ·exact c1 _ _ hy
   ·have c2:=hc _ (getD_mem (show 2<x.of.length by omega))
    simp only [List.mem_append,List.mem_cons] at hy
    rcases hy with hy|rfl|hy|rfl|hy
    ·exact c0 _ _ hy
    ·exact (hJ _).1
    ·exact c1 _ _ hy
    ·exact (hJ _).2
    ·exact c2 _ _ hy
  ·split at hy
   ·rename_i k14
    have h14:=h14 k14;have c0:=hc _ (getD_mem (show 0<x.of.length by omega));have c1:=hc _ (getD_mem (show 1<x.of.length by omega));simp only [List.mem_append,List.mem_cons,List.not_mem_nil,or_false] at hy
    rcases hy with hy|rfl|hy|rfl
    ·exact c0 _ _ hy
    ·exact (hJ _).1
    ·exact c1 _ _ hy
    ·exact (hJ _).2
   ·rcases List.mem_append.1 hy with hy|hy
    ·obtain ⟨c,h1,a2,h2⟩:=zZ _ _ hy
     exact hc c h1 a2 y h2
    ·exact ho y hy
theorem I8 {l:List Str} {s:Str} (h:s∈l):∃i:Nat,oK l s=some (i:Int)/\i<l.length:=by
 have:=BN (l:=l) (s:=s);rw [decide_eq_true h,oK,Option.isSome_map] at this
 cases hf:l.findIdx? fun t=>decide (t=s) with
 | none=>rw [hf] at this;cases this
 | some i=>exact ⟨i,by rw [oK,hf];rfl,(List.findIdx?_eq_some_iff_getElem.1 hf).1⟩
theorem Gw {p:Pg} {f:Int} {s:Str}:∀(r:List (Nd×Int)) (l:List Str),(s∈l\/∃x,(x,f)∈r/\jl p x=true/\x.name=s)->s∈JL p f r l
 | [],l,h=>by
  rcases h with h|⟨x,h,_⟩
  ·exact h
  ·simp at h
 | (y,o)::r,l,h=>by
  rw [JL];refine Gw r _ ?_
  rcases h with h|⟨x,hx,h1,h2⟩
  ·refine .inl ?_
   split
   ·exact List.mem_append_left _ h
   ·exact h
  ·rcases List.mem_cons.1 hx with e|hx
   ·injection e with e1 e2
    subst e1 e2 h2;refine .inl ?_;by_cases hm:x.name∈l
    ·rw [if_neg (fun e=>e.2.2 hm)];exact hm
    ·rw [if_pos ⟨h1,rfl,hm⟩];simp
   ·exact .inr ⟨x,hx,h1,h2⟩
theorem M3 {p:Pg} (i:Nat) (hi:i<p.nodes.length):(p.nodes[i],(aU p).getD i 0)∈p.nodes.zip (aU p):=by
 have hl:=dT p;refine List.mem_iff_getElem.2 ⟨i,by simp [hl,hi],?_⟩;rw [List.getElem_zip,List.getD,List.getElem?_eq_getElem (by omega)];rfl
theorem M4 {p:Pg} (h:May p) (i f:Nat) (hi:i<p.nodes.length) (hf:f<p.ae.length) (ho:(aU p).getD i 0=(f:Int)) (hl:jl p p.nodes[i]=true):p.nodes[i].name∈(ao p).getD f []:=by
 rw [FR h.formed f hf];have:=M3 i hi;rw [ho] at this;exact Gw _ _ (.inr ⟨_,this,hl,rfl⟩)
structure Ec (p:Pg):Prop where
 decl:∀d∈p.decls,0<=d.n/\d.n<4294967296
 set:∀x∈p.nodes,x.kind=9->x.name≠[]
theorem Ed {p:Pg} {s:Str} {k:Int} (h:bp p s=some k):rO p s<dj p.decls k:=by
 rw [bp,Option.map_eq_some_iff] at h;obtain ⟨d,hd,rfl⟩:=h;have hne:∃x∈p.decls,x.name=s:=⟨d,List.mem_of_find?_eq_some hd,by simpa using List.find?_some hd⟩
 have hfind:∃i,(p.decls.findIdx? fun d=>decide (d.name=s))=some i:=by
  cases hf:p.decls.findIdx? fun d=>decide (d.name=s) with
  | some i=>exact ⟨i,rfl⟩
  | none=>
   obtain ⟨x,hx,hxs⟩:=hne;have:=List.findIdx?_eq_none_iff.1 hf x hx;simp [hxs] at this
 obtain ⟨i,hi⟩:=hfind;obtain ⟨h1,h2,h3⟩:=List.findIdx?_eq_some_iff_getElem.1 hi;have hdi:p.decls[i]=d:=by
  have:p.decls.find? (fun d=>decide (d.name=s))=some p.decls[i]:=List.find?_eq_some_iff_getElem.2 ⟨h2,i,h1,rfl,fun j hj=>by simpa using h3 j hj⟩;rw [hd] at this;injection this with this;exact this.symm
 have hth:bp p s=some d.kind:=by rw [bp,hd];rfl
 rw [rO,hi,hth];show dj (p.decls.take i) d.kind<dj p.decls d.kind;have e:dj p.decls d.kind=dj (p.decls.take i++p.decls.drop i) d.kind:=by rw [List.take_append_drop]
 rw [e,dj,dj,List.countP_append,List.drop_eq_getElem_cons h1,List.countP_cons,hdi];simp
theorem kj (p:Pg):(DR p).length=dj p.decls 0:=by
 rw [DR,List.length_map,dj,List.countP_eq_length_filter]
theorem May.kinds {p:Pg} (h:May p):dj p.decls 0<=16/\dj p.decls 1<=8/\dj p.decls 2<=8/\dj p.decls 3<=8/\p.ae.length<=16:=by
 have:=h.bound;simp only [gk,Bool.or_eq_false_iff,decide_eq_false_iff_not] at this;obtain ⟨⟨⟨⟨⟨⟨h1,h2⟩,h3⟩,h4⟩,h5⟩,_⟩,_⟩:=this;exact ⟨by rw [dj];omega,by rw [dj];omega,by rw [dj];omega,by rw [dj];omega,by omega⟩
theorem verbs {k:Int} {s:Str} {n:Int} (h:fx k s=some n):(k=1/\((li s=1/\n=1)\/(li s=3/\n=1)\/(li s=2/\n=2)))\/(k=2/\((li s=4/\n=1)\/(li s=5/\n=0)))\/(k=3/\((li s=6/\n=1)\/(li s=7/\n=0))):=by
 rw [fx] at h
 split at h
 ·rename_i hk
  refine .inl ⟨hk,?_⟩
  split at h
  ·rename_i hs
   injection h with h
   rcases hs with rfl|rfl
   ·exact .inl ⟨rfl,h.symm⟩
   ·exact .inr (.inl ⟨rfl,h.symm⟩)
  ·split at h
   ·rename_i hs
    injection h with h;subst hs
    exact .inr (.inr ⟨rfl,h.symm⟩)
   ·cases h
 ·split at h
  ·rename_i hk
   refine .inr (.inl ⟨hk,?_⟩)
   split at h
   ·rename_i hs
    injection h with h;subst hs
    exact .inl ⟨rfl,h.symm⟩
   ·split at h
    ·rename_i hs
     injection h with h;subst hs
     exact .inr ⟨rfl,h.symm⟩
    ·cases h
  ·split at h
   ·rename_i hk
    refine .inr (.inr ⟨hk,?_⟩)
    split at h
    ·rename_i hs
     injection h with h;subst hs
     exact .inl ⟨rfl,h.symm⟩
    ·split at h
     ·rename_i hs
      injection h with h;subst hs
      exact .inr ⟨rfl,h.symm⟩
     ·cases h
   ·cases h
theorem dm {a b:Int} (h:0<=a) (h2:a<b):bm a b=true:=by rw [bm,decide_eq_true h,decide_eq_true h2];rfl
structure Named (p:Pg) (c:Cd):Prop where
 cells:c.cells.length=dj p.decls 0
 maps:c.maps=(dj p.decls 1:Nat)
 stacks:c.stacks=(dj p.decls 2:Nat)
 chans:c.chans=(dj p.decls 3:Nat)
 ae:∀(k:Nat) (h:k<p.ae.length),k<c.ae.length/\(c.ae.getD k default).args=(p.ae[k].args.length:Nat)
 helps:∀(k:Nat),k<(bF p).length->p.ae.length+k<c.ae.length/\(c.ae.getD (p.ae.length+k) default).args=2
theorem BR {s:Str}:∀(r:List Nd) (l:List Str),s∈fZ r l<->s∈l\/∃x∈r,x.kind=11/\x.name2=s
 | [],l=>by simp [fZ]
 | x::r,l=>by
  rw [fZ,BR r]
  split
  ·rename_i h
   simp only [List.mem_append,List.mem_singleton,List.mem_cons,List.not_mem_nil,or_false,exists_eq_or_imp];constructor
   ·rintro ((h1|rfl)|h1)
    ·exact .inl h1
    ·exact .inr (.inl ⟨h.1,rfl⟩)
    ·exact .inr (.inr h1)
   ·rintro (h1|⟨_,rfl⟩|h1)
    ·exact .inl (.inl h1)
    ·exact .inl (.inr rfl)
    ·exact .inr h1
  ·rename_i h
   simp only [List.mem_cons,exists_eq_or_imp];constructor
   ·rintro (h1|h1)
    ·exact .inl h1
    ·exact .inr (.inr h1)
   ·rintro (h1|⟨h1,rfl⟩|h1)
    ·exact .inl h1
    ·refine .inl ?_
     by_cases hm:x.name2∈l
     ·exact hm
     ·exact absurd ⟨h1,hm⟩ h
    ·exact .inr h1
theorem nk {p:Pg} {s:Str}:s∈bF p<->∃x∈p.nodes,x.kind=11/\x.name2=s:=by rw [bF,BR];simp
theorem J6 {p:Pg} (h:May p) (hr:Ec p) {c:Cd} (hc:Named p c) (i f:Nat) (hi:i<p.nodes.length) (hf:f<p.ae.length) (ho:(aU p).getD i 0=(f:Int)) (b:Bd) (hb:b.locals=(((ao p).getD f []).length:Nat)):∀y∈dP (ky p f) p.nodes[i],cr c b y=true:=by
 have hx:p.nodes[i]∈p.nodes:=List.getElem_mem hi;have hz:=M3 i hi;have hln:=fun hl=>M4 h i f hi hf ho hl;have hsh:=(hQ h.formed i hi).2;have hcall:=h.call hx;have hread:=h.read hx;have hset:=hr.set _ hx;have hpar:p.nodes[i].kind=11->p.nodes[i].name2∈bF p:=fun e=>nk.2 ⟨_,hx,e,rfl⟩;have hname:nT p p.nodes[i] (f:Int)=false:=by
  have:=h.name;simp only [nameP,Bool.or_eq_false_iff,List.any_eq_false] at this;have:=this.1.2 _ hz;rw [ho] at this;simpa using this
 have hsort:mZ p p.nodes[i]=false:=by
  have:=h.sort;simp only [o9,List.any_eq_false] at this;simpa using this _ hx
 have Vk:manyN p p.nodes[i]=false:=by
  have:=h.many;simp only [lJ,Bool.or_eq_false_iff,List.any_eq_false] at this;simpa using this.2 _ hx
 generalize p.nodes[i]=x at *;obtain ⟨xk,xn,xs,xt,xo⟩:=x;simp only at hsh hcall hread hset hpar hln;have hloc:xs∈(ao p).getD f []->∃n:Nat,xP (ky p f) xs=(n:Int)/\(n:Int)<b.locals:=fun hm=>by
  obtain ⟨n,e,hn⟩:=I8 hm;refine ⟨n,?_,by rw [hb];omega⟩;show (oK ((ao p).getD f []) xs).getD (-1)=_;rw [e];rfl
 have hth:(ky p f).things xs=(bp p xs).map fun k=>(k,((rO p xs:Nat):Int)):=rfl;intro y hy;by_cases k1:xk=1
 ·subst k1
  obtain rfl:y=⟨1,xn,0,0⟩:=by simpa [dP] using hy
  have:0<=xn/\xn<4294967296:=by simp [ew,dy] at hsh;exact ⟨hsh.1.2,hsh.2⟩
  exact dm this.1 this.2
 by_cases k2:xk=2
 ·subst k2
  cases ht:bp p xs with
  | none=>
   rw [ht] at hth;obtain rfl:y=⟨2,xP (ky p f) xs,0,0⟩:=by simpa [dP,hth] using hy
   have hm:xs∈(ao p).getD f []:=by simpa [nT,ht] using hname
   obtain ⟨n,e,hn⟩:=hloc hm;rw [e];exact dm (by show (0:Int)<=(n:Int);omega) hn
  | some k=>
   rw [ht] at hth;obtain rfl:y=⟨4,(rO p xs:Nat),0,0⟩:=by simpa [dP,hth] using hy
   obtain rfl:k=0:=by simpa [mZ,ht] using hsort
   have:=Ed ht;exact dm (by show (0:Int)<=(rO p xs:Int);omega) (by show ((rO p xs:Nat):Int)<(c.cells.length:Nat);rw [hc.cells];omega)
 by_cases kb:3<=xk/\xk<=7
 ·obtain rfl:y=⟨xk+3,0,0,0⟩:=by simpa [dP,k1,k2,kb] using hy
  rw [cr,if_neg (by simp;omega),if_neg (by simp;omega),if_neg (by simp;omega),if_neg (by simp;omega),if_neg (by simp;omega)]
 by_cases k8:xk=8
 ·subst k8
  obtain ⟨k,ht,_⟩:=hread.1 rfl;rw [ht] at hth;obtain rfl:y=⟨11,li xt,(rO p xs:Nat),(xo.length:Nat)⟩:=by simpa [dP,hth] using hy
  have hnd:(fx k xt).isSome=true:=by simpa [mZ,ht] using hsort
  have hlen:(xo.length:Int)=(fx k xt).getD 0:=by simpa [manyN,ht] using Vk
  have hlt:=Ed ht
  cases hn:fx k xt with
  | none=>rw [hn] at hnd;cases hnd
  | some n=>
   rw [hn] at hlen;have hlen:(xo.length:Int)=n:=hlen;show gC c ⟨11,li xt,(rO p xs:Nat),(xo.length:Nat)⟩=true;rw [gC,hlen];have hb2:∀m:Int,m=(dj p.decls k:Nat)->bm ((rO p xs:Nat):Int) m=true:=fun m hm=>dm (by omega) (by omega)
   rcases verbs hn with ⟨rfl,hv⟩|⟨rfl,hv⟩|⟨rfl,hv⟩
   ·have:=hb2 _ hc.maps
    rcases hv with ⟨e,rfl⟩|⟨e,rfl⟩|⟨e,rfl⟩<;>simp [e,this]
   ·have:=hb2 _ hc.stacks
    rcases hv with ⟨e,rfl⟩|⟨e,rfl⟩<;>simp [e,this]
   ·have:=hb2 _ hc.chans
    rcases hv with ⟨e,rfl⟩|⟨e,rfl⟩<;>simp [e,this]
 by_cases k9:xk=9
 ·subst k9
  cases ht:bp p xs with
  | none=>
   rw [ht] at hth;obtain rfl:y=⟨3,xP (ky p f) xs,0,0⟩:=by simpa [dP,hth] using hy
   have hm:xs∈(ao p).getD f []:=hln (by simp [jl,ht,hset rfl]);obtain ⟨n,e,hn⟩:=hloc hm;rw [e];exact dm (by show (0:Int)<=(n:Int);omega) hn
  | some k=>
   rw [ht] at hth;obtain rfl:y=⟨5,(rO p xs:Nat),0,0⟩:=by simpa [dP,hth] using hy
   obtain rfl:k=0:=by simpa [mZ,ht] using hsort
   have:=Ed ht;exact dm (by show (0:Int)<=(rO p xs:Int);omega) (by show ((rO p xs:Nat):Int)<(c.cells.length:Nat);rw [hc.cells];omega)
 have QW:(xk=10\/xk=11)->(decide (lU (ky p f) xs = -1)||bm (lU (ky p f) xs) b.locals)=true:=fun hk=>by
  by_cases q:xs=[]
  ·rw [lU,if_pos q];rfl
  ·have ht:bp p xs=none:=by
    have e:mZ p ⟨xk,xn,xs,xt,xo⟩=(bp p xs).isSome:=by
     rw [mZ,if_neg (by simp only;omega),if_pos hk]
    rw [e] at hsort;simpa using hsort
   have hm:xs∈(ao p).getD f []:=hln (by rcases hk with rfl|rfl<;>simp [jl,ht,q]);obtain ⟨n,e,hn⟩:=hloc hm;rw [lU,if_neg q,e,dm (by omega) hn,Bool.or_true]
 by_cases k10:xk=10
 ·subst k10
  obtain ⟨m,hm,hfm,ha,_⟩:=hcall (.inl rfl);have hfu:(ky p f).ae xt=((m:Nat):Int):=by show (((dD p xt).getD 0:Nat):Int)=_;rw [hfm];rfl
  obtain rfl:y=⟨13,(m:Nat),(xo.length:Nat),lU (ky p f) xs⟩:=by simpa [dP,hfu] using hy
  obtain ⟨g1,g2⟩:=hc.ae m hm;show (bm ((m:Nat):Int) (c.ae.length:Nat)&&decide (((xo.length:Nat):Int)=(c.ae.getD m default).args)&&(decide (lU (ky p f) xs = -1)||bm (lU (ky p f) xs) b.locals))=true;rw [QW (.inl rfl),dm (by omega) (by omega),g2,decide_eq_true (by rw [ha rfl])];rfl
 by_cases k11:xk=11
 ·subst k11
  obtain ⟨n,e,hn⟩:=I8 (hpar rfl);have hfu:(ky p f).helps xt=((p.ae.length+n:Nat):Int):=by
   show (match oK (bF p) xt with|some i=>(p.ae.length:Nat)+i|none=>0)=_;rw [e];simp
  obtain rfl:y=⟨13,(p.ae.length+n:Nat),2,lU (ky p f) xs⟩:=by simpa [dP,hfu] using hy
  obtain ⟨g1,g2⟩:=hc.helps n hn;show (bm ((p.ae.length+n:Nat):Int) (c.ae.length:Nat)&&decide (2=(c.ae.getD (p.ae.length+n) default).args)&&(decide (lU (ky p f) xs = -1)||bm (lU (ky p f) xs) b.locals))=true;rw [QW (.inr rfl),dm (by omega) (by omega),g2];rfl
 have hrest:y=⟨14,0,0,0⟩\/y=⟨17,0,0,0⟩\/y=⟨18,0,0,0⟩\/y=⟨12,0,0,0⟩:=by
  simp only [dP,if_neg k1,if_neg k2,if_neg kb,if_neg k8,if_neg k9,if_neg k10,if_neg k11] at hy
  split at hy
  ·simp at hy;exact .inl hy
  split at hy
  ·simp at hy;exact .inr (.inl hy)
  split at hy
  ·simp at hy;exact .inr (.inr (.inl hy))
  split at hy
  ·simp at hy;exact .inr (.inr (.inr hy))
  ·simp at hy
 rcases hrest with rfl|rfl|rfl|rfl<;>rfl
end Uw.Tryz
namespace Uw.Tryz
open Go Uw
def rd (l:List Tok) (k:Nat) (xs:List (List Dat)):List Blk:=[.var [.d (uR l),.d (I k),.ref 1 0 0 xs.length],.arr 5 xs]
theorem bO (l:List Tok) (k:Nat) (xs:List (List Dat)) (hk:k<=l.length):bk P0 lK [.ptr 0 0] (rd l k xs) (.d (.str (hd (l.drop k)))) (rd l k xs):=by
 have e1:(l.map rc).length=l.length:=by simp
 by_cases h:k<l.length
 ·have e:hd (l.drop k)=l[k].text:=by rw [List.drop_eq_getElem_cons h];rfl
  rw [e];refine aG kS rfl ?_
  repeat' first|refine aw ?_|refine bw (fun _=>?_) fun _=>?_
  exact aF 2 rfl rfl (by exact Uw.wW)
 ·have e:hd (l.drop k)=[]:=by rw [List.drop_eq_nil_of_le (by omega)];rfl
  rw [e];refine aG kS rfl ?_
  repeat' first|refine aw ?_|refine bw (fun _=>?_) fun _=>?_
  exact aF 2 rfl rfl (by exact Uw.wW)
abbrev cT:Dat:=.iface AL (.agg [])
theorem bK (l:List Tok) (k:Nat) (xs:List (List Dat)) (hk:k<=l.length) (hl:l.length<1000000) (s:Str) (hs:s≠[]):bk P0 lP [.ptr 0 0,.d (.str s)] (rd l k xs) (.d (.bool (decide (hd (l.drop k)=s)))) (rd l (if hd (l.drop k)=s then k+1 else k) xs):=by
 have pk:=bO l k xs hk;by_cases h:hd (l.drop k)=s
 ·rw [if_pos h,decide_eq_true h]
  rw [h] at pk;have hkl:k<l.length:=by
   rcases Nat.lt_or_ge k l.length with h1|h1
   ·exact h1
   ·rw [List.drop_eq_nil_of_le h1] at h;exact absurd h.symm hs
  clear h;refine aG kW rfl ?_
  repeat' first|refine aw ?_|refine bw (fun _=>?_) fun _=>?_
  refine ag 2 [0,1] pk ?_
  repeat' first|refine aw ?_|refine bw (fun _=>?_) fun _=>?_
  exact aF 2 rfl rfl (by exact Uw.wW)
 ·rw [if_neg h,decide_eq_false h]
  generalize hd (l.drop k)=p at *;refine aG kW rfl ?_
  repeat' first|refine aw ?_|refine bw (fun _=>?_) fun _=>?_
  refine ag 2 [0,1] pk ?_
  repeat' first|refine aw ?_|refine bw (fun _=>?_) fun _=>?_
  exact aF 2 rfl rfl (by exact Uw.wW)
theorem aN (l:List Tok) (k:Nat) (xs:List (List Dat)) (hk:k<=l.length) (hl:l.length<1000000) (s:Str) (hs:s≠[]) (h:hd (l.drop k)=s):bk P0 iO [.ptr 0 0,.d (.str s)] (rd l k xs) (.tuple []) (rd l (k+1) xs):=by
 have hv:=bK l k xs hk hl s hs;rw [if_pos h,decide_eq_true h] at hv;refine aG kX rfl ?_
 repeat' first|refine aw ?_|refine bw (fun _=>?_) fun _=>?_
 refine ag 2 [0,1] hv ?_
 repeat' first|refine aw ?_|refine bw (fun _=>?_) fun _=>?_
 exact dp 2 rfl rfl (by exact Uw.wW)
theorem aZ (l:List Tok) (k:Nat) (xs:List (List Dat)) (hk:k<=l.length) (hl:l.length<1000000) (s:Str) (hs:s≠[]) (h:hd (l.drop k)≠s):kP P0 iO [.ptr 0 0,.d (.str s)] (rd l k xs) cT:=by
 have hv:=bK l k xs hk hl s hs;rw [if_neg h,decide_eq_false h] at hv;refine aL kX rfl ?_
 repeat' first|refine aw ?_|refine bw (fun _=>?_) fun _=>?_
 refine ag 2 [0,1] hv ?_
 repeat' first|refine aw ?_|refine bw (fun _=>?_) fun _=>?_
 exact aM rfl
theorem fk (l:List Tok) (k:Nat) (xs:List (List Dat)) (hk:k<=l.length) (hl:l.length<1000000) (K:Int) (h:k<l.length) (hK:l[k].kind=K):bk P0 ej [.ptr 0 0,.d (I K)] (rd l k xs) (.agg ((rc l[k]).map V.d)) (rd l (k+1) xs):=by
 have e1:(l.map rc).length=l.length:=by simp
 have he:(l.map rc)[((k:Int)+1 - 1).toNat]? = some (rc l[k]):=by
  rw [show ((k:Int)+1 - 1).toNat=k by omega];exact CY _ _ _ h
 refine aG gX rfl ?_
 repeat' first|refine aw ?_|refine bw (fun _=>?_) fun _=>?_
 exact aF 2 rfl rfl (by exact Uw.wW)
theorem iQ (l:List Tok) (k:Nat) (xs:List (List Dat)) (hk:k<=l.length) (hl:l.length<1000000) (K:Int) (h:∀(h:k<l.length),l[k].kind≠K):kP P0 ej [.ptr 0 0,.d (I K)] (rd l k xs) cT:=by
 have e1:(l.map rc).length=l.length:=by simp
 by_cases h1:k<l.length
 ·have h2:=h h1
  clear h;refine aL gX rfl ?_
  repeat' first|refine aw ?_|refine bw (fun _=>?_) fun _=>?_
  exact aM rfl
 ·clear h
  refine aL gX rfl ?_
  repeat' first|refine aw ?_|refine bw (fun _=>?_) fun _=>?_
  exact aM rfl
theorem sP (l:List Tok) (k:Nat) (xs:List (List Dat)) (hk:k<=l.length) (hl:l.length<1000000) (h:k<l.length) (hK:l[k].kind=1) (hw:AG l[k].text=false):bk P0 cg [.ptr 0 0] (rd l k xs) (.d (.str l[k].text)) (rd l (k+1) xs):=by
 have wd:=fk l k xs hk hl 1 h hK;simp only [AG,Bool.or_eq_false_iff,decide_eq_false_iff_not,E5,LU,yT,E6,nO,gg,pU,wT,sIf,wU,tR,nP,nQ] at hw;obtain ⟨⟨⟨⟨⟨⟨⟨⟨⟨⟨⟨⟨w1,w2⟩,w3⟩,w4⟩,w5⟩,w6⟩,w7⟩,w8⟩,w9⟩,w10⟩,w11⟩,w12⟩,w13⟩:=hw;refine aG gY rfl ?_
 repeat' first|refine aw ?_|refine bw (fun _=>?_) fun _=>?_
 refine ag 2 [0,1] wd ?_
 repeat' first|refine aw ?_|refine bw (fun _=>?_) fun _=>?_
 exact aF 2 rfl rfl (by exact Uw.wW)
theorem iR (l:List Tok) (k:Nat) (xs:List (List Dat)) (hk:k<=l.length) (hl:l.length<1000000) (h:∀(h:k<l.length),l[k].kind≠1\/AG l[k].text=true):kP P0 cg [.ptr 0 0] (rd l k xs) cT:=by
 by_cases h1:∃h1:k<l.length,l[k].kind=1
 ·obtain ⟨h1,h2⟩:=h1
  have h3:=(h h1).resolve_left (fun e=>e h2);clear h;have wd:=fk l k xs hk hl 1 h1 h2;generalize l[k]=t at *;simp only [AG,Bool.or_eq_true,decide_eq_true_eq,or_assoc] at h3
  rcases h3 with h3|h3|h3|h3|h3|h3|h3|h3|h3|h3|h3|h3|h3
  all_goals
   rw [rc,h3] at wd;refine aL gY rfl ?_
   repeat' first|refine aw ?_|refine bw (fun _=>?_) fun _=>?_
   refine ag 2 [0,1] wd ?_
   repeat' first|refine aw ?_|refine bw (fun _=>?_) fun _=>?_
   exact aM rfl
 ·have wd:=iQ l k xs hk hl 1 (fun h h2=>h1 ⟨h,h2⟩)
  refine aL gY rfl ?_
  repeat' first|refine aw ?_|refine bw (fun _=>?_) fun _=>?_
  refine bh 2 [0,1] wd ?_;intro h n
  repeat' first|refine aw ?_|refine bw (fun _=>?_) fun _=>?_
  exact aM rfl
def ofD (kind:Int) (of:List Nat):Dat:=
 if kind=1\/kind=2\/kind=12 then .nil
 else if kind=8\/kind=10\/kind=11 then (if of=[] then .nil else .slice 1 (of.map fun (i:Nat)=>[I i]) false)
 else if kind=13\/kind=18 then .slice 1 (of.map fun (i:Nat)=>[I i]) false
 else .slice 1 (of.map fun (i:Nat)=>[I i]) true
def bW (x:Nod):List Dat:=[I x.kind,I x.n,.str x.name,.str x.name2,ofD x.kind x.of]
theorem un (l:List Tok) (k:Nat) (xs:List (List Dat)) (hx:xs.length<1000000) (a b:Int) (c d:Str) (o:Dat) (ho:o = .nil\/∃ys z,o = .slice 1 ys z):bk P0 bD [.ptr 0 0,.agg [.d (I a),.d (I b),.d (.str c),.d (.str d),.d o]] (rd l k xs) (.d (I xs.length)) (rd l k (xs++[[I a,I b,.str c,.str d,o]])):=by
 have e0:((xs.length+1:Nat):Int) - 1=(xs.length:Nat):=by omega
 rcases ho with rfl|⟨ys,z,rfl⟩
 ·refine aG iP rfl ?_
  repeat' first|refine aw ?_|refine bw (fun _=>?_) fun _=>?_
  refine bZ ⟨[(0,.ptr 0 0)],[(0,.var [.d (uR l),.d (I k),.ref 1 0 0 (xs.length+1)]),(1,.arr 5 (xs++[[I a,I b,.str c,.str d,.nil]]))],3,[],2⟩ ?_ ?_
  ·repeat' first|refine aw ?_|refine bw (fun _=>?_) fun _=>?_
   exact aY (.inl ⟨rfl,by exact Uw.wW⟩)
  ·repeat' first|refine aw ?_|refine bw (fun _=>?_) fun _=>?_
   exact aF 2 rfl rfl (by exact Uw.wW)
 ·refine aG iP rfl ?_
  repeat' first|refine aw ?_|refine bw (fun _=>?_) fun _=>?_
  refine bZ ⟨[(0,.ptr 0 0)],[(0,.var [.d (uR l),.d (I k),.ref 1 0 0 (xs.length+1)]),(1,.arr 5 (xs++[[I a,I b,.str c,.str d,.slice 1 ys z]]))],3,[],2⟩ ?_ ?_
  ·repeat' first|refine aw ?_|refine bw (fun _=>?_) fun _=>?_
   exact aY (.inl ⟨rfl,by exact Uw.wW⟩)
  ·repeat' first|refine aw ?_|refine bw (fun _=>?_) fun _=>?_
   exact aF 2 rfl rfl (by exact Uw.wW)
end Uw.Tryz
namespace Uw.Tryz
open Go Uw
def rdN (l:List Tok) (k:Nat) (ns:List Nod):List Blk:=rd l k (ns.map bW)
inductive Out where
 | ok (v:V) (bs:List Blk)
 | bad
 | out
def cY (f:FuncId) (vs:List V) (bs:List Blk) (x:Out):Prop:=
 match x with
 | .ok v bs'=>bk P0 f vs bs v bs'
 | .bad=>kP P0 f vs bs cT
 | .out=>True
def OQ (b:Nat) (res:List jh) (x:Out):aH->St->Prop:=
 match x with
 | .ok v bs'=>EQ b res v bs'
 | .bad=>PQ res cT
 | .out=>fun _ _=>True
theorem sq {f:FuncId} {m:bJ} {vs:List V} {bs:List Blk} {x:Out} (hf:aR P0 f m) (hn:Nat.ble vs.length m.n=true) (hx:x≠.out) (hw:WT P0 (OQ bs.length m.res x) (exec m.code ⟨fr 0 vs,br 0 bs,bs.length,[],bs.length⟩ Tree.done)):cY f vs bs x:=by
 cases x with
 | ok v bs'=>exact aG hf hn hw
 | bad=>exact aL hf hn hw
 | out=>exact absurd rfl hx
theorem vB (b:Nat) {res:List jh} {x:Out} {v:V} {bs' : List Blk} {vs' : List V} {st:St} (hx:x = .ok v bs') (hd:st.defers=[]) (hr:resV st res=some vs') (hw:Weak ⟨[(0,o4 vs')],st.heap,st.next,[],b⟩ ⟨[(0,v)],br 0 bs',bs'.length,[],b⟩):WT P0 (OQ b res x) (.done .ret st):=by
 subst hx;exact aF b hd hr hw
theorem mq (b:Nat) {res:List jh} {x:Out} {st:St} (hx:x = .bad) (hd:st.defers=[]):WT P0 (OQ b res x) (.done (.panic cT) st):=by
 subst hx;exact aM hd
def Gx (l:List Tok) (ns:List Nod) (x:R Ex):Out:=
 match x with
 | .ok e r=>.ok (.d (I ((ns.length+e.sz - 1:Nat)))) (rdN l (l.length - r.length) (ns++e.flat ns.length))
 | .bad=>.bad
 | .out=>.out
abbrev OkE (f:FuncId) (l:List Tok) (k:Nat) (ns:List Nod) (x:R Ex):Prop:=cY f [.ptr 0 0] (rdN l k ns) (Gx l ns x)
theorem I9 {l:List Tok} {ns:List Nod} {x:R Ex} (h:x≠.out):Gx l ns x≠.out:=by cases x<;>first|exact absurd rfl h|(intro h;cases h)
theorem M5 (k:Int) (of:List Nat):ofD k of = .nil\/∃ys z,ofD k of = .slice 1 ys z:=by
 unfold ofD
 repeat' split
 all_goals first|exact .inl rfl|exact .inr ⟨_,_,rfl⟩
theorem qm (l:List Tok) (k:Nat) (ns ms:List Nod) (nd:Nod) (hms:ms=ns++[nd]) (p:Nat) (hp:p=ns.length) (hx:ns.length<1000000) :
  bk P0 bD [.ptr 0 0,.agg [.d (I nd.kind),.d (I nd.n),.d (.str nd.name),.d (.str nd.name2),.d (ofD nd.kind nd.of)]] (rdN l k ns) (.d (I p)) (rdN l k ms):=by
 subst hms hp;have:=un l k (ns.map bW) (by simpa using hx) nd.kind nd.n nd.name nd.name2 (ofD nd.kind nd.of) (M5 _ _);have e:(ns++[nd]).map bW=ns.map bW++[[I nd.kind,I nd.n,.str nd.name,.str nd.name2,ofD nd.kind nd.of]]:=by simp [bW]
 rw [rdN,rdN,e];simpa using this
theorem en {l:List Tok} {k:Nat} {s:Str} (h:hd (l.drop k)=s) (hs:s≠[]):k<l.length:=by
 rcases Nat.lt_or_ge k l.length with h1|h1
 ·exact h1
 ·rw [List.drop_eq_nil_of_le h1] at h;exact absurd h.symm hs
theorem len_drop {l:List Tok} {k:Nat} (h:k<=l.length):l.length - (l.drop k).length=k:=by simp;omega
theorem rR {l r:List Tok} {k s:Nat} (h:Suf (l.drop k) r s) (hk:k<=l.length):∃k',k'<=l.length/\r=l.drop k'/\k+s<=k':=by
 obtain ⟨j,h1,rfl,h3⟩:=h;simp at h1;exact ⟨k+j,by omega,by rw [List.drop_drop],by omega⟩
def Exs.Aa (es:Exs) (b:Nat):Dat:=ofD 8 (es.places b)
def outA (l:List Tok) (ns:List Nod) (x:R Exs):Out:=
 match x with
 | .ok es r=>.ok (.d (es.Aa ns.length)) (rdN l (l.length - r.length) (ns++es.flat ns.length))
 | .bad=>.bad
 | .out=>.out
def M6 (l:List Tok) (ns:List Nod) (s:Str) (x:R (Str×Exs)):Out:=
 match x with
 | .ok y r=>.ok (.d (I ((ns.length+(Ex.call s y.1 y.2).sz - 1:Nat)))) (rdN l (l.length - r.length) (ns++(Ex.call s y.1 y.2).flat ns.length))
 | .bad=>.bad
 | .out=>.out
structure CE (l:List Tok) (n:Nat):Prop where
 args:∀k ns,k<=l.length->ns.length<=k->cY fh [.ptr 0 0] (rdN l k ns) (outA l ns (gw n (l.drop k)))
 call:∀s k ns,k<=l.length->ns.length<=k->cY cS [.ptr 0 0,.d (.str s)] (rdN l k ns) (M6 l ns s (gR n s (l.drop k)))
 qC:∀k ns,k<=l.length->ns.length<=k->OkE fS l k ns (jx n (l.drop k))
 prod:∀k ns,k<=l.length->ns.length<=k->OkE fR l k ns (iH n (l.drop k))
 sum:∀k ns,k<=l.length->ns.length<=k->OkE jm l k ns (nE n (l.drop k))
 expr:∀k ns,k<=l.length->ns.length<=k->OkE bS l k ns (dL n (l.drop k))
theorem wE {f:FuncId} {l:List Tok} {k:Nat} {ns:List Nod} {x:R Ex} (h:OkE f l k ns x) (hk:k<=l.length) (hs:∀e r,x = .ok e r->Suf (l.drop k) r e.sz) :
  x = .out\/(x = .bad/\kP P0 f [.ptr 0 0] (rdN l k ns) cT)\/∃e k',x = .ok e (l.drop k')/\k'<=l.length/\k+e.sz<=k'/\bk P0 f [.ptr 0 0] (rdN l k ns) (.d (I ((ns.length+e.sz - 1:Nat)))) (rdN l k' (ns++e.flat ns.length)):=by
 cases x with
 | out=>exact .inl rfl
 | bad=>exact .inr (.inl ⟨rfl,h⟩)
 | ok e r=>
  obtain ⟨k',h1,rfl,h2⟩:=rR (hs e r rfl) hk;refine .inr (.inr ⟨e,k',rfl,h1,h2,?_⟩);have h:bk P0 f [.ptr 0 0] (rdN l k ns) (.d (I ((ns.length+e.sz - 1:Nat)))) (rdN l (l.length - (l.drop k').length) (ns++e.flat ns.length)):=h;rw [len_drop h1] at h;exact h
theorem M7 (ns:List Nod) (k:Int) (x y:Ex):ns++(Ex.bin k x y).flat ns.length=ns++x.flat ns.length++y.flat (ns++x.flat ns.length).length++[⟨k,0,[],[],[ns.length+x.sz - 1,(ns++x.flat ns.length).length+y.sz - 1]⟩]:=by
 simp [Ex.flat,Ex.aB]
theorem vC (l:List Tok) (k:Nat) (ns:List Nod) (K:Int) (x y:Ex) (hx:(ns++x.flat ns.length++y.flat (ns++x.flat ns.length).length).length<1000000) (hK:3<=K/\K<=7) :
  bk P0 bD [.ptr 0 0,.agg [.d (I K),.d (I 0),.d (.str []),.d (.str []),.d (.slice 1 [[I ((ns.length+x.sz - 1:Nat))],[I (((ns++x.flat ns.length).length+y.sz - 1:Nat))]] true)]] (rdN l k (ns++x.flat ns.length++y.flat (ns++x.flat ns.length).length)) (.d (I ((ns.length+(Ex.bin K x y).sz - 1:Nat)))) (rdN l k (ns++(Ex.bin K x y).flat ns.length)):=by
 have:=qm l k _ _ _ (M7 ns K x y) (ns.length+(Ex.bin K x y).sz - 1) (by simp [Ex.sz,Ex.aB];try omega) hx;have e:ofD K [ns.length+x.sz - 1,(ns++x.flat ns.length).length+y.sz - 1] = .slice 1 [[I ((ns.length+x.sz - 1:Nat))],[I (((ns++x.flat ns.length).length+y.sz - 1:Nat))]] true:=by
  unfold ofD;rw [if_neg (by omega),if_neg (by omega),if_neg (by omega)];rfl
 simp only [e] at this;exact this
theorem Tf (l:List Tok) (hl:l.length<1000000) (n:Nat) (ih:∀m,m<=n->CE l m) (k:Nat) (ns:List Nod) (hk:k<=l.length) (hn:ns.length<=k):OkE fR l k ns (iH (n+1) (l.drop k)):=by
 rw [iH]
 rcases wE ((ih n (Nat.le_refl _)).qC k ns hk hn) hk (fun e r h=>(eM n).qC _ _ _ h) with h0|⟨h0,h1⟩|⟨e,k1,h0,hk1,np,h1⟩
 ·rw [h0];exact trivial
 ·rw [h0]
  refine aL jB rfl ?_
  repeat' first|refine aw ?_|refine bw (fun _=>?_) fun _=>?_
  refine bh 2 [0,1] h1 ?_;intro h m
  repeat' first|refine aw ?_|refine bw (fun _=>?_) fun _=>?_
  exact aM rfl
 ·rw [h0]
  show OkE _ _ _ _ (eK n e (l.drop k1));by_cases hout:eK n e (l.drop k1) = .out
  ·rw [hout];exact trivial
  generalize hR:eK n e (l.drop k1)=R at hout;refine sq jB rfl (I9 hout) ?_
  repeat' first|refine aw ?_|refine bw (fun _=>?_) fun _=>?_
  refine ag 2 [0,1] h1 ?_
  repeat' first|refine aw ?_|refine bw (fun _=>?_) fun _=>?_
  refine dG (fun ((e,k1,m):Ex×Nat×Nat)=>⟨[(3,.d (I ↑(ns.length+e.sz - 1))),(0,.ptr 0 0)],br 0 (rdN l k1 (ns++e.flat ns.length)),2,[],2⟩) (fun (e,k1,m)=>eK m e (l.drop k1)=R/\m<=n/\k1<=l.length/\k+e.sz<=k1) (fun (_,_,m)=>m) (e,k1,n) (by exact Uw.wW) ⟨hR,Nat.le_refl _,hk1,np⟩ ?_;clear hR h0 h1 hk1 np;rintro ⟨e,k1,m⟩ ⟨hR,hm,hk1,hk2⟩
  cases m with
  | zero=>rw [eK] at hR;exact absurd hR.symm hout
  | succ m=>
   rw [eK] at hR;have pk:=bO l k1 ((ns++e.flat ns.length).map bW) hk1;have hfl:(ns++e.flat ns.length).length=ns.length+e.sz:=by simp [Ex.aB]
   by_cases hs:hd (l.drop k1)=[42]
   ·have hlt:=en hs (by simp)
    rw [if_pos hs,List.tail_drop] at hR;rw [hs] at pk
    rcases wE ((ih m (by omega)).qC (k1+1) (ns++e.flat ns.length) (by omega) (by omega)) (by omega) (fun e r h=>(eM m).qC _ _ _ h) with h0|⟨h0,h1⟩|⟨y,k2,h0,hk3,Gy,h1⟩
    ·rw [h0] at hR;exact absurd hR.symm hout
    ·rw [h0] at hR
     have hb:Gx l ns R = .bad:=by rw [<- hR];rfl
     clear ih hR hout hs
     repeat' first|refine aw ?_|refine bw (fun _=>?_) fun _=>?_
     refine ag 2 [0,1] pk ?_
     repeat' first|refine aw ?_|refine bw (fun _=>?_) fun _=>?_
     refine dF bX rfl ?_
     repeat' first|refine aw ?_|refine bw (fun _=>?_) fun _=>?_
     refine bh 2 [0,1] h1 ?_;intro h q
     repeat' first|refine aw ?_|refine bw (fun _=>?_) fun _=>?_
     refine nN rfl ?_
     repeat' first|refine aw ?_|refine bw (fun _=>?_) fun _=>?_
     exact mU (mq 2 hb rfl)
    ·rw [h0] at hR
     have hR:eK m (.bin 5 e y) (l.drop k2)=R:=hR;have hp:=vC l k2 ns 5 e y (by simp [Ex.aB];omega) (by omega);clear ih hout hs
     repeat' first|refine aw ?_|refine bw (fun _=>?_) fun _=>?_
     refine ag 2 [0,1] pk ?_
     repeat' first|refine aw ?_|refine bw (fun _=>?_) fun _=>?_
     refine dF bX rfl ?_
     repeat' first|refine aw ?_|refine bw (fun _=>?_) fun _=>?_
     refine ag 2 [0,1] h1 ?_
     repeat' first|refine aw ?_|refine bw (fun _=>?_) fun _=>?_
     refine ag 2 [0,1] hp ?_
     repeat' first|refine aw ?_|refine bw (fun _=>?_) fun _=>?_
     refine dX rfl rfl ?_
     repeat' first|refine aw ?_|refine bw (fun _=>?_) fun _=>?_
     exact cv (.bin 5 e y,k2,m) ⟨hR,by omega,hk3,by rw [Ex.sz];omega⟩ (by simp only;omega) (by exact Uw.wW)
   ·rw [if_neg hs] at hR
    have hb:Gx l ns R = .ok (.d (I ((ns.length+e.sz - 1:Nat)))) (rdN l k1 (ns++e.flat ns.length)):=by rw [<- hR];show Out.ok _ (rdN l (l.length - (l.drop k1).length) _)=_;rw [len_drop hk1]
    generalize hd (l.drop k1)=p at *;clear ih hR hout
    repeat' first|refine aw ?_|refine bw (fun _=>?_) fun _=>?_
    refine ag 2 [0,1] pk ?_
    repeat' first|refine aw ?_|refine bw (fun _=>?_) fun _=>?_
    exact vB 2 hb rfl rfl (by exact Uw.wW)
end Uw.Tryz
namespace Uw.Tryz
open Go Uw
theorem Vl (l:List Tok) (hl:l.length<1000000) (n:Nat) (ih:∀m,m<=n->CE l m) (k:Nat) (ns:List Nod) (hk:k<=l.length) (hn:ns.length<=k):OkE jm l k ns (nE (n+1) (l.drop k)):=by
 rw [nE]
 rcases wE ((ih n (Nat.le_refl _)).prod k ns hk hn) hk (fun e r h=>(eM n).prod _ _ _ h) with h0|⟨h0,h1⟩|⟨e,k1,h0,hk1,np,h1⟩
 ·rw [h0];exact trivial
 ·rw [h0]
  refine aL lS rfl ?_
  repeat' first|refine aw ?_|refine bw (fun _=>?_) fun _=>?_
  refine bh 2 [0,1] h1 ?_;intro h m
  repeat' first|refine aw ?_|refine bw (fun _=>?_) fun _=>?_
  exact aM rfl
 ·rw [h0]
  show OkE _ _ _ _ (fF n e (l.drop k1));by_cases hout:fF n e (l.drop k1) = .out
  ·rw [hout];exact trivial
  generalize hR:fF n e (l.drop k1)=R at hout;refine sq lS rfl (I9 hout) ?_
  repeat' first|refine aw ?_|refine bw (fun _=>?_) fun _=>?_
  refine ag 2 [0,1] h1 ?_
  repeat' first|refine aw ?_|refine bw (fun _=>?_) fun _=>?_
  refine dG (fun ((e,k1,m):Ex×Nat×Nat)=>⟨[(3,.d (I ↑(ns.length+e.sz - 1))),(0,.ptr 0 0)],br 0 (rdN l k1 (ns++e.flat ns.length)),2,[],2⟩) (fun (e,k1,m)=>fF m e (l.drop k1)=R/\m<=n/\k1<=l.length/\k+e.sz<=k1) (fun (_,_,m)=>m) (e,k1,n) (by exact Uw.wW) ⟨hR,Nat.le_refl _,hk1,np⟩ ?_;clear hR h0 h1 hk1 np;rintro ⟨e,k1,m⟩ ⟨hR,hm,hk1,hk2⟩
  cases m with
  | zero=>rw [fF] at hR;exact absurd hR.symm hout
  | succ m=>
   rw [fF] at hR;have pk:=bO l k1 ((ns++e.flat ns.length).map bW) hk1;have hfl:(ns++e.flat ns.length).length=ns.length+e.sz:=by simp [Ex.aB]
   by_cases hs:hd (l.drop k1)=[43]\/hd (l.drop k1)=[45]
   ·have hlt:k1<l.length:=by rcases hs with hs|hs<;>exact en hs (by simp)
    rcases wE ((ih m (by omega)).prod (k1+1) (ns++e.flat ns.length) (by omega) (by omega)) (by omega) (fun e r h=>(eM m).prod _ _ _ h) with h0|⟨h0,h1⟩|⟨y,k2,h0,hk3,Gy,h1⟩
    ·exfalso
     rcases hs with hs|hs
     ·rw [if_pos hs,List.tail_drop,h0] at hR;exact hout hR.symm
     ·rw [if_neg (by rw [hs];decide),if_pos hs,List.tail_drop,h0] at hR;exact hout hR.symm
    ·have hb:Gx l ns R = .bad:=by
      rcases hs with hs|hs
      ·rw [if_pos hs,List.tail_drop,h0] at hR;rw [<- hR];rfl
      ·rw [if_neg (by rw [hs];decide),if_pos hs,List.tail_drop,h0] at hR;rw [<- hR];rfl
     clear ih hR hout
     rcases hs with hs|hs
     all_goals
      rw [hs] at pk;clear hs
      repeat' first|refine aw ?_|refine bw (fun _=>?_) fun _=>?_
      refine ag 2 [0,1] pk ?_
      repeat' first|refine aw ?_|refine bw (fun _=>?_) fun _=>?_
      refine dF bX rfl ?_
      repeat' first|refine aw ?_|refine bw (fun _=>?_) fun _=>?_
      refine bh 2 [0,1] h1 ?_;intro h q
      repeat' first|refine aw ?_|refine bw (fun _=>?_) fun _=>?_
      refine nN rfl ?_
      repeat' first|refine aw ?_|refine bw (fun _=>?_) fun _=>?_
      exact mU (mq 2 hb rfl)
    ·rcases hs with hs|hs
     ·have hR:fF m (.bin 3 e y) (l.drop k2)=R:=by rw [if_pos hs,List.tail_drop,h0] at hR;exact hR
      have hp:=vC l k2 ns 3 e y (by simp [Ex.aB];omega) (by omega);rw [hs] at pk;clear ih hout hs
      repeat' first|refine aw ?_|refine bw (fun _=>?_) fun _=>?_
      refine ag 2 [0,1] pk ?_
      repeat' first|refine aw ?_|refine bw (fun _=>?_) fun _=>?_
      refine dF bX rfl ?_
      repeat' first|refine aw ?_|refine bw (fun _=>?_) fun _=>?_
      refine ag 2 [0,1] h1 ?_
      repeat' first|refine aw ?_|refine bw (fun _=>?_) fun _=>?_
      refine ag 2 [0,1] hp ?_
      repeat' first|refine aw ?_|refine bw (fun _=>?_) fun _=>?_
      refine dX rfl rfl ?_
      repeat' first|refine aw ?_|refine bw (fun _=>?_) fun _=>?_
      exact cv (.bin 3 e y,k2,m) ⟨hR,by omega,hk3,by rw [Ex.sz];omega⟩ (by simp only;omega) (by exact Uw.wW)
     ·have hR:fF m (.bin 4 e y) (l.drop k2)=R:=by rw [if_neg (by rw [hs];decide),if_pos hs,List.tail_drop,h0] at hR;exact hR
      have hp:=vC l k2 ns 4 e y (by simp [Ex.aB];omega) (by omega);rw [hs] at pk;clear ih hout hs
      repeat' first|refine aw ?_|refine bw (fun _=>?_) fun _=>?_
      refine ag 2 [0,1] pk ?_
      repeat' first|refine aw ?_|refine bw (fun _=>?_) fun _=>?_
      refine dF bX rfl ?_
      repeat' first|refine aw ?_|refine bw (fun _=>?_) fun _=>?_
      refine ag 2 [0,1] h1 ?_
      repeat' first|refine aw ?_|refine bw (fun _=>?_) fun _=>?_
      refine ag 2 [0,1] hp ?_
      repeat' first|refine aw ?_|refine bw (fun _=>?_) fun _=>?_
      refine dX rfl rfl ?_
      repeat' first|refine aw ?_|refine bw (fun _=>?_) fun _=>?_
      exact cv (.bin 4 e y,k2,m) ⟨hR,by omega,hk3,by rw [Ex.sz];omega⟩ (by simp only;omega) (by exact Uw.wW)
   ·rw [if_neg (fun h=>hs (.inl h)),if_neg (fun h=>hs (.inr h))] at hR
    have hb:Gx l ns R = .ok (.d (I ((ns.length+e.sz - 1:Nat)))) (rdN l k1 (ns++e.flat ns.length)):=by rw [<- hR];show Out.ok _ (rdN l (l.length - (l.drop k1).length) _)=_;rw [len_drop hk1]
    generalize hd (l.drop k1)=p at *;have hs1:¬p=[43]:=fun h=>hs (.inl h);have hs2:¬p=[45]:=fun h=>hs (.inr h);clear ih hR hout hs
    repeat' first|refine aw ?_|refine bw (fun _=>?_) fun _=>?_
    refine ag 2 [0,1] pk ?_
    repeat' first|refine aw ?_|refine bw (fun _=>?_) fun _=>?_
    exact bj (vB 2 hb rfl rfl (by exact Uw.wW))
theorem Ti (l:List Tok) (hl:l.length<1000000) (n:Nat) (ih:∀m,m<=n->CE l m) (k:Nat) (ns:List Nod) (hk:k<=l.length) (hn:ns.length<=k):OkE bS l k ns (dL (n+1) (l.drop k)):=by
 rw [dL]
 rcases wE ((ih n (Nat.le_refl _)).sum k ns hk hn) hk (fun e r h=>(eM n).sum _ _ _ h) with h0|⟨h0,h1⟩|⟨e,k1,h0,hk1,np,h1⟩
 ·rw [h0];exact trivial
 ·rw [h0]
  refine aL ck rfl ?_
  repeat' first|refine aw ?_|refine bw (fun _=>?_) fun _=>?_
  refine bh 2 [0,1] h1 ?_;intro h m
  repeat' first|refine aw ?_|refine bw (fun _=>?_) fun _=>?_
  exact aM rfl
 ·rw [h0]
  have pk:=bO l k1 ((ns++e.flat ns.length).map bW) hk1;have hfl:(ns++e.flat ns.length).length=ns.length+e.sz:=by simp [Ex.aB]
  show OkE _ _ _ _ (if hd (l.drop k1)=[60] then _ else _);by_cases hs:hd (l.drop k1)=[60]\/hd (l.drop k1)=[61,61]
  ·have hlt:k1<l.length:=by rcases hs with hs|hs<;>exact en hs (by simp)
   rcases wE ((ih n (Nat.le_refl _)).sum (k1+1) (ns++e.flat ns.length) (by omega) (by omega)) (by omega) (fun e r h=>(eM n).sum _ _ _ h) with h2|⟨h2,h3⟩|⟨y,k2,h2,hk3,Gy,h3⟩
   ·rcases hs with hs|hs
    ·rw [if_pos hs,List.tail_drop,h2];exact trivial
    ·rw [if_neg (by rw [hs];decide),if_pos hs,List.tail_drop,h2];exact trivial
   ·rcases hs with hs|hs
    ·rw [if_pos hs,List.tail_drop,h2]
     rw [hs] at pk;clear hs ih;refine aL ck rfl ?_
     repeat' first|refine aw ?_|refine bw (fun _=>?_) fun _=>?_
     refine ag 2 [0,1] h1 ?_
     repeat' first|refine aw ?_|refine bw (fun _=>?_) fun _=>?_
     refine ag 2 [0,1] pk ?_
     repeat' first|refine aw ?_|refine bw (fun _=>?_) fun _=>?_
     refine dF bX rfl ?_
     repeat' first|refine aw ?_|refine bw (fun _=>?_) fun _=>?_
     refine bh 2 [0,1] h3 ?_;intro h q
     repeat' first|refine aw ?_|refine bw (fun _=>?_) fun _=>?_
     refine nN rfl ?_
     repeat' first|refine aw ?_|refine bw (fun _=>?_) fun _=>?_
     exact aM rfl
    ·rw [if_neg (by rw [hs];decide),if_pos hs,List.tail_drop,h2]
     rw [hs] at pk;clear hs ih;refine aL ck rfl ?_
     repeat' first|refine aw ?_|refine bw (fun _=>?_) fun _=>?_
     refine ag 2 [0,1] h1 ?_
     repeat' first|refine aw ?_|refine bw (fun _=>?_) fun _=>?_
     refine ag 2 [0,1] pk ?_
     repeat' first|refine aw ?_|refine bw (fun _=>?_) fun _=>?_
     refine dF bX rfl ?_
     repeat' first|refine aw ?_|refine bw (fun _=>?_) fun _=>?_
     refine bh 2 [0,1] h3 ?_;intro h q
     repeat' first|refine aw ?_|refine bw (fun _=>?_) fun _=>?_
     refine nN rfl ?_
     repeat' first|refine aw ?_|refine bw (fun _=>?_) fun _=>?_
     exact aM rfl
   ·rcases hs with hs|hs
    ·rw [if_pos hs,List.tail_drop,h2]
     have hp:=vC l k2 ns 6 e y (by simp [Ex.aB];omega) (by omega);rw [hs] at pk;show bk _ _ _ _ _ (rdN l (l.length - (l.drop k2).length) _);rw [len_drop hk3];clear hs ih;refine aG ck rfl ?_
     repeat' first|refine aw ?_|refine bw (fun _=>?_) fun _=>?_
     refine ag 2 [0,1] h1 ?_
     repeat' first|refine aw ?_|refine bw (fun _=>?_) fun _=>?_
     refine ag 2 [0,1] pk ?_
     repeat' first|refine aw ?_|refine bw (fun _=>?_) fun _=>?_
     refine dF bX rfl ?_
     repeat' first|refine aw ?_|refine bw (fun _=>?_) fun _=>?_
     refine ag 2 [0,1] h3 ?_
     repeat' first|refine aw ?_|refine bw (fun _=>?_) fun _=>?_
     refine ag 2 [0,1] hp ?_
     repeat' first|refine aw ?_|refine bw (fun _=>?_) fun _=>?_
     refine dX rfl rfl ?_
     repeat' first|refine aw ?_|refine bw (fun _=>?_) fun _=>?_
     exact aF 2 rfl rfl (by exact Uw.wW)
    ·rw [if_neg (by rw [hs];decide),if_pos hs,List.tail_drop,h2]
     have hp:=vC l k2 ns 7 e y (by simp [Ex.aB];omega) (by omega);rw [hs] at pk;show bk _ _ _ _ _ (rdN l (l.length - (l.drop k2).length) _);rw [len_drop hk3];clear hs ih;refine aG ck rfl ?_
     repeat' first|refine aw ?_|refine bw (fun _=>?_) fun _=>?_
     refine ag 2 [0,1] h1 ?_
     repeat' first|refine aw ?_|refine bw (fun _=>?_) fun _=>?_
     refine ag 2 [0,1] pk ?_
     repeat' first|refine aw ?_|refine bw (fun _=>?_) fun _=>?_
     refine dF bX rfl ?_
     repeat' first|refine aw ?_|refine bw (fun _=>?_) fun _=>?_
     refine ag 2 [0,1] h3 ?_
     repeat' first|refine aw ?_|refine bw (fun _=>?_) fun _=>?_
     refine ag 2 [0,1] hp ?_
     repeat' first|refine aw ?_|refine bw (fun _=>?_) fun _=>?_
     refine dX rfl rfl ?_
     repeat' first|refine aw ?_|refine bw (fun _=>?_) fun _=>?_
     exact aF 2 rfl rfl (by exact Uw.wW)
  ·rw [if_neg (fun h=>hs (.inl h)),if_neg (fun h=>hs (.inr h))]
   show bk _ _ _ _ _ (rdN l (l.length - (l.drop k1).length) _);rw [len_drop hk1];generalize hd (l.drop k1)=p at *;have hs1:¬p=[60]:=fun h=>hs (.inl h);have hs2:¬p=[61,61]:=fun h=>hs (.inr h);clear ih hs;refine aG ck rfl ?_
   repeat' first|refine aw ?_|refine bw (fun _=>?_) fun _=>?_
   refine ag 2 [0,1] h1 ?_
   repeat' first|refine aw ?_|refine bw (fun _=>?_) fun _=>?_
   refine ag 2 [0,1] pk ?_
   repeat' first|refine aw ?_|refine bw (fun _=>?_) fun _=>?_
   exact aF 2 rfl rfl (by exact Uw.wW)
end Uw.Tryz
namespace Uw.Tryz
open Go Uw
def Exs.app:Exs->Exs->Exs
 | .nil,b=>b
 | .cons e r,b=>.cons e (r.app b)
theorem Exs.Ab:∀(a b:Exs),(a.app b).sz=a.sz+b.sz
 | .nil,b=>by simp [Exs.app,Exs.sz]
 | .cons e r,b=>by rw [Exs.app,Exs.sz,Exs.sz,Exs.Ab r b];omega
theorem Exs.rS:∀(a b:Exs) (n:Nat),(a.app b).flat n=a.flat n++b.flat (n+a.sz)
 | .nil,b,n=>by simp [Exs.app,Exs.flat,Exs.sz]
 | .cons e r,b,n=>by rw [Exs.app,Exs.flat,Exs.flat,Exs.rS r b,Exs.sz,List.append_assoc,Nat.add_assoc]
theorem Exs.nq:∀(a b:Exs) (n:Nat),(a.app b).places n=a.places n++b.places (n+a.sz)
 | .nil,b,n=>by simp [Exs.app,Exs.places,Exs.sz]
 | .cons e r,b,n=>by rw [Exs.app,Exs.places,Exs.places,Exs.nq r b,Exs.sz,List.cons_append,Nat.add_assoc]
theorem Exs.vD:∀(a:Exs),a.app .nil=a
 | .nil=>rfl
 | .cons e r=>by rw [Exs.app,Exs.vD r]
theorem Exs.pA:∀(a b c:Exs),(a.app b).app c=a.app (b.app c)
 | .nil,b,c=>rfl
 | .cons e r,b,c=>by rw [Exs.app,Exs.app,Exs.app,Exs.pA r b c]
def eP (ys:List Nat):List (List Dat):=ys.map fun (i:Nat)=>[I i]
theorem AY (l:List Tok) (k k' : Nat) (ns ms:List Nod) (p:Nat) (h:bk P0 bS [.ptr 0 0] (rdN l k ns) (.d (I p)) (rdN l k' ms)) :
  bk P0 cm [.ptr 3 0,.ptr 2 0] (rdN l k ns++[.var [.ptr 0 0],.var [.d .nil]]) (.tuple []) (rdN l k' ms++[.var [.ptr 0 0],.var [.ref 4 0 0 (eP [p]).length],.arr 1 (eP [p])]):=by
 refine aG dq rfl ?_;refine bZ ⟨[],br 0 (rdN l k' ms++[.var [.ptr 0 0],.var [.ref 4 0 0 (eP [p]).length],.arr 1 (eP [p])]),5,[],4⟩ ?_ ?_
 ·repeat' first|refine aw ?_|refine bw (fun _=>?_) fun _=>?_
  refine ag 4 [0,1] h ?_
  repeat' first|refine aw ?_|refine bw (fun _=>?_) fun _=>?_
  exact aY (.inl ⟨rfl,by exact Uw.wW⟩)
 ·repeat' first|refine aw ?_|refine bw (fun _=>?_) fun _=>?_
  exact dp 4 rfl rfl (by exact Uw.wW)
theorem Ee (l:List Tok) (k k' : Nat) (ns ms:List Nod) (ys:List Nat) (p:Nat) (hy:ys.length<1000000) (h:bk P0 bS [.ptr 0 0] (rdN l k ns) (.d (I p)) (rdN l k' ms)) :
  bk P0 cm [.ptr 3 0,.ptr 2 0] (rdN l k ns++[.var [.ptr 0 0],.var [.ref 4 0 0 (eP ys).length],.arr 1 (eP ys)]) (.tuple []) (rdN l k' ms++[.var [.ptr 0 0],.var [.ref 4 0 0 (eP (ys++[p])).length],.arr 1 (eP (ys++[p]))]):=by
 have e:eP (ys++[p])=eP ys++[[I p]]:=by simp [eP]
 have hy' : (eP ys).length<1000000:=by simpa [eP] using hy
 rw [e];generalize eP ys=zs at *;refine aG dq rfl ?_;refine bZ ⟨[],br 0 (rdN l k' ms++[.var [.ptr 0 0],.var [.ref 4 0 0 (zs++[[I p]]).length],.arr 1 (zs++[[I p]])]),5,[],5⟩ ?_ ?_
 ·repeat' first|refine aw ?_|refine bw (fun _=>?_) fun _=>?_
  refine ag 5 [0,1] h ?_
  repeat' first|refine aw ?_|refine bw (fun _=>?_) fun _=>?_
  exact aY (.inl ⟨rfl,by exact Uw.wW⟩)
 ·repeat' first|refine aw ?_|refine bw (fun _=>?_) fun _=>?_
  exact dp 5 rfl rfl (by exact Uw.wW)
theorem AZ (l:List Tok) (k:Nat) (ns:List Nod) (h:kP P0 bS [.ptr 0 0] (rdN l k ns) cT) :
  kP P0 cm [.ptr 3 0,.ptr 2 0] (rdN l k ns++[.var [.ptr 0 0],.var [.d .nil]]) cT:=by
 refine aL dq rfl ?_;refine o5 ?_
 repeat' first|refine aw ?_|refine bw (fun _=>?_) fun _=>?_
 refine bh 4 [0,1] h ?_;intro H n
 repeat' first|refine aw ?_|refine bw (fun _=>?_) fun _=>?_
 exact aY ⟨cT,rfl,aM rfl⟩
theorem Ef (l:List Tok) (k:Nat) (ns:List Nod) (ys:List Nat) (h:kP P0 bS [.ptr 0 0] (rdN l k ns) cT) :
  kP P0 cm [.ptr 3 0,.ptr 2 0] (rdN l k ns++[.var [.ptr 0 0],.var [.ref 4 0 0 (eP ys).length],.arr 1 (eP ys)]) cT:=by
 generalize eP ys=zs at *;refine aL dq rfl ?_;refine o5 ?_
 repeat' first|refine aw ?_|refine bw (fun _=>?_) fun _=>?_
 refine bh 5 [0,1] h ?_;intro H n
 repeat' first|refine aw ?_|refine bw (fun _=>?_) fun _=>?_
 exact aY ⟨cT,rfl,aM rfl⟩
theorem Tj {l:List Tok} {k:Nat} {ns:List Nod} {f:FuncId} {x:R Exs} (h:cY f [.ptr 0 0] (rdN l k ns) (outA l ns x)) (hk:k<=l.length) (hs:∀e r,x = .ok e r->Suf (l.drop k) r (e.sz+1)) :
  x = .out\/(x = .bad/\kP P0 f [.ptr 0 0] (rdN l k ns) cT)\/∃e k',x = .ok e (l.drop k')/\k'<=l.length/\k+(e.sz+1)<=k'/\bk P0 f [.ptr 0 0] (rdN l k ns) (.d (e.Aa ns.length)) (rdN l k' (ns++e.flat ns.length)):=by
 cases x with
 | out=>exact .inl rfl
 | bad=>exact .inr (.inl ⟨rfl,h⟩)
 | ok e r=>
  obtain ⟨k',h1,rfl,h2⟩:=rR (hs e r rfl) hk;refine .inr (.inr ⟨e,k',rfl,h1,h2,?_⟩);have h:bk P0 f [.ptr 0 0] (rdN l k ns) (.d (e.Aa ns.length)) (rdN l (l.length - (l.drop k').length) (ns++e.flat ns.length)):=h;rw [len_drop h1] at h;exact h
theorem Qd {l:List Tok} {ns:List Nod} {x:R Exs} (h:x≠.out):outA l ns x≠.out:=by cases x<;>first|exact absurd rfl h|(intro h;cases h)
theorem Tm (l:List Tok) (hl:l.length<1000000) (n:Nat) (ih:∀m,m<=n->CE l m) (k:Nat) (ns:List Nod) (hk:k<=l.length) (hn:ns.length<=k):cY fh [.ptr 0 0] (rdN l k ns) (outA l ns (gw (n+1) (l.drop k))):=by
 rw [gw];by_cases h0:hd (l.drop k)=[40]
 ·have hlt:=en h0 (by simp)
  have w0:=aN l k (ns.map bW) hk hl [40] (by simp) h0;have hv:=bK l (k+1) (ns.map bW) hlt hl [41] (by simp);rw [want,if_pos h0,List.tail_drop];show cY _ _ _ (outA l ns (if hd (l.drop (k+1))=[41] then _ else _));by_cases h1:hd (l.drop (k+1))=[41]
  ·have hlt1:=en h1 (by simp)
   rw [if_pos h1,List.tail_drop];rw [if_pos h1,decide_eq_true h1] at hv;show bk _ _ _ _ (.d .nil) (rdN l (l.length - (l.drop (k+1+1)).length) (ns++[]));rw [len_drop (by omega),List.append_nil];clear ih h0 h1;refine aG dH rfl ?_
   repeat' first|refine aw ?_|refine bw (fun _=>?_) fun _=>?_
   refine dF cz rfl ?_
   repeat' first|refine aw ?_|refine bw (fun _=>?_) fun _=>?_
   refine ag 4 [0,1] w0 ?_
   repeat' first|refine aw ?_|refine bw (fun _=>?_) fun _=>?_
   refine ag 4 [0,1] hv ?_
   repeat' first|refine aw ?_|refine bw (fun _=>?_) fun _=>?_
   refine dX rfl rfl ?_
   repeat' first|refine aw ?_|refine bw (fun _=>?_) fun _=>?_
   exact aF 2 rfl rfl (by exact Uw.wW)
  ·rw [if_neg h1]
   rw [if_neg h1,decide_eq_false h1] at hv
   rcases wE ((ih n (Nat.le_refl _)).expr (k+1) ns hlt (by omega)) hlt (fun e r h=>(eM n).expr _ _ _ h) with h2|⟨h2,h3⟩|⟨e,k1,h2,hk1,np,h3⟩
   ·rw [h2];exact trivial
   ·rw [h2]
    have a1:=AZ l (k+1) ns h3;clear ih h0 h1;refine aL dH rfl ?_
    repeat' first|refine aw ?_|refine bw (fun _=>?_) fun _=>?_
    refine dF cz rfl ?_
    repeat' first|refine aw ?_|refine bw (fun _=>?_) fun _=>?_
    refine ag 4 [0,1] w0 ?_
    repeat' first|refine aw ?_|refine bw (fun _=>?_) fun _=>?_
    refine ag 4 [0,1] hv ?_
    repeat' first|refine aw ?_|refine bw (fun _=>?_) fun _=>?_
    refine bh 4 [0,1,2,3] a1 ?_;intro H q
    repeat' first|refine aw ?_|refine bw (fun _=>?_) fun _=>?_
    refine nN rfl ?_
    repeat' first|refine aw ?_|refine bw (fun _=>?_) fun _=>?_
    exact aM rfl
   ·rw [h2]
    show cY _ _ _ (outA l ns ((dR n (l.drop k1)).bind fun es r=>.ok (.cons e es) r));have hf1:ns++e.flat ns.length=ns++(Exs.cons e .nil).flat ns.length:=by simp [Exs.flat]
    have a1:=AY l (k+1) k1 ns (ns++e.flat ns.length) _ h3;rw [hf1] at a1;have hz1:(Exs.cons e .nil).sz=e.sz:=rfl;generalize hR:(dR n (l.drop k1)).bind (fun es r=>R.ok (Exs.cons e es) r)=Rr;by_cases hout:Rr = .out
    ·rw [hout];exact trivial
    refine sq dH rfl (Qd hout) ?_
    repeat' first|refine aw ?_|refine bw (fun _=>?_) fun _=>?_
    refine dF cz rfl ?_
    repeat' first|refine aw ?_|refine bw (fun _=>?_) fun _=>?_
    refine ag 4 [0,1] w0 ?_
    repeat' first|refine aw ?_|refine bw (fun _=>?_) fun _=>?_
    refine ag 4 [0,1] hv ?_
    repeat' first|refine aw ?_|refine bw (fun _=>?_) fun _=>?_
    refine ag 4 [0,1,2,3] a1 ?_
    repeat' first|refine aw ?_|refine bw (fun _=>?_) fun _=>?_
    refine dG (fun ((d,k1,m):Exs×Nat×Nat)=>⟨[(0,.ptr 0 0),(1,V.func cm [] [V.ptr 3 0,V.ptr 2 0])],br 0 (rdN l k1 (ns++d.flat ns.length)++[.var [.ptr 0 0],.var [.ref 4 0 0 (eP (d.places ns.length)).length],.arr 1 (eP (d.places ns.length))]),5,[],4⟩)
     (fun (d,k1,m)=>(dR m (l.drop k1)).bind (fun es r=>R.ok (d.app es) r)=Rr/\m<=n/\k1<=l.length/\k+d.sz+1<=k1/\d.places ns.length≠[]) (fun (_,_,m)=>m) (.cons e .nil,k1,n) (by exact Uw.wW) ⟨hR,Nat.le_refl _,hk1,by omega,by simp [Exs.places]⟩ ?_
    clear hR h0 h1 h2 h3 hk1 np a1 hf1 hz1 w0 hv;rintro ⟨d,k1,m⟩ ⟨hR,hm,hk1,hk2,hd0⟩
    cases m with
    | zero=>rw [dR] at hR;exact absurd hR.symm hout
    | succ m=>
     rw [dR] at hR;have hfl:(ns++d.flat ns.length).length=ns.length+d.sz:=by simp [Exs.aB]
     have hv:=bK l k1 ((ns++d.flat ns.length).map bW) hk1 hl [44] (by simp);by_cases hs:hd (l.drop k1)=[44]
     ·have hlt:=en hs (by simp)
      rw [if_pos hs,List.tail_drop] at hR;rw [if_pos hs,decide_eq_true hs] at hv
      rcases wE ((ih m (by omega)).expr (k1+1) (ns++d.flat ns.length) (by omega) (by omega)) (by omega) (fun e r h=>(eM m).expr _ _ _ h) with h0|⟨h0,h1⟩|⟨y,k2,h0,hk3,Gy,h1⟩
      ·rw [h0] at hR;exact absurd hR.symm hout
      ·rw [h0] at hR
       have hb:outA l ns Rr = .bad:=by rw [<- hR];rfl
       have a1:=Ef l (k1+1) _ (d.places ns.length) h1;clear ih hR hout hs h0 h1 hd0
       repeat' first|refine aw ?_|refine bw (fun _=>?_) fun _=>?_
       refine ag 5 [0,1] hv ?_
       repeat' first|refine aw ?_|refine bw (fun _=>?_) fun _=>?_
       refine bh 5 [0,1,2,3,4] a1 ?_;intro h q
       repeat' first|refine aw ?_|refine bw (fun _=>?_) fun _=>?_
       refine mU (nN rfl ?_)
       repeat' first|refine aw ?_|refine bw (fun _=>?_) fun _=>?_
       exact mq 2 hb rfl
      ·rw [h0] at hR
       have hR:(dR m (l.drop k2)).bind (fun es r=>R.ok ((d.app (.cons y .nil)).app es) r)=Rr:=by
        rw [<- hR];show _=((dR m (l.drop k2)).bind fun es r=>R.ok (Exs.cons y es) r).bind fun es r=>R.ok (d.app es) r
        cases dR m (l.drop k2) with
        | ok es r=>show R.ok _ _=R.ok _ _;rw [Exs.pA];rfl
        | bad=>rfl
        | out=>rfl
       have a1:=Ee l (k1+1) k2 _ _ (d.places ns.length) _ (by
        have:∀(d:Exs) (b:Nat),(d.places b).length<=d.sz:=by
         intro d
         induction d using Exs.rec (motive_1:=fun _=>True) with
         | nil=>simp [Exs.places]
         | cons e r _ ih=>intro b;have:=ih (b+e.sz);have:=e.ji;simp [Exs.places,Exs.sz];omega
         | _=>trivial
        have:=this d ns.length;omega) h1
       have hpl:d.places ns.length++[(ns++d.flat ns.length).length+y.sz - 1]=(d.app (.cons y .nil)).places ns.length:=by rw [Exs.nq,hfl];rfl
       have hff:ns++d.flat ns.length++y.flat (ns++d.flat ns.length).length=ns++(d.app (.cons y .nil)).flat ns.length:=by rw [Exs.rS,hfl];simp [Exs.flat]
       have hsz:(d.app (.cons y .nil)).sz=d.sz+y.sz:=by rw [Exs.Ab];rfl
       have hd1:(d.app (.cons y .nil)).places ns.length≠[]:=by rw [<- hpl];simp
       rw [hpl,hff] at a1;clear ih hout hs h0 h1 hd0 hpl hff
       repeat' first|refine aw ?_|refine bw (fun _=>?_) fun _=>?_
       refine ag 5 [0,1] hv ?_
       repeat' first|refine aw ?_|refine bw (fun _=>?_) fun _=>?_
       refine ag 5 [0,1,2,3,4] a1 ?_
       repeat' first|refine aw ?_|refine bw (fun _=>?_) fun _=>?_
       exact cv (d.app (.cons y .nil),k2,m) ⟨hR,by omega,hk3,by omega,hd1⟩ (by simp only;omega) (by exact Uw.wW)
     ·rw [if_neg hs] at hR
      rw [if_neg hs,decide_eq_false hs] at hv;by_cases hw:hd (l.drop k1)=[41]
      ·have hlt:=en hw (by simp)
       have w1:=aN l k1 ((ns++d.flat ns.length).map bW) hk1 hl [41] (by simp) hw;have hb:outA l ns Rr = .ok (.d (.slice 1 (eP (d.places ns.length)) false)) (rdN l (k1+1) (ns++d.flat ns.length)):=by
        rw [want,if_pos hw,List.tail_drop] at hR;have hR:R.ok (d.app .nil) (l.drop (k1+1))=Rr:=hR;rw [<- hR,Exs.vD];show Out.ok (.d (ofD 8 (d.places ns.length))) (rdN l (l.length - (l.drop (k1+1)).length) _)=_;rw [len_drop (by omega)];have:ofD 8 (d.places ns.length) = .slice 1 (eP (d.places ns.length)) false:=by
         unfold ofD;rw [if_neg (by omega),if_pos (by omega),if_neg hd0];rfl
        rw [this]
       have hfz:((eP (d.places ns.length)).drop 0).take (eP (d.places ns.length)).length=eP (d.places ns.length):=by simp
       clear ih hR hout hs hw hd0
       repeat' first|refine aw ?_|refine bw (fun _=>?_) fun _=>?_
       refine ag 5 [0,1] hv ?_
       repeat' first|refine aw ?_|refine bw (fun _=>?_) fun _=>?_
       refine aC ?_;refine ag 5 [0,1] w1 ?_
       repeat' first|refine aw ?_|refine bw (fun _=>?_) fun _=>?_
       refine uM rfl rfl ?_
       repeat' first|refine aw ?_|refine bw (fun _=>?_) fun _=>?_
       exact vB 2 hb rfl rfl (by exact Uw.wW)
      ·have w1:=aZ l k1 ((ns++d.flat ns.length).map bW) hk1 hl [41] (by simp) hw
       have hb:outA l ns Rr = .bad:=by
        rw [want,if_neg hw] at hR;rw [<- hR];rfl
       clear ih hR hout hs hw hd0
       repeat' first|refine aw ?_|refine bw (fun _=>?_) fun _=>?_
       refine ag 5 [0,1] hv ?_
       repeat' first|refine aw ?_|refine bw (fun _=>?_) fun _=>?_
       refine aC ?_;refine bh 5 [0,1] w1 ?_;intro h q
       repeat' first|refine aw ?_|refine bw (fun _=>?_) fun _=>?_
       refine nN rfl ?_
       repeat' first|refine aw ?_|refine bw (fun _=>?_) fun _=>?_
       exact mq 2 hb rfl
 ·rw [want,if_neg h0]
  have w0:=aZ l k (ns.map bW) hk hl [40] (by simp) h0;clear ih h0;refine aL dH rfl ?_
  repeat' first|refine aw ?_|refine bw (fun _=>?_) fun _=>?_
  refine dF cz rfl ?_
  repeat' first|refine aw ?_|refine bw (fun _=>?_) fun _=>?_
  refine bh 4 [0,1] w0 ?_;intro H q
  repeat' first|refine aw ?_|refine bw (fun _=>?_) fun _=>?_
  refine nN rfl ?_
  repeat' first|refine aw ?_|refine bw (fun _=>?_) fun _=>?_
  exact aM rfl
end Uw.Tryz
namespace Uw.Tryz
open Go Uw
theorem eh (l:List Tok) (k:Nat) (xs:List (List Dat)) (hk:k<=l.length) (hl:l.length<1000000) :
  (eQ (l.drop k) = .bad/\kP P0 cg [.ptr 0 0] (rd l k xs) cT)\/∃s,eQ (l.drop k) = .ok s (l.drop (k+1))/\k<l.length/\bk P0 cg [.ptr 0 0] (rd l k xs) (.d (.str s)) (rd l (k+1) xs):=by
 by_cases h:k<l.length
 ·have hd:l.drop k=l[k]::l.drop (k+1):=List.drop_eq_getElem_cons h
  by_cases h1:l[k].kind=1
  ·have hw:iV 1 (l.drop k) = .ok l[k] (l.drop (k+1)):=by rw [hd,iV,if_pos h1]
   cases h2:AG l[k].text with
   | true=>
    refine .inl ⟨?_,iR l k xs hk hl (fun _=>.inr h2)⟩;rw [eQ,hw];show (if AG l[k].text=true then _ else _)=_;rw [if_pos h2]
   | false=>
    refine .inr ⟨l[k].text,?_,h,sP l k xs hk hl h h1 h2⟩;rw [eQ,hw];show (if AG l[k].text=true then _ else _)=_;rw [if_neg (by rw [h2];decide)]
  ·refine .inl ⟨?_,iR l k xs hk hl (fun _=>.inl h1)⟩
   rw [eQ,hd,iV,if_neg h1];rfl
 ·refine .inl ⟨?_,iR l k xs hk hl (fun h'=>absurd h' h)⟩
  rw [eQ,List.drop_eq_nil_of_le (by omega),iV];rfl
theorem sr (es:Exs) (b:Nat):es.Aa b = .nil\/es.Aa b = .slice 1 (eP (es.places b)) false:=by
 unfold Exs.Aa ofD;rw [if_neg (by omega),if_pos (by omega)]
 split
 ·exact .inl rfl
 ·exact .inr rfl
theorem c_call (l:List Tok) (hl:l.length<1000000) (n:Nat) (ih:∀m,m<=n->CE l m) (s:Str) (k:Nat) (ns:List Nod) (hk:k<=l.length) (hn:ns.length<=k):cY cS [.ptr 0 0,.d (.str s)] (rdN l k ns) (M6 l ns s (gR (n+1) s (l.drop k))):=by
 rw [gR];by_cases h0:hd (l.drop k)=[46]
 ·have hlt:=en h0 (by simp)
  have w0:=aN l k (ns.map bW) hk hl [46] (by simp) h0;rw [want,if_pos h0,List.tail_drop];show cY _ _ _ (M6 l ns s ((eQ (l.drop (k+1))).bind _))
  rcases eh l (k+1) (ns.map bW) hlt hl with ⟨h1,h2⟩|⟨v,h1,hlt1,h2⟩
  ·rw [h1]
   clear ih h0;refine aL eX rfl ?_
   repeat' first|refine aw ?_|refine bw (fun _=>?_) fun _=>?_
   refine ag 2 [0,1] w0 ?_
   repeat' first|refine aw ?_|refine bw (fun _=>?_) fun _=>?_
   refine bh 2 [0,1] h2 ?_;intro H q
   repeat' first|refine aw ?_|refine bw (fun _=>?_) fun _=>?_
   exact aM rfl
  ·rw [h1]
   show cY _ _ _ (M6 l ns s ((gw n (l.drop (k+1+1))).bind _))
   rcases Tj ((ih n (Nat.le_refl _)).args (k+1+1) ns (by omega) (by omega)) (by omega) (fun e r h=>(eM n).args _ _ _ h) with h3|⟨h3,h4⟩|⟨es,k1,h3,hk1,np,h4⟩
   ·rw [h3];exact trivial
   ·rw [h3]
    clear ih h0;refine aL eX rfl ?_
    repeat' first|refine aw ?_|refine bw (fun _=>?_) fun _=>?_
    refine ag 2 [0,1] w0 ?_
    repeat' first|refine aw ?_|refine bw (fun _=>?_) fun _=>?_
    refine ag 2 [0,1] h2 ?_
    repeat' first|refine aw ?_|refine bw (fun _=>?_) fun _=>?_
    refine bh 3 [0,1] h4 ?_;intro H q
    repeat' first|refine aw ?_|refine bw (fun _=>?_) fun _=>?_
    exact aM rfl
   ·rw [h3]
    show bk _ _ _ _ (.d (I ((ns.length+(Ex.call s v es).sz - 1:Nat)))) (rdN l (l.length - (l.drop k1).length) (ns++(Ex.call s v es).flat ns.length));rw [len_drop hk1];have hp:=qm l k1 (ns++es.flat ns.length) (ns++(Ex.call s v es).flat ns.length) ⟨8,0,s,v,es.places ns.length⟩ (by simp [Ex.flat]) (ns.length+(Ex.call s v es).sz - 1) (by simp [Ex.sz,Exs.aB];try omega) (by simp [Exs.aB];omega);have hp:bk P0 bD [.ptr 0 0,.agg [.d (I 8),.d (I 0),.d (.str s),.d (.str v),.d (es.Aa ns.length)]] (rdN l k1 (ns++es.flat ns.length)) (.d (I ((ns.length+(Ex.call s v es).sz - 1:Nat)))) (rdN l k1 (ns++(Ex.call s v es).flat ns.length)):=hp;clear ih h0
    rcases sr es ns.length with e|e
    all_goals
     rw [e] at hp h4;refine aG eX rfl ?_
     repeat' first|refine aw ?_|refine bw (fun _=>?_) fun _=>?_
     refine ag 2 [0,1] w0 ?_
     repeat' first|refine aw ?_|refine bw (fun _=>?_) fun _=>?_
     refine ag 2 [0,1] h2 ?_
     repeat' first|refine aw ?_|refine bw (fun _=>?_) fun _=>?_
     refine ag 3 [0,1] h4 ?_
     repeat' first|refine aw ?_|refine bw (fun _=>?_) fun _=>?_
     refine ag 3 [0,1] hp ?_
     repeat' first|refine aw ?_|refine bw (fun _=>?_) fun _=>?_
     exact aF 2 rfl rfl (by exact Uw.wW)
 ·rw [want,if_neg h0]
  have w0:=aZ l k (ns.map bW) hk hl [46] (by simp) h0;clear ih h0;refine aL eX rfl ?_
  repeat' first|refine aw ?_|refine bw (fun _=>?_) fun _=>?_
  refine bh 2 [0,1] w0 ?_;intro H q
  repeat' first|refine aw ?_|refine bw (fun _=>?_) fun _=>?_
  exact aM rfl
theorem Vm {l:List Tok} {k:Nat} {ns:List Nod} {s:Str} {x:R (Str×Exs)} (h:cY cS [.ptr 0 0,.d (.str s)] (rdN l k ns) (M6 l ns s x)) (hk:k<=l.length) (hs:∀e r,x = .ok e r->Suf (l.drop k) r (e.2.sz+1)) :
  x = .out\/(x = .bad/\kP P0 cS [.ptr 0 0,.d (.str s)] (rdN l k ns) cT)\/∃v e k',x = .ok (v,e) (l.drop k')/\k'<=l.length/\k+(e.sz+1)<=k'/\bk P0 cS [.ptr 0 0,.d (.str s)] (rdN l k ns) (.d (I ((ns.length+(Ex.call s v e).sz - 1:Nat)))) (rdN l k' (ns++(Ex.call s v e).flat ns.length)):=by
 cases x with
 | out=>exact .inl rfl
 | bad=>exact .inr (.inl ⟨rfl,h⟩)
 | ok e r=>
  obtain ⟨v,e⟩:=e;obtain ⟨k',h1,rfl,h2⟩:=rR (hs _ r rfl) hk;refine .inr (.inr ⟨v,e,k',rfl,h1,h2,?_⟩);have h:bk P0 cS [.ptr 0 0,.d (.str s)] (rdN l k ns) (.d (I ((ns.length+(Ex.call s v e).sz - 1:Nat)))) (rdN l (l.length - (l.drop k').length) (ns++(Ex.call s v e).flat ns.length)):=h;rw [len_drop h1] at h;exact h
theorem M8 {l:List Tok} {k:Nat} (h:isNum (l.drop k)=true):∃h:k<l.length,l[k].kind=2/\numOf (l.drop k)=l[k].n:=by
 rcases Nat.lt_or_ge k l.length with h1|h1
 ·rw [List.drop_eq_getElem_cons h1] at h ⊢
  exact ⟨h1,by simpa [isNum] using h,rfl⟩
 ·rw [List.drop_eq_nil_of_le h1] at h;cases h
theorem Tn (l:List Tok) (hl:l.length<1000000) (n:Nat) (ih:∀m,m<=n->CE l m) (k:Nat) (ns:List Nod) (hk:k<=l.length) (hn:ns.length<=k):OkE fS l k ns (jx (n+1) (l.drop k)):=by
 have e1:(l.map rc).length=l.length:=by simp
 rw [jx];have hv:=bK l k (ns.map bW) hk hl [40] (by simp);by_cases h0:hd (l.drop k)=[40]
 ·have hlt:=en h0 (by simp)
  rw [if_pos h0,decide_eq_true h0] at hv;rw [if_pos h0,List.tail_drop]
  rcases wE ((ih n (Nat.le_refl _)).expr (k+1) ns hlt (by omega)) hlt (fun e r h=>(eM n).expr _ _ _ h) with h2|⟨h2,h3⟩|⟨e,k1,h2,hk1,np,h3⟩
  ·rw [h2];exact trivial
  ·rw [h2]
   clear ih h0;refine aL bH rfl ?_
   repeat' first|refine aw ?_|refine bw (fun _=>?_) fun _=>?_
   refine ag 2 [0,1] hv ?_
   repeat' first|refine aw ?_|refine bw (fun _=>?_) fun _=>?_
   refine bh 2 [0,1] h3 ?_;intro H q
   repeat' first|refine aw ?_|refine bw (fun _=>?_) fun _=>?_
   exact aM rfl
  ·rw [h2]
   show cY _ _ _ (Gx l ns ((want [41] (l.drop k1)).bind _));by_cases h4:hd (l.drop k1)=[41]
   ·have hlt1:=en h4 (by simp)
    have w1:=aN l k1 ((ns++e.flat ns.length).map bW) hk1 hl [41] (by simp) h4;rw [want,if_pos h4,List.tail_drop];show bk _ _ _ _ (.d (I ((ns.length+e.sz - 1:Nat)))) (rdN l (l.length - (l.drop (k1+1)).length) _);rw [len_drop hlt1];clear ih h0 h4;refine aG bH rfl ?_
    repeat' first|refine aw ?_|refine bw (fun _=>?_) fun _=>?_
    refine ag 2 [0,1] hv ?_
    repeat' first|refine aw ?_|refine bw (fun _=>?_) fun _=>?_
    refine ag 2 [0,1] h3 ?_
    repeat' first|refine aw ?_|refine bw (fun _=>?_) fun _=>?_
    refine ag 2 [0,1] w1 ?_
    repeat' first|refine aw ?_|refine bw (fun _=>?_) fun _=>?_
    exact aF 2 rfl rfl (by exact Uw.wW)
   ·have w1:=aZ l k1 ((ns++e.flat ns.length).map bW) hk1 hl [41] (by simp) h4
    rw [want,if_neg h4];clear ih h0 h4;refine aL bH rfl ?_
    repeat' first|refine aw ?_|refine bw (fun _=>?_) fun _=>?_
    refine ag 2 [0,1] hv ?_
    repeat' first|refine aw ?_|refine bw (fun _=>?_) fun _=>?_
    refine ag 2 [0,1] h3 ?_
    repeat' first|refine aw ?_|refine bw (fun _=>?_) fun _=>?_
    refine bh 2 [0,1] w1 ?_;intro H q
    repeat' first|refine aw ?_|refine bw (fun _=>?_) fun _=>?_
    exact aM rfl
 ·rw [if_neg h0,decide_eq_false h0] at hv
  rw [if_neg h0]
  cases hnum:isNum (l.drop k) with
  | true=>
   rw [if_pos rfl,List.tail_drop];obtain ⟨hlt,hkd,hno⟩:=M8 hnum;rw [hno];have wd:=fk l k (ns.map bW) hk hl 2 hlt hkd;have hp:=qm l (k+1) ns (ns++(Ex.num l[k].n).flat ns.length) ⟨1,l[k].n,[],[],[]⟩ rfl (ns.length+(Ex.num l[k].n).sz - 1) (by simp [Ex.sz]) (by omega);have hp:bk P0 bD [.ptr 0 0,.agg [.d (I 1),.d (I l[k].n),.d (.str []),.d (.str []),.d .nil]] (rdN l (k+1) ns) (.d (I ((ns.length+(Ex.num l[k].n).sz - 1:Nat)))) (rdN l (k+1) (ns++(Ex.num l[k].n).flat ns.length)):=hp;show bk _ _ _ _ (.d (I ((ns.length+(Ex.num l[k].n).sz - 1:Nat)))) (rdN l (l.length - (l.drop (k+1)).length) _);rw [len_drop hlt];clear ih h0 hnum hno;refine aG bH rfl ?_
   repeat' first|refine aw ?_|refine bw (fun _=>?_) fun _=>?_
   refine ag 2 [0,1] hv ?_
   repeat' first|refine aw ?_|refine bw (fun _=>?_) fun _=>?_
   refine ag 2 [0,1] wd ?_
   repeat' first|refine aw ?_|refine bw (fun _=>?_) fun _=>?_
   refine ag 2 [0,1] hp ?_
   repeat' first|refine aw ?_|refine bw (fun _=>?_) fun _=>?_
   exact aF 2 rfl rfl (by exact Uw.wW)
  | false=>
   rw [if_neg (by decide)];have hkd:∀(h:k<l.length),¬l[k].kind=2:=by
    intro h h2;rw [List.drop_eq_getElem_cons h] at hnum;simp [isNum,h2] at hnum
   rcases eh l k (ns.map bW) hk hl with ⟨h1,h2⟩|⟨s,h1,hlt,h2⟩
   ·rw [h1]
    clear ih h0 hnum h1;by_cases hlt:k<l.length
    ·have hkd:=hkd hlt
     refine aL bH rfl ?_
     repeat' first|refine aw ?_|refine bw (fun _=>?_) fun _=>?_
     refine ag 2 [0,1] hv ?_
     repeat' first|refine aw ?_|refine bw (fun _=>?_) fun _=>?_
     refine bh 2 [0,1] h2 ?_;intro H q
     repeat' first|refine aw ?_|refine bw (fun _=>?_) fun _=>?_
     exact aM rfl
    ·clear hkd
     refine aL bH rfl ?_
     repeat' first|refine aw ?_|refine bw (fun _=>?_) fun _=>?_
     refine ag 2 [0,1] hv ?_
     repeat' first|refine aw ?_|refine bw (fun _=>?_) fun _=>?_
     refine bh 2 [0,1] h2 ?_;intro H q
     repeat' first|refine aw ?_|refine bw (fun _=>?_) fun _=>?_
     exact aM rfl
   ·rw [h1]
    have hkd:=hkd hlt;have pk:=bO l (k+1) (ns.map bW) hlt;show cY _ _ _ (Gx l ns (if hd (l.drop (k+1))=[46] then _ else _));by_cases h3:hd (l.drop (k+1))=[46]
    ·rw [if_pos h3]
     rw [h3] at pk
     rcases Vm ((ih n (Nat.le_refl _)).call s (k+1) ns hlt (by omega)) hlt (fun e r h=>(eM n).call _ _ _ _ h) with h4|⟨h4,h5⟩|⟨v,es,k1,h4,hk1,np,h5⟩
     ·rw [h4];exact trivial
     ·rw [h4]
      clear ih h0 hnum h1;refine aL bH rfl ?_
      repeat' first|refine aw ?_|refine bw (fun _=>?_) fun _=>?_
      refine ag 2 [0,1] hv ?_
      repeat' first|refine aw ?_|refine bw (fun _=>?_) fun _=>?_
      refine ag 2 [0,1] h2 ?_
      repeat' first|refine aw ?_|refine bw (fun _=>?_) fun _=>?_
      refine ag 2 [0,1] pk ?_
      repeat' first|refine aw ?_|refine bw (fun _=>?_) fun _=>?_
      refine bh 2 [0,1] h5 ?_;intro H q
      repeat' first|refine aw ?_|refine bw (fun _=>?_) fun _=>?_
      exact aM rfl
     ·rw [h4]
      show bk _ _ _ _ (.d (I ((ns.length+(Ex.call s v es).sz - 1:Nat)))) (rdN l (l.length - (l.drop k1).length) _);rw [len_drop hk1];clear ih h0 hnum h1;refine aG bH rfl ?_
      repeat' first|refine aw ?_|refine bw (fun _=>?_) fun _=>?_
      refine ag 2 [0,1] hv ?_
      repeat' first|refine aw ?_|refine bw (fun _=>?_) fun _=>?_
      refine ag 2 [0,1] h2 ?_
      repeat' first|refine aw ?_|refine bw (fun _=>?_) fun _=>?_
      refine ag 2 [0,1] pk ?_
      repeat' first|refine aw ?_|refine bw (fun _=>?_) fun _=>?_
      refine ag 2 [0,1] h5 ?_
      repeat' first|refine aw ?_|refine bw (fun _=>?_) fun _=>?_
      exact aF 2 rfl rfl (by exact Uw.wW)
    ·rw [if_neg h3]
     have hp:=qm l (k+1) ns (ns++(Ex.name s).flat ns.length) ⟨2,0,s,[],[]⟩ rfl (ns.length+(Ex.name s).sz - 1) (by simp [Ex.sz]) (by omega);have hp:bk P0 bD [.ptr 0 0,.agg [.d (I 2),.d (I 0),.d (.str s),.d (.str []),.d .nil]] (rdN l (k+1) ns) (.d (I ((ns.length+(Ex.name s).sz - 1:Nat)))) (rdN l (k+1) (ns++(Ex.name s).flat ns.length)):=hp;show bk _ _ _ _ (.d (I ((ns.length+(Ex.name s).sz - 1:Nat)))) (rdN l (l.length - (l.drop (k+1)).length) _);rw [len_drop hlt];generalize hd (l.drop (k+1))=p at *;clear ih h0 hnum h1;refine aG bH rfl ?_
     repeat' first|refine aw ?_|refine bw (fun _=>?_) fun _=>?_
     refine ag 2 [0,1] hv ?_
     repeat' first|refine aw ?_|refine bw (fun _=>?_) fun _=>?_
     refine ag 2 [0,1] h2 ?_
     repeat' first|refine aw ?_|refine bw (fun _=>?_) fun _=>?_
     refine ag 2 [0,1] pk ?_
     repeat' first|refine aw ?_|refine bw (fun _=>?_) fun _=>?_
     refine ag 2 [0,1] hp ?_
     repeat' first|refine aw ?_|refine bw (fun _=>?_) fun _=>?_
     exact aF 2 rfl rfl (by exact Uw.wW)
theorem ce (l:List Tok) (hl:l.length<1000000):∀n,∀m,m<=n->CE l m
 | 0,m,hm=>by
  obtain rfl:m=0:=by omega
  refine ⟨?_,?_,?_,?_,?_,?_⟩
  ·intro k ns _ _;rw [gw];exact trivial
  ·intro s k ns _ _;rw [gR];exact trivial
  ·intro k ns _ _;rw [jx];exact trivial
  ·intro k ns _ _;rw [iH];exact trivial
  ·intro k ns _ _;rw [nE];exact trivial
  ·intro k ns _ _;rw [dL];exact trivial
 | n+1,m,hm=>by
  have ih:=ce l hl n;by_cases h:m<=n
  ·exact ih m h
  ·obtain rfl:m=n+1:=by omega
   exact ⟨fun k ns=>Tm l hl n ih k ns,fun s k ns=>c_call l hl n ih s k ns,fun k ns=>Tn l hl n ih k ns,fun k ns=>Tf l hl n ih k ns,fun k ns=>Vl l hl n ih k ns,fun k ns=>Ti l hl n ih k ns⟩
end Uw.Tryz
namespace Uw.Tryz
open Go Uw
def oN (l:List Tok) (ns:List Nod) (x:R Stm):Out:=
 match x with
 | .ok s r=>.ok (.d (I ((ns.length+s.sz - 1:Nat)))) (rdN l (l.length - r.length) (ns++s.flat ns.length))
 | .bad=>.bad
 | .out=>.out
theorem J7 {f:FuncId} {vs:List V} {l:List Tok} {k:Nat} {ns:List Nod} {x:R Stm} (h:cY f vs (rdN l k ns) (oN l ns x)) (hk:k<=l.length) (hs:∀e r,x = .ok e r->Suf (l.drop k) r e.sz) :
  x = .out\/(x = .bad/\kP P0 f vs (rdN l k ns) cT)\/∃e k',x = .ok e (l.drop k')/\k'<=l.length/\k+e.sz<=k'/\bk P0 f vs (rdN l k ns) (.d (I ((ns.length+e.sz - 1:Nat)))) (rdN l k' (ns++e.flat ns.length)):=by
 cases x with
 | out=>exact .inl rfl
 | bad=>exact .inr (.inl ⟨rfl,h⟩)
 | ok e r=>
  obtain ⟨k',h1,rfl,h2⟩:=rR (hs e r rfl) hk;refine .inr (.inr ⟨e,k',rfl,h1,h2,?_⟩);have h:bk P0 f vs (rdN l k ns) (.d (I ((ns.length+e.sz - 1:Nat)))) (rdN l (l.length - (l.drop k').length) (ns++e.flat ns.length)):=h;rw [len_drop h1] at h;exact h
theorem uo:∀(d:Exs) (b:Nat),(d.places b).length=d.length
 | .nil,b=>rfl
 | .cons e r,b=>by rw [Exs.places,List.length_cons,uo r,Exs.length]
theorem Ja (l:List Tok) (hl:l.length<1000000) (n:Nat) (to:Str) (k:Nat) (ns:List Nod) (hk:k<=l.length) (hn:ns.length<=k):cY hP [.ptr 0 0,.d (.str to)] (rdN l k ns) (oN l ns (gj n to (l.drop k))):=by
 rw [gj];have hv:=bK l k (ns.map bW) hk hl gg (by decide)
 -- behind the word
 have tail:∀(par:Bool) (k1:Nat),k1<=l.length->k+1<=k1->
   (∀{x:Out},cY hP [.ptr 0 0,.d (.str to)] (rdN l k ns) x->True)->True:=fun _ _ _ _ _=>trivial
 clear tail;by_cases h0:hd (l.drop k)=gg
 ·have hlt:=en h0 (by decide)
  rw [if_pos h0,decide_eq_true h0] at hv;rw [if_pos h0,List.tail_drop];show cY _ _ _ (oN l ns ((eQ (l.drop (k+1))).bind _))
  rcases eh l (k+1) (ns.map bW) hlt hl with ⟨h1,h2⟩|⟨f,h1,hlt1,h2⟩
  ·rw [h1]
   clear h0;refine aL cf rfl ?_
   repeat' first|refine aw ?_|refine bw (fun _=>?_) fun _=>?_
   refine ag 2 [0,1] hv ?_
   repeat' first|refine aw ?_|refine bw (fun _=>?_) fun _=>?_
   refine bh 2 [0,1] h2 ?_;intro H q
   repeat' first|refine aw ?_|refine bw (fun _=>?_) fun _=>?_
   exact aM rfl
  ·rw [h1]
   show cY _ _ _ (oN l ns ((gw n (l.drop (k+1+1))).bind _))
   rcases Tj ((ce l hl n n (Nat.le_refl _)).args (k+1+1) ns (by omega) (by omega)) (by omega) (fun e r h=>(eM n).args _ _ _ h) with h3|⟨h3,h4⟩|⟨es,k1,h3,hk1,np,h4⟩
   ·rw [h3];exact trivial
   ·rw [h3]
    clear h0;refine aL cf rfl ?_
    repeat' first|refine aw ?_|refine bw (fun _=>?_) fun _=>?_
    refine ag 2 [0,1] hv ?_
    repeat' first|refine aw ?_|refine bw (fun _=>?_) fun _=>?_
    refine ag 2 [0,1] h2 ?_
    repeat' first|refine aw ?_|refine bw (fun _=>?_) fun _=>?_
    refine bh 3 [0,1] h4 ?_;intro H q
    repeat' first|refine aw ?_|refine bw (fun _=>?_) fun _=>?_
    exact aM rfl
   ·rw [h3]
    show cY _ _ _ (oN l ns (if false=true/\es.length≠2 then .bad else .ok (.task false to f es) (l.drop k1)));rw [if_neg (by rintro ⟨q,_⟩;cases q)];show bk _ _ _ _ (.d (I ((ns.length+(Stm.task false to f es).sz - 1:Nat)))) (rdN l (l.length - (l.drop k1).length) (ns++(Stm.task false to f es).flat ns.length));rw [len_drop hk1];have hp:=qm l k1 (ns++es.flat ns.length) (ns++(Stm.task false to f es).flat ns.length) ⟨10,0,to,f,es.places ns.length⟩ (by simp [Stm.flat]) (ns.length+(Stm.task false to f es).sz - 1) (by simp [Stm.sz,Exs.aB]) (by simp [Exs.aB];omega);have hp:bk P0 bD [.ptr 0 0,.agg [.d (I 10),.d (I 0),.d (.str to),.d (.str f),.d (es.Aa ns.length)]] (rdN l k1 (ns++es.flat ns.length)) (.d (I ((ns.length+(Stm.task false to f es).sz - 1:Nat)))) (rdN l k1 (ns++(Stm.task false to f es).flat ns.length)):=hp;clear h0
    rcases sr es ns.length with e|e
    all_goals
     rw [e] at hp h4;refine aG cf rfl ?_
     repeat' first|refine aw ?_|refine bw (fun _=>?_) fun _=>?_
     refine ag 2 [0,1] hv ?_
     repeat' first|refine aw ?_|refine bw (fun _=>?_) fun _=>?_
     refine ag 2 [0,1] h2 ?_
     repeat' first|refine aw ?_|refine bw (fun _=>?_) fun _=>?_
     refine ag 3 [0,1] h4 ?_
     repeat' first|refine aw ?_|refine bw (fun _=>?_) fun _=>?_
     refine ag 3 [0,1] hp ?_
     repeat' first|refine aw ?_|refine bw (fun _=>?_) fun _=>?_
     exact aF 2 rfl rfl (by exact Uw.wW)
 ·rw [if_neg h0,decide_eq_false h0] at hv
  rw [if_neg h0];by_cases hp0:hd (l.drop k)=pU
  ·have hlt:=en hp0 (by decide)
   have w0:=aN l k (ns.map bW) hk hl pU (by decide) hp0;rw [want,if_pos hp0,List.tail_drop];show cY _ _ _ (oN l ns ((eQ (l.drop (k+1))).bind _))
   rcases eh l (k+1) (ns.map bW) hlt hl with ⟨h1,h2⟩|⟨f,h1,hlt1,h2⟩
   ·rw [h1]
    clear h0 hp0;refine aL cf rfl ?_
    repeat' first|refine aw ?_|refine bw (fun _=>?_) fun _=>?_
    refine ag 2 [0,1] hv ?_
    repeat' first|refine aw ?_|refine bw (fun _=>?_) fun _=>?_
    refine ag 2 [0,1] w0 ?_
    repeat' first|refine aw ?_|refine bw (fun _=>?_) fun _=>?_
    refine bh 2 [0,1] h2 ?_;intro H q
    repeat' first|refine aw ?_|refine bw (fun _=>?_) fun _=>?_
    exact aM rfl
   ·rw [h1]
    show cY _ _ _ (oN l ns ((gw n (l.drop (k+1+1))).bind _))
    rcases Tj ((ce l hl n n (Nat.le_refl _)).args (k+1+1) ns (by omega) (by omega)) (by omega) (fun e r h=>(eM n).args _ _ _ h) with h3|⟨h3,h4⟩|⟨es,k1,h3,hk1,np,h4⟩
    ·rw [h3];exact trivial
    ·rw [h3]
     clear h0 hp0;refine aL cf rfl ?_
     repeat' first|refine aw ?_|refine bw (fun _=>?_) fun _=>?_
     refine ag 2 [0,1] hv ?_
     repeat' first|refine aw ?_|refine bw (fun _=>?_) fun _=>?_
     refine ag 2 [0,1] w0 ?_
     repeat' first|refine aw ?_|refine bw (fun _=>?_) fun _=>?_
     refine ag 2 [0,1] h2 ?_
     repeat' first|refine aw ?_|refine bw (fun _=>?_) fun _=>?_
     refine bh 3 [0,1] h4 ?_;intro H q
     repeat' first|refine aw ?_|refine bw (fun _=>?_) fun _=>?_
     exact aM rfl
    ·rw [h3]
     show cY _ _ _ (oN l ns (if true=true/\es.length≠2 then .bad else .ok (.task true to f es) (l.drop k1)));have hlen:(eP (es.places ns.length)).length=es.length:=by rw [eP,List.length_map,uo]
     by_cases h2' : es.length=2
     ·rw [if_neg (by rintro ⟨_,q⟩;exact q h2')]
      show bk _ _ _ _ (.d (I ((ns.length+(Stm.task true to f es).sz - 1:Nat)))) (rdN l (l.length - (l.drop k1).length) (ns++(Stm.task true to f es).flat ns.length));rw [len_drop hk1];have hp:=qm l k1 (ns++es.flat ns.length) (ns++(Stm.task true to f es).flat ns.length) ⟨11,0,to,f,es.places ns.length⟩ (by simp [Stm.flat]) (ns.length+(Stm.task true to f es).sz - 1) (by simp [Stm.sz,Exs.aB]) (by simp [Exs.aB];omega);have hp:bk P0 bD [.ptr 0 0,.agg [.d (I 11),.d (I 0),.d (.str to),.d (.str f),.d (es.Aa ns.length)]] (rdN l k1 (ns++es.flat ns.length)) (.d (I ((ns.length+(Stm.task true to f es).sz - 1:Nat)))) (rdN l k1 (ns++(Stm.task true to f es).flat ns.length)):=hp;have e:es.Aa ns.length = .slice 1 (eP (es.places ns.length)) false:=by
       rcases sr es ns.length with e|e
       ·exfalso
        have hne:es.places ns.length≠[]:=by intro h;have:=uo es ns.length;rw [h] at this;simp at this;omega
        unfold Exs.Aa ofD at e;rw [if_neg (by omega),if_pos (by omega),if_neg hne] at e
        cases e
       ·exact e
      rw [e] at hp h4;clear h0 hp0;refine aG cf rfl ?_
      repeat' first|refine aw ?_|refine bw (fun _=>?_) fun _=>?_
      refine ag 2 [0,1] hv ?_
      repeat' first|refine aw ?_|refine bw (fun _=>?_) fun _=>?_
      refine ag 2 [0,1] w0 ?_
      repeat' first|refine aw ?_|refine bw (fun _=>?_) fun _=>?_
      refine ag 2 [0,1] h2 ?_
      repeat' first|refine aw ?_|refine bw (fun _=>?_) fun _=>?_
      refine ag 3 [0,1] h4 ?_
      repeat' first|refine aw ?_|refine bw (fun _=>?_) fun _=>?_
      refine ag 3 [0,1] hp ?_
      repeat' first|refine aw ?_|refine bw (fun _=>?_) fun _=>?_
      exact aF 2 rfl rfl (by exact Uw.wW)
     ·rw [if_pos ⟨rfl,h2'⟩]
      clear h0 hp0
      rcases sr es ns.length with e|e
      all_goals
       rw [e] at h4;refine aL cf rfl ?_
       repeat' first|refine aw ?_|refine bw (fun _=>?_) fun _=>?_
       refine ag 2 [0,1] hv ?_
       repeat' first|refine aw ?_|refine bw (fun _=>?_) fun _=>?_
       refine ag 2 [0,1] w0 ?_
       repeat' first|refine aw ?_|refine bw (fun _=>?_) fun _=>?_
       refine ag 2 [0,1] h2 ?_
       repeat' first|refine aw ?_|refine bw (fun _=>?_) fun _=>?_
       refine ag 3 [0,1] h4 ?_
       repeat' first|refine aw ?_|refine bw (fun _=>?_) fun _=>?_
       exact aM rfl
  ·have w0:=aZ l k (ns.map bW) hk hl pU (by decide) hp0
   rw [want,if_neg hp0];clear h0 hp0;refine aL cf rfl ?_
   repeat' first|refine aw ?_|refine bw (fun _=>?_) fun _=>?_
   refine ag 2 [0,1] hv ?_
   repeat' first|refine aw ?_|refine bw (fun _=>?_) fun _=>?_
   refine bh 2 [0,1] w0 ?_;intro H q
   repeat' first|refine aw ?_|refine bw (fun _=>?_) fun _=>?_
   exact aM rfl
end Uw.Tryz
namespace Uw.Tryz
open Go Uw
theorem Eg (l:List Tok) (k:Nat) (ns:List Nod) (K:Int) (s:Str) (e:Ex) (ms:List Nod) (hms:ms=ns++e.flat ns.length++[⟨K,0,s,[],[ns.length+e.sz - 1]⟩]) (p:Nat) (hp:p=ns.length+e.sz) (hx:(ns++e.flat ns.length).length<1000000) (hK:K=9\/K=15\/K=16\/K=17) :
  bk P0 bD [.ptr 0 0,.agg [.d (I K),.d (I 0),.d (.str s),.d (.str []),.d (.slice 1 [[I ((ns.length+e.sz - 1:Nat))]] true)]] (rdN l k (ns++e.flat ns.length)) (.d (I p)) (rdN l k ms):=by
 have:=qm l k _ _ _ hms p (by rw [hp];simp [Ex.aB]) hx;have e:ofD K [ns.length+e.sz - 1] = .slice 1 [[I ((ns.length+e.sz - 1:Nat))]] true:=by
  unfold ofD;rw [if_neg (by omega),if_neg (by omega),if_neg (by omega)];rfl
 simp only [e] at this;exact this
theorem Vn (l:List Tok) (hl:l.length<1000000) (n:Nat) (K:Int) (hK:K=15\/K=16) (k:Nat) (ns:List Nod) (hk:k<l.length) (hn:ns.length<=k):cY nc [.ptr 0 0,.d (I K)] (rdN l k ns) (oN l ns ((dL n (l.drop (k+1))).bind fun e r=>.ok (.one K e) r)):=by
 rcases wE ((ce l hl n n (Nat.le_refl _)).expr (k+1) ns hk (by omega)) hk (fun e r h=>(eM n).expr _ _ _ h) with h2|⟨h2,h3⟩|⟨e,k1,h2,hk1,np,h3⟩
 ·rw [h2];exact trivial
 ·rw [h2]
  refine aL lT rfl ?_
  repeat' first|refine aw ?_|refine bw (fun _=>?_) fun _=>?_
  refine bh 2 [0,1] h3 ?_;intro H q
  repeat' first|refine aw ?_|refine bw (fun _=>?_) fun _=>?_
  exact aM rfl
 ·rw [h2]
  have hz:(Stm.one K e).sz=e.sz+1:=rfl;have hp:=Eg l k1 ns K [] e (ns++(Stm.one K e).flat ns.length) (by simp [Stm.flat]) (ns.length+(Stm.one K e).sz - 1) (by omega) (by simp [Ex.aB];omega) (by omega);show bk _ _ _ _ (.d (I ((ns.length+(Stm.one K e).sz - 1:Nat)))) (rdN l (l.length - (l.drop k1).length) _);rw [len_drop hk1];refine aG lT rfl ?_
  repeat' first|refine aw ?_|refine bw (fun _=>?_) fun _=>?_
  refine ag 2 [0,1] h3 ?_
  repeat' first|refine aw ?_|refine bw (fun _=>?_) fun _=>?_
  refine ag 2 [0,1] hp ?_
  repeat' first|refine aw ?_|refine bw (fun _=>?_) fun _=>?_
  exact aF 2 rfl rfl (by exact Uw.wW)
theorem M9 (l:List Tok) (hl:l.length<1000000) (n:Nat) (k:Nat) (ns:List Nod) (hk:k<=l.length) (hn:ns.length<=k):cY gq [.ptr 0 0] (rdN l k ns) (oN l ns (iu n (l.drop k))):=by
 rw [iu];have pk:=bO l k (ns.map bW) hk;by_cases h0:hd (l.drop k)=gg\/hd (l.drop k)=pU
 ·rw [if_pos h0]
  rcases J7 (Ja l hl n [] k ns hk hn) hk (fun e r h=>o8 h) with h2|⟨h2,h3⟩|⟨s,k1,h2,hk1,np,h3⟩
  ·rw [h2];exact trivial
  ·rw [h2]
   rcases h0 with h0|h0
   all_goals
    rw [h0] at pk;clear h0;refine aL aP rfl ?_
    repeat' first|refine aw ?_|refine bw (fun _=>?_) fun _=>?_
    refine ag 2 [0,1] pk ?_
    repeat' first|refine aw ?_|refine bw (fun _=>?_) fun _=>?_
    refine bh 2 [0,1] h3 ?_;intro H q
    repeat' first|refine aw ?_|refine bw (fun _=>?_) fun _=>?_
    exact aM rfl
  ·rw [h2]
   show bk _ _ _ _ (.d (I ((ns.length+s.sz - 1:Nat)))) (rdN l (l.length - (l.drop k1).length) _);rw [len_drop hk1]
   rcases h0 with h0|h0
   all_goals
    rw [h0] at pk;clear h0;refine aG aP rfl ?_
    repeat' first|refine aw ?_|refine bw (fun _=>?_) fun _=>?_
    refine ag 2 [0,1] pk ?_
    repeat' first|refine aw ?_|refine bw (fun _=>?_) fun _=>?_
    refine ag 2 [0,1] h3 ?_
    repeat' first|refine aw ?_|refine bw (fun _=>?_) fun _=>?_
    exact aF 2 rfl rfl (by exact Uw.wW)
 ·rw [if_neg h0]
  by_cases h1:hd (l.drop k)=wT
  ·have hlt:=en h1 (by decide)
   rw [if_pos h1,List.tail_drop];have w0:=aN l k (ns.map bW) hk hl wT (by decide) h1;rw [h1] at pk;have hp:=qm l (k+1) ns (ns++(Stm.sync).flat ns.length) ⟨12,0,[],[],[]⟩ rfl (ns.length+(Stm.sync).sz - 1) (by simp [Stm.sz]) (by omega);have hp:bk P0 bD [.ptr 0 0,.agg [.d (I 12),.d (I 0),.d (.str []),.d (.str []),.d .nil]] (rdN l (k+1) ns) (.d (I ((ns.length+(Stm.sync).sz - 1:Nat)))) (rdN l (k+1) (ns++(Stm.sync).flat ns.length)):=hp;show bk _ _ _ _ (.d (I ((ns.length+(Stm.sync).sz - 1:Nat)))) (rdN l (l.length - (l.drop (k+1)).length) _);rw [len_drop hlt];clear h0 h1;refine aG aP rfl ?_
   repeat' first|refine aw ?_|refine bw (fun _=>?_) fun _=>?_
   refine ag 2 [0,1] pk ?_
   repeat' first|refine aw ?_|refine bw (fun _=>?_) fun _=>?_
   refine ag 2 [0,1] w0 ?_
   repeat' first|refine aw ?_|refine bw (fun _=>?_) fun _=>?_
   refine ag 2 [0,1] hp ?_
   repeat' first|refine aw ?_|refine bw (fun _=>?_) fun _=>?_
   exact aF 2 rfl rfl (by exact Uw.wW)
  ·rw [if_neg h1]
   have one:∀(K:Int) (w:Str),(K=15/\w=nP)\/(K=16/\w=nQ)->hd (l.drop k)=w->cY gq [.ptr 0 0] (rdN l k ns) (oN l ns ((dL n (l.drop (k+1))).bind fun e r=>.ok (.one K e) r)):=by
    intro K w hw hh;have hlt:=en hh (by rcases hw with ⟨_,rfl⟩|⟨_,rfl⟩<;>decide);rw [hh] at pk;clear h0 h1 hh
    rcases J7 (Vn l hl n K (by omega) k ns hlt hn) hk (fun e r h=>by
     obtain ⟨e1,r1,h1,h2⟩:=bind_ok.1 h;injection h2 with e2 e3
     subst e2 e3;have:=(eM n).expr _ _ _ h1;obtain ⟨j,j1,j2,j3⟩:=this;simp at j1;exact ⟨j+1,by simp;omega,by rw [j2,List.drop_drop,List.drop_drop];congr 1;omega,by rw [Stm.sz];omega⟩) with h2|⟨h2,h3⟩|⟨s,k1,h2,hk1,np,h3⟩
    ·rw [h2];exact trivial
    ·rw [h2]
     rcases hw with ⟨rfl,rfl⟩|⟨rfl,rfl⟩
     all_goals
      refine aL aP rfl ?_
      repeat' first|refine aw ?_|refine bw (fun _=>?_) fun _=>?_
      refine ag 2 [0,1] pk ?_
      repeat' first|refine aw ?_|refine bw (fun _=>?_) fun _=>?_
      refine bh 2 [0,1] h3 ?_;intro H q
      repeat' first|refine aw ?_|refine bw (fun _=>?_) fun _=>?_
      exact aM rfl
    ·rw [h2]
     show bk _ _ _ _ (.d (I ((ns.length+s.sz - 1:Nat)))) (rdN l (l.length - (l.drop k1).length) _);rw [len_drop hk1]
     rcases hw with ⟨rfl,rfl⟩|⟨rfl,rfl⟩
     all_goals
      refine aG aP rfl ?_
      repeat' first|refine aw ?_|refine bw (fun _=>?_) fun _=>?_
      refine ag 2 [0,1] pk ?_
      repeat' first|refine aw ?_|refine bw (fun _=>?_) fun _=>?_
      refine ag 2 [0,1] h3 ?_
      repeat' first|refine aw ?_|refine bw (fun _=>?_) fun _=>?_
      exact aF 2 rfl rfl (by exact Uw.wW)
   by_cases h2:hd (l.drop k)=nP
   ·rw [if_pos h2,List.tail_drop]
    exact one 15 _ (.inl ⟨rfl,rfl⟩) h2
   ·rw [if_neg h2]
    by_cases h3:hd (l.drop k)=nQ
    ·rw [if_pos h3,List.tail_drop]
     exact one 16 _ (.inr ⟨rfl,rfl⟩) h3
    ·rw [if_neg h3]
     clear one;generalize hd (l.drop k)=p at *;have q1:¬p=gg:=fun h=>h0 (.inl h);have q2:¬p=pU:=fun h=>h0 (.inr h);clear h0;unfold gg at q1;unfold pU at q2;unfold wT at h1;unfold nP at h2;unfold nQ at h3
     rcases eh l k (ns.map bW) hk hl with ⟨h4,h5⟩|⟨s,h4,hlt,h5⟩
     ·rw [h4]
      refine aL aP rfl ?_
      repeat' first|refine aw ?_|refine bw (fun _=>?_) fun _=>?_
      refine ag 2 [0,1] pk ?_
      repeat' first|refine aw ?_|refine bw (fun _=>?_) fun _=>?_
      refine bh 2 [0,1] h5 ?_;intro H q
      repeat' first|refine aw ?_|refine bw (fun _=>?_) fun _=>?_
      exact aM rfl
     ·rw [h4]
      clear h4;have pk2:=bO l (k+1) (ns.map bW) hlt;show cY _ _ _ (oN l ns (if hd (l.drop (k+1))=[46] then _ else _));by_cases h6:hd (l.drop (k+1))=[46]
      ·rw [if_pos h6]
       rw [h6] at pk2;clear h6
       rcases Vm ((ce l hl n n (Nat.le_refl _)).call s (k+1) ns hlt (by omega)) hlt (fun e r h=>(eM n).call _ _ _ _ h) with h7|⟨h7,h8⟩|⟨v,es,k1,h7,hk1,np,h8⟩
       ·rw [h7];exact trivial
       ·rw [h7]
        refine aL aP rfl ?_
        repeat' first|refine aw ?_|refine bw (fun _=>?_) fun _=>?_
        refine ag 2 [0,1] pk ?_
        repeat' first|refine aw ?_|refine bw (fun _=>?_) fun _=>?_
        refine ag 2 [0,1] h5 ?_
        repeat' first|refine aw ?_|refine bw (fun _=>?_) fun _=>?_
        refine ag 2 [0,1] pk2 ?_
        repeat' first|refine aw ?_|refine bw (fun _=>?_) fun _=>?_
        refine bh 2 [0,1] h8 ?_;intro H q
        repeat' first|refine aw ?_|refine bw (fun _=>?_) fun _=>?_
        exact aM rfl
       ·rw [h7]
        show bk _ _ _ _ (.d (I ((ns.length+(Stm.act s v es).sz - 1:Nat)))) (rdN l (l.length - (l.drop k1).length) (ns++(Stm.act s v es).flat ns.length));rw [len_drop hk1];have hz:(Ex.call s v es).sz=es.sz+1:=rfl;have hp:=Eg l k1 ns 17 [] (.call s v es) (ns++(Stm.act s v es).flat ns.length) (by simp [Stm.flat,Ex.flat,Ex.sz];try omega) (ns.length+(Stm.act s v es).sz - 1) (by simp [Stm.sz,Ex.sz];try omega) (by simp [Ex.aB];omega) (by omega);refine aG aP rfl ?_
        repeat' first|refine aw ?_|refine bw (fun _=>?_) fun _=>?_
        refine ag 2 [0,1] pk ?_
        repeat' first|refine aw ?_|refine bw (fun _=>?_) fun _=>?_
        refine ag 2 [0,1] h5 ?_
        repeat' first|refine aw ?_|refine bw (fun _=>?_) fun _=>?_
        refine ag 2 [0,1] pk2 ?_
        repeat' first|refine aw ?_|refine bw (fun _=>?_) fun _=>?_
        refine ag 2 [0,1] h8 ?_
        repeat' first|refine aw ?_|refine bw (fun _=>?_) fun _=>?_
        refine ag 2 [0,1] hp ?_
        repeat' first|refine aw ?_|refine bw (fun _=>?_) fun _=>?_
        exact aF 2 rfl rfl (by exact Uw.wW)
      ·rw [if_neg h6]
       by_cases h7:hd (l.drop (k+1))=[61]
       ·have hlt2:=en h7 (by simp)
        have w1:=aN l (k+1) (ns.map bW) hlt hl [61] (by simp) h7;rw [want,if_pos h7,List.tail_drop];rw [h7] at pk2;clear h6 h7;have pk3:=bO l (k+1+1) (ns.map bW) hlt2;show cY _ _ _ (oN l ns (if hd (l.drop (k+1+1))=gg\/hd (l.drop (k+1+1))=pU then _ else _));by_cases h8:hd (l.drop (k+1+1))=gg\/hd (l.drop (k+1+1))=pU
        ·rw [if_pos h8]
         rcases J7 (Ja l hl n s (k+1+1) ns hlt2 (by omega)) hlt2 (fun e r h=>o8 h) with h9|⟨h9,h10⟩|⟨s2,k1,h9,hk1,np,h10⟩
         ·rw [h9];exact trivial
         ·rw [h9]
          rcases h8 with h8|h8
          ·rw [h8] at pk3
           clear h8;refine aL aP rfl ?_
           repeat' first|refine aw ?_|refine bw (fun _=>?_) fun _=>?_
           refine ag 2 [0,1] pk ?_
           repeat' first|refine aw ?_|refine bw (fun _=>?_) fun _=>?_
           refine ag 2 [0,1] h5 ?_
           repeat' first|refine aw ?_|refine bw (fun _=>?_) fun _=>?_
           refine ag 2 [0,1] pk2 ?_
           repeat' first|refine aw ?_|refine bw (fun _=>?_) fun _=>?_
           refine ag 2 [0,1] w1 ?_
           repeat' first|refine aw ?_|refine bw (fun _=>?_) fun _=>?_
           refine ag 2 [0,1] pk3 ?_
           repeat' first|refine aw ?_|refine bw (fun _=>?_) fun _=>?_
           refine bh 2 [0,1] h10 ?_;intro H q
           repeat' first|refine aw ?_|refine bw (fun _=>?_) fun _=>?_
           exact aM rfl
          ·rw [h8] at pk3
           clear h8;refine aL aP rfl ?_
           repeat' first|refine aw ?_|refine bw (fun _=>?_) fun _=>?_
           refine ag 2 [0,1] pk ?_
           repeat' first|refine aw ?_|refine bw (fun _=>?_) fun _=>?_
           refine ag 2 [0,1] h5 ?_
           repeat' first|refine aw ?_|refine bw (fun _=>?_) fun _=>?_
           refine ag 2 [0,1] pk2 ?_
           repeat' first|refine aw ?_|refine bw (fun _=>?_) fun _=>?_
           refine ag 2 [0,1] w1 ?_
           repeat' first|refine aw ?_|refine bw (fun _=>?_) fun _=>?_
           refine ag 2 [0,1] pk3 ?_
           repeat' first|refine aw ?_|refine bw (fun _=>?_) fun _=>?_
           refine ag 2 [0,1] pk3 ?_
           repeat' first|refine aw ?_|refine bw (fun _=>?_) fun _=>?_
           refine bh 2 [0,1] h10 ?_;intro H q
           repeat' first|refine aw ?_|refine bw (fun _=>?_) fun _=>?_
           exact aM rfl
         ·rw [h9]
          show bk _ _ _ _ (.d (I ((ns.length+s2.sz - 1:Nat)))) (rdN l (l.length - (l.drop k1).length) _);rw [len_drop hk1]
          rcases h8 with h8|h8
          ·rw [h8] at pk3
           clear h8;refine aG aP rfl ?_
           repeat' first|refine aw ?_|refine bw (fun _=>?_) fun _=>?_
           refine ag 2 [0,1] pk ?_
           repeat' first|refine aw ?_|refine bw (fun _=>?_) fun _=>?_
           refine ag 2 [0,1] h5 ?_
           repeat' first|refine aw ?_|refine bw (fun _=>?_) fun _=>?_
           refine ag 2 [0,1] pk2 ?_
           repeat' first|refine aw ?_|refine bw (fun _=>?_) fun _=>?_
           refine ag 2 [0,1] w1 ?_
           repeat' first|refine aw ?_|refine bw (fun _=>?_) fun _=>?_
           refine ag 2 [0,1] pk3 ?_
           repeat' first|refine aw ?_|refine bw (fun _=>?_) fun _=>?_
           refine ag 2 [0,1] h10 ?_
           repeat' first|refine aw ?_|refine bw (fun _=>?_) fun _=>?_
           exact aF 2 rfl rfl (by exact Uw.wW)
          ·rw [h8] at pk3
           clear h8;refine aG aP rfl ?_
           repeat' first|refine aw ?_|refine bw (fun _=>?_) fun _=>?_
           refine ag 2 [0,1] pk ?_
           repeat' first|refine aw ?_|refine bw (fun _=>?_) fun _=>?_
           refine ag 2 [0,1] h5 ?_
           repeat' first|refine aw ?_|refine bw (fun _=>?_) fun _=>?_
           refine ag 2 [0,1] pk2 ?_
           repeat' first|refine aw ?_|refine bw (fun _=>?_) fun _=>?_
           refine ag 2 [0,1] w1 ?_
           repeat' first|refine aw ?_|refine bw (fun _=>?_) fun _=>?_
           refine ag 2 [0,1] pk3 ?_
           repeat' first|refine aw ?_|refine bw (fun _=>?_) fun _=>?_
           refine ag 2 [0,1] pk3 ?_
           repeat' first|refine aw ?_|refine bw (fun _=>?_) fun _=>?_
           refine ag 2 [0,1] h10 ?_
           repeat' first|refine aw ?_|refine bw (fun _=>?_) fun _=>?_
           exact aF 2 rfl rfl (by exact Uw.wW)
        ·rw [if_neg h8]
         generalize hd (l.drop (k+1+1))=p3 at *;have q3:¬p3=gg:=fun h=>h8 (.inl h);have q4:¬p3=pU:=fun h=>h8 (.inr h);clear h8;unfold gg at q3;unfold pU at q4
         rcases wE ((ce l hl n n (Nat.le_refl _)).expr (k+1+1) ns hlt2 (by omega)) hlt2 (fun e r h=>(eM n).expr _ _ _ h) with h9|⟨h9,h10⟩|⟨e,k1,h9,hk1,np,h10⟩
         ·rw [h9];exact trivial
         ·rw [h9]
          refine aL aP rfl ?_
          repeat' first|refine aw ?_|refine bw (fun _=>?_) fun _=>?_
          refine ag 2 [0,1] pk ?_
          repeat' first|refine aw ?_|refine bw (fun _=>?_) fun _=>?_
          refine ag 2 [0,1] h5 ?_
          repeat' first|refine aw ?_|refine bw (fun _=>?_) fun _=>?_
          refine ag 2 [0,1] pk2 ?_
          repeat' first|refine aw ?_|refine bw (fun _=>?_) fun _=>?_
          refine ag 2 [0,1] w1 ?_
          repeat' first|refine aw ?_|refine bw (fun _=>?_) fun _=>?_
          refine ag 2 [0,1] pk3 ?_
          repeat' first|refine aw ?_|refine bw (fun _=>?_) fun _=>?_
          refine ag 2 [0,1] pk3 ?_
          repeat' first|refine aw ?_|refine bw (fun _=>?_) fun _=>?_
          refine bh 2 [0,1] h10 ?_;intro H q
          repeat' first|refine aw ?_|refine bw (fun _=>?_) fun _=>?_
          exact aM rfl
         ·rw [h9]
          have hz:(Stm.set s e).sz=e.sz+1:=rfl;have hp:=Eg l k1 ns 9 s e (ns++(Stm.set s e).flat ns.length) (by simp [Stm.flat]) (ns.length+(Stm.set s e).sz - 1) (by omega) (by simp [Ex.aB];omega) (by omega);show bk _ _ _ _ (.d (I ((ns.length+(Stm.set s e).sz - 1:Nat)))) (rdN l (l.length - (l.drop k1).length) _);rw [len_drop hk1];refine aG aP rfl ?_
          repeat' first|refine aw ?_|refine bw (fun _=>?_) fun _=>?_
          refine ag 2 [0,1] pk ?_
          repeat' first|refine aw ?_|refine bw (fun _=>?_) fun _=>?_
          refine ag 2 [0,1] h5 ?_
          repeat' first|refine aw ?_|refine bw (fun _=>?_) fun _=>?_
          refine ag 2 [0,1] pk2 ?_
          repeat' first|refine aw ?_|refine bw (fun _=>?_) fun _=>?_
          refine ag 2 [0,1] w1 ?_
          repeat' first|refine aw ?_|refine bw (fun _=>?_) fun _=>?_
          refine ag 2 [0,1] pk3 ?_
          repeat' first|refine aw ?_|refine bw (fun _=>?_) fun _=>?_
          refine ag 2 [0,1] pk3 ?_
          repeat' first|refine aw ?_|refine bw (fun _=>?_) fun _=>?_
          refine ag 2 [0,1] h10 ?_
          repeat' first|refine aw ?_|refine bw (fun _=>?_) fun _=>?_
          refine ag 2 [0,1] hp ?_
          repeat' first|refine aw ?_|refine bw (fun _=>?_) fun _=>?_
          exact aF 2 rfl rfl (by exact Uw.wW)
       ·have w1:=aZ l (k+1) (ns.map bW) hlt hl [61] (by simp) h7
        rw [want,if_neg h7];generalize hd (l.drop (k+1))=p2 at *;clear h7;refine aL aP rfl ?_
        repeat' first|refine aw ?_|refine bw (fun _=>?_) fun _=>?_
        refine ag 2 [0,1] pk ?_
        repeat' first|refine aw ?_|refine bw (fun _=>?_) fun _=>?_
        refine ag 2 [0,1] h5 ?_
        repeat' first|refine aw ?_|refine bw (fun _=>?_) fun _=>?_
        refine ag 2 [0,1] pk2 ?_
        repeat' first|refine aw ?_|refine bw (fun _=>?_) fun _=>?_
        refine bh 2 [0,1] w1 ?_;intro H q
        repeat' first|refine aw ?_|refine bw (fun _=>?_) fun _=>?_
        exact aM rfl
end Uw.Tryz
namespace Uw.Tryz
open Go Uw
theorem Eh (l:List Tok) (k:Nat) (ns ms:List Nod) (nd:Nod) (hms:ms=ns++[nd]) (p:Nat) (hp:p=ns.length) (hx:ns.length<1000000) (hof:ofD nd.kind nd.of = .slice 1 (eP nd.of) false) :
  bk P0 bD [.ptr 0 0,.agg [.d (I nd.kind),.d (I nd.n),.d (.str nd.name),.d (.str nd.name2),.ref 2 0 0 (eP nd.of).length]] (rdN l k ns++[.arr 1 (eP nd.of)]) (.d (I p)) (rdN l k ms++[.arr 1 (eP nd.of)]):=by
 subst hms hp;obtain ⟨a,b,c,d,of⟩:=nd;simp only at hof ⊢;have e:(ns++[(⟨a,b,c,d,of⟩:Nod)]).map bW=ns.map bW++[[I a,I b,.str c,.str d,.slice 1 (eP of) false]]:=by simp [bW,hof]
 have hxs:(ns.map bW).length<1000000:=by simpa using hx
 have hxe:(ns.map bW).length=ns.length:=by simp
 have hfz:((eP of).drop 0).take (eP of).length=eP of:=by simp
 rw [rdN,rdN,e];generalize ns.map bW=xs at *;generalize eP of=ys at *;have e2:xs++[[I a,I b,.str c,.str d,.slice 1 ((ys.drop 0).take ys.length) false]]=xs++[[I a,I b,.str c,.str d,.slice 1 ys false]]:=by rw [hfz]
 refine aG iP rfl ?_
 repeat' first|refine aw ?_|refine bw (fun _=>?_) fun _=>?_
 refine bZ ⟨[(0,.ptr 0 0)],[(0,.var [.d (uR l),.d (I k),.ref 1 0 0 (xs.length+1)]),(1,.arr 5 (xs++[[I a,I b,.str c,.str d,.slice 1 ys false]])),(2,.arr 1 ys)],4,[],3⟩ ?_ ?_
 ·repeat' first|refine aw ?_|refine bw (fun _=>?_) fun _=>?_
  exact aY (.inl ⟨rfl,by exact Uw.wW⟩)
 ·repeat' first|refine aw ?_|refine bw (fun _=>?_) fun _=>?_
  exact aF 3 rfl rfl (by exact Uw.wW)
def H3 (l:List Tok) (ns:List Nod) (x:R Bl):Out:=
 match x with
 | .ok s r=>.ok (.d (I ((ns.length+s.sz:Nat)))) (rdN l (l.length - r.length) (ns++s.all ns.length))
 | .bad=>.bad
 | .out=>.out
theorem Qe {l:List Tok} {ns:List Nod} {x:R Bl} (h:x≠R.out):H3 l ns x≠Out.out:=by
 cases x with
 | out=>exact absurd rfl h
 | bad=>intro h;cases h
 | ok e r=>intro h;cases h
theorem Qf {f:FuncId} {vs:List V} {l:List Tok} {k:Nat} {ns:List Nod} {x:R Bl} (h:cY f vs (rdN l k ns) (H3 l ns x)) (hk:k<=l.length) (hs:∀e r,x = .ok e r->Suf (l.drop k) r (e.sz+1)) :
  x = .out\/(x = .bad/\kP P0 f vs (rdN l k ns) cT)\/∃e k',x = .ok e (l.drop k')/\k'<=l.length/\k+(e.sz+1)<=k'/\bk P0 f vs (rdN l k ns) (.d (I ((ns.length+e.sz:Nat)))) (rdN l k' (ns++e.all ns.length)):=by
 cases x with
 | out=>exact .inl rfl
 | bad=>exact .inr (.inl ⟨rfl,h⟩)
 | ok e r=>
  obtain ⟨k',h1,rfl,h2⟩:=rR (hs e r rfl) hk;refine .inr (.inr ⟨e,k',rfl,h1,h2,?_⟩);have h:bk P0 f vs (rdN l k ns) (.d (I ((ns.length+e.sz:Nat)))) (rdN l (l.length - (l.drop k').length) (ns++e.all ns.length)):=h;rw [len_drop h1] at h;exact h
structure CS (l:List Tok) (n:Nat):Prop where
 stmt:∀k ns,k<=l.length->ns.length<=k->cY fc [.ptr 0 0] (rdN l k ns) (oN l ns (jy n (l.drop k)))
 block:∀k ns,k<=l.length->ns.length<=k->cY gZ [.ptr 0 0] (rdN l k ns) (H3 l ns (dr n (l.drop k)))
def Bl.app:Bl->Bl->Bl
 | .nil,b=>b
 | .cons e r,b=>.cons e (r.app b)
theorem Bl.Ab:∀(a b:Bl),(a.app b).sz=a.sz+b.sz
 | .nil,b=>by simp [Bl.app,Bl.sz]
 | .cons e r,b=>by rw [Bl.app,Bl.sz,Bl.sz,Bl.Ab r b];omega
theorem Bl.rS:∀(a b:Bl) (n:Nat),(a.app b).flat n=a.flat n++b.flat (n+a.sz)
 | .nil,b,n=>by simp [Bl.app,Bl.flat,Bl.sz]
 | .cons e r,b,n=>by rw [Bl.app,Bl.flat,Bl.flat,Bl.rS r b,Bl.sz,List.append_assoc,Nat.add_assoc]
theorem Bl.nq:∀(a b:Bl) (n:Nat),(a.app b).places n=a.places n++b.places (n+a.sz)
 | .nil,b,n=>by simp [Bl.app,Bl.places,Bl.sz]
 | .cons e r,b,n=>by rw [Bl.app,Bl.places,Bl.places,Bl.nq r b,Bl.sz,List.cons_append,Nat.add_assoc]
theorem Bl.vD:∀(a:Bl),a.app .nil=a
 | .nil=>rfl
 | .cons e r=>by rw [Bl.app,Bl.vD r]
theorem Bl.pA:∀(a b c:Bl),(a.app b).app c=a.app (b.app c)
 | .nil,b,c=>rfl
 | .cons e r,b,c=>by rw [Bl.app,Bl.app,Bl.app,Bl.pA r b c]
theorem Bl.BS:∀(d:Bl) (b:Nat),(d.places b).length<=d.sz
 | .nil,b=>by simp [Bl.places]
 | .cons s r,b=>by have:=Bl.BS r (b+s.sz);have:=s.ji;simp [Bl.places,Bl.sz];omega
theorem Qg (l:List Tok) (hl:l.length<1000000) (n:Nat) (ih:∀m,m<=n->CS l m) (k:Nat) (ns:List Nod) (hk:k<=l.length) (hn:ns.length<=k):cY gZ [.ptr 0 0] (rdN l k ns) (H3 l ns (dr (n+1) (l.drop k))):=by
 rw [dr];by_cases h0:hd (l.drop k)=[123]
 ·have hlt:=en h0 (by simp)
  have w0:=aN l k (ns.map bW) hk hl [123] (by simp) h0;rw [want,if_pos h0,List.tail_drop];show cY _ _ _ (H3 l ns (dS n (l.drop (k+1))));by_cases hout:dS n (l.drop (k+1)) = .out
  ·rw [hout];exact trivial
  generalize hR:dS n (l.drop (k+1))=Rr at hout;refine sq ka rfl (Qe hout) ?_
  repeat' first|refine aw ?_|refine bw (fun _=>?_) fun _=>?_
  refine ag 2 [0,1] w0 ?_
  repeat' first|refine aw ?_|refine bw (fun _=>?_) fun _=>?_
  refine dG (fun ((d,k1,m):Bl×Nat×Nat)=>⟨[(3,.ref 2 0 0 (eP (d.places ns.length)).length),(0,.ptr 0 0)],br 0 (rdN l k1 (ns++d.flat ns.length)++[.arr 1 (eP (d.places ns.length))]),3,[],2⟩)
   (fun (d,k1,m)=>(dS m (l.drop k1)).bind (fun es r=>R.ok (d.app es) r)=Rr/\m<=n/\k1<=l.length/\k+d.sz+1<=k1) (fun (_,_,m)=>m) (.nil,k+1,n) (by
    have e:ns=ns++Bl.nil.flat ns.length:=by simp [Bl.flat]
    have e1:(ns.map bW).length=((ns++Bl.nil.flat ns.length).map bW).length:=by rw [<- e]
    have e2:ns.map bW=(ns++Bl.nil.flat ns.length).map bW:=by rw [<- e]
    exact Uw.wW) ⟨by rw [<- hR];cases dS n (l.drop (k+1))<;>rfl,Nat.le_refl _,hlt,by simp [Bl.sz]⟩ ?_
  clear hR w0 h0;rintro ⟨d,k1,m⟩ ⟨hR,hm,hk1,hk2⟩
  cases m with
  | zero=>rw [dS] at hR;exact absurd hR.symm hout
  | succ m=>
   rw [dS] at hR;have hfl:(ns++d.flat ns.length).length=ns.length+d.sz:=by simp [Bl.aB]
   have hv:=bK l k1 ((ns++d.flat ns.length).map bW) hk1 hl [125] (by simp);have hpy:(eP (d.places ns.length)).length<1000000:=by have:=d.BS ns.length;simp [eP];omega
   by_cases hs:hd (l.drop k1)=[125]
   ·have hlt:=en hs (by simp)
    rw [if_pos hs,List.tail_drop] at hR;rw [if_pos hs,decide_eq_true hs] at hv;have hR:R.ok (d.app .nil) (l.drop (k1+1))=Rr:=hR;have hb:H3 l ns Rr = .ok (.d (I ((ns.length+d.sz:Nat)))) (rdN l (k1+1) (ns++d.all ns.length)):=by
     rw [<- hR,Bl.vD];show Out.ok _ (rdN l (l.length - (l.drop (k1+1)).length) _)=_;rw [len_drop (by omega)]
    have hp:=Eh l (k1+1) (ns++d.flat ns.length) (ns++d.all ns.length) ⟨18,0,[],[],d.places ns.length⟩ (by simp [Bl.all]) (ns.length+d.sz) (by simp [Bl.aB]) (by simp [Bl.aB];omega) rfl;clear ih hR hout hs
    repeat' first|refine aw ?_|refine bw (fun _=>?_) fun _=>?_
    refine ag 3 [0,1] hv ?_
    repeat' first|refine aw ?_|refine bw (fun _=>?_) fun _=>?_
    refine aC ?_
    repeat' first|refine aw ?_|refine bw (fun _=>?_) fun _=>?_
    refine ag 3 [0,1,2] hp ?_
    repeat' first|refine aw ?_|refine bw (fun _=>?_) fun _=>?_
    exact vB 2 hb rfl rfl (by exact Uw.wW)
   ·rw [if_neg hs] at hR
    rw [if_neg hs,decide_eq_false hs] at hv
    rcases J7 ((ih m (by omega)).stmt k1 (ns++d.flat ns.length) hk1 (by omega)) hk1 (fun e r h=>(s4 m).stmt _ _ _ h) with h0|⟨h0,h1⟩|⟨y,k2,h0,hk3,Gy,h1⟩
    ·rw [h0] at hR;exact absurd hR.symm hout
    ·rw [h0] at hR
     have hb:H3 l ns Rr = .bad:=by rw [<- hR];rfl
     clear ih hR hout hs h0
     repeat' first|refine aw ?_|refine bw (fun _=>?_) fun _=>?_
     refine ag 3 [0,1] hv ?_
     repeat' first|refine aw ?_|refine bw (fun _=>?_) fun _=>?_
     refine bh 3 [0,1] h1 ?_;intro h q
     repeat' first|refine aw ?_|refine bw (fun _=>?_) fun _=>?_
     exact mU (mq 2 hb rfl)
    ·rw [h0] at hR
     have hR:(dS m (l.drop k2)).bind (fun es r=>R.ok ((d.app (.cons y .nil)).app es) r)=Rr:=by
      rw [<- hR];show _=((dS m (l.drop k2)).bind fun es r=>R.ok (Bl.cons y es) r).bind fun es r=>R.ok (d.app es) r
      cases dS m (l.drop k2) with
      | ok es r=>show R.ok _ _=R.ok _ _;rw [Bl.pA];rfl
      | bad=>rfl
      | out=>rfl
     have hpl:d.places ns.length++[(ns++d.flat ns.length).length+y.sz - 1]=(d.app (.cons y .nil)).places ns.length:=by rw [Bl.nq,hfl];rfl
     have hpr:eP (d.places ns.length)++[[I (((ns++d.flat ns.length).length+y.sz - 1:Nat))]]=eP ((d.app (.cons y .nil)).places ns.length):=by rw [<- hpl];simp [eP]
     have hpn:(eP (d.places ns.length)).length+1=(eP ((d.app (.cons y .nil)).places ns.length)).length:=by rw [<- hpr];simp
     have hff:ns++d.flat ns.length++y.flat (ns++d.flat ns.length).length=ns++(d.app (.cons y .nil)).flat ns.length:=by rw [Bl.rS,hfl];simp [Bl.flat]
     have hsz:(d.app (.cons y .nil)).sz=d.sz+y.sz:=by rw [Bl.Ab];rfl
     rw [hff] at h1;clear ih hout hs h0 hff hpl
     repeat' first|refine aw ?_|refine bw (fun _=>?_) fun _=>?_
     refine ag 3 [0,1] hv ?_
     repeat' first|refine aw ?_|refine bw (fun _=>?_) fun _=>?_
     refine ag 3 [0,1] h1 ?_
     repeat' first|refine aw ?_|refine bw (fun _=>?_) fun _=>?_
     exact cv (d.app (.cons y .nil),k2,m) ⟨hR,by omega,hk3,by omega⟩ (by simp only;omega) (by exact Uw.wW)
 ·rw [want,if_neg h0]
  have w0:=aZ l k (ns.map bW) hk hl [123] (by simp) h0;clear ih h0;refine aL ka rfl ?_
  repeat' first|refine aw ?_|refine bw (fun _=>?_) fun _=>?_
  refine bh 2 [0,1] w0 ?_;intro H q
  repeat' first|refine aw ?_|refine bw (fun _=>?_) fun _=>?_
  exact aM rfl
end Uw.Tryz
namespace Uw.Tryz
open Go Uw
def pIf (n:Nat) (r:List Tok):R Stm:=(dL n r.tail).bind fun e r=>(dr n r).bind fun a r=>
 if hd r=wU then (dr n r.tail).bind fun b r=>.ok (.if2 e a b) r else .ok (.if1 e a) r
theorem Na (l:List Tok) (hl:l.length<1000000) (n:Nat) (ih:∀m,m<=n->CS l m) (k:Nat) (ns:List Nod) (hk:k<=l.length) (hn:ns.length<=k) (h0:hd (l.drop k)=sIf):cY kf [.ptr 0 0] (rdN l k ns) (oN l ns (pIf n (l.drop k))):=by
 have hlt:=en h0 (by decide);have w0:=aN l k (ns.map bW) hk hl sIf (by decide) h0;clear h0;rw [pIf,List.tail_drop]
 rcases wE ((ce l hl n n (Nat.le_refl _)).expr (k+1) ns hlt (by omega)) hlt (fun e r h=>(eM n).expr _ _ _ h) with h2|⟨h2,h3⟩|⟨e,k1,h2,hk1,np,h3⟩
 ·rw [h2];exact trivial
 ·rw [h2]
  refine aL dB rfl ?_
  repeat' first|refine aw ?_|refine bw (fun _=>?_) fun _=>?_
  refine ag 2 [0,1] w0 ?_
  repeat' first|refine aw ?_|refine bw (fun _=>?_) fun _=>?_
  refine bh 2 [0,1] h3 ?_;intro H q
  repeat' first|refine aw ?_|refine bw (fun _=>?_) fun _=>?_
  exact aM rfl
 ·rw [h2]
  have hf1:(ns++e.flat ns.length).length=ns.length+e.sz:=by simp [Ex.aB]
  show cY _ _ _ (oN l ns ((dr n (l.drop k1)).bind _))
  rcases Qf ((ih n (Nat.le_refl _)).block k1 (ns++e.flat ns.length) hk1 (by omega)) hk1 (fun e r h=>(s4 n).block _ _ _ h) with h4|⟨h4,h5⟩|⟨a,k2,h4,hk2,Vo,h5⟩
  ·rw [h4];exact trivial
  ·rw [h4]
   refine aL dB rfl ?_
   repeat' first|refine aw ?_|refine bw (fun _=>?_) fun _=>?_
   refine ag 2 [0,1] w0 ?_
   repeat' first|refine aw ?_|refine bw (fun _=>?_) fun _=>?_
   refine ag 2 [0,1] h3 ?_
   repeat' first|refine aw ?_|refine bw (fun _=>?_) fun _=>?_
   refine bh 2 [0,1] h5 ?_;intro H q
   repeat' first|refine aw ?_|refine bw (fun _=>?_) fun _=>?_
   exact aM rfl
  ·rw [h4]
   have hf2:(ns++e.flat ns.length++a.all (ns++e.flat ns.length).length).length=ns.length+e.sz+(a.sz+1):=by simp [Ex.aB,Bl.mc];omega
   have hv:=bK l k2 ((ns++e.flat ns.length++a.all (ns++e.flat ns.length).length).map bW) hk2 hl wU (by decide);show cY _ _ _ (oN l ns (if hd (l.drop k2)=wU then _ else _));by_cases h6:hd (l.drop k2)=wU
   ·have hlt2:=en h6 (by decide)
    rw [if_pos h6,decide_eq_true h6] at hv;rw [if_pos h6,List.tail_drop];clear h6
    rcases Qf ((ih n (Nat.le_refl _)).block (k2+1) (ns++e.flat ns.length++a.all (ns++e.flat ns.length).length) hlt2 (by omega)) hlt2 (fun e r h=>(s4 n).block _ _ _ h) with h7|⟨h7,h8⟩|⟨b,k3,h7,hk3,Gy,h8⟩
    ·rw [h7];exact trivial
    ·rw [h7]
     refine aL dB rfl ?_
     repeat' first|refine aw ?_|refine bw (fun _=>?_) fun _=>?_
     refine ag 2 [0,1] w0 ?_
     repeat' first|refine aw ?_|refine bw (fun _=>?_) fun _=>?_
     refine ag 2 [0,1] h3 ?_
     repeat' first|refine aw ?_|refine bw (fun _=>?_) fun _=>?_
     refine ag 2 [0,1] h5 ?_
     repeat' first|refine aw ?_|refine bw (fun _=>?_) fun _=>?_
     refine ag 3 [0,1] hv ?_
     repeat' first|refine aw ?_|refine bw (fun _=>?_) fun _=>?_
     refine bh 3 [0,1] h8 ?_;intro H q
     repeat' first|refine aw ?_|refine bw (fun _=>?_) fun _=>?_
     exact aM rfl
    ·rw [h7]
     show bk _ _ _ _ (.d (I ((ns.length+(Stm.if2 e a b).sz - 1:Nat)))) (rdN l (l.length - (l.drop k3).length) (ns++(Stm.if2 e a b).flat ns.length));rw [len_drop hk3];have hp:=Eh l k3 (ns++e.flat ns.length++a.all (ns++e.flat ns.length).length++b.all (ns++e.flat ns.length++a.all (ns++e.flat ns.length).length).length) (ns++(Stm.if2 e a b).flat ns.length) ⟨13,0,[],[],[ns.length+e.sz - 1,(ns++e.flat ns.length).length+a.sz,(ns++e.flat ns.length++a.all (ns++e.flat ns.length).length).length+b.sz]⟩ (by
      rw [hf2,hf1];simp [Stm.flat,Bl.all];try omega) (ns.length+(Stm.if2 e a b).sz - 1) (by simp [Stm.sz,Ex.aB,Bl.mc];try omega) (by simp [Ex.aB,Bl.mc];omega) rfl
     refine aG dB rfl ?_
     repeat' first|refine aw ?_|refine bw (fun _=>?_) fun _=>?_
     refine ag 2 [0,1] w0 ?_
     repeat' first|refine aw ?_|refine bw (fun _=>?_) fun _=>?_
     refine ag 2 [0,1] h3 ?_
     repeat' first|refine aw ?_|refine bw (fun _=>?_) fun _=>?_
     refine ag 2 [0,1] h5 ?_
     repeat' first|refine aw ?_|refine bw (fun _=>?_) fun _=>?_
     refine ag 3 [0,1] hv ?_
     repeat' first|refine aw ?_|refine bw (fun _=>?_) fun _=>?_
     refine ag 3 [0,1] h8 ?_
     repeat' first|refine aw ?_|refine bw (fun _=>?_) fun _=>?_
     refine ag 3 [0,1,2] hp ?_
     repeat' first|refine aw ?_|refine bw (fun _=>?_) fun _=>?_
     exact aF 2 rfl rfl (by exact Uw.wW)
   ·rw [if_neg h6,decide_eq_false h6] at hv
    rw [if_neg h6];clear h6;show bk _ _ _ _ (.d (I ((ns.length+(Stm.if1 e a).sz - 1:Nat)))) (rdN l (l.length - (l.drop k2).length) (ns++(Stm.if1 e a).flat ns.length));rw [len_drop hk2];have hp:=Eh l k2 (ns++e.flat ns.length++a.all (ns++e.flat ns.length).length) (ns++(Stm.if1 e a).flat ns.length) ⟨13,0,[],[],[ns.length+e.sz - 1,(ns++e.flat ns.length).length+a.sz]⟩ (by
     rw [hf1];simp [Stm.flat,Bl.all];try omega) (ns.length+(Stm.if1 e a).sz - 1) (by simp [Stm.sz,Ex.aB,Bl.mc];try omega) (by simp [Ex.aB,Bl.mc];omega) rfl
    refine aG dB rfl ?_
    repeat' first|refine aw ?_|refine bw (fun _=>?_) fun _=>?_
    refine ag 2 [0,1] w0 ?_
    repeat' first|refine aw ?_|refine bw (fun _=>?_) fun _=>?_
    refine ag 2 [0,1] h3 ?_
    repeat' first|refine aw ?_|refine bw (fun _=>?_) fun _=>?_
    refine ag 2 [0,1] h5 ?_
    repeat' first|refine aw ?_|refine bw (fun _=>?_) fun _=>?_
    refine ag 3 [0,1] hv ?_
    repeat' first|refine aw ?_|refine bw (fun _=>?_) fun _=>?_
    refine ag 3 [0,1,2] hp ?_
    repeat' first|refine aw ?_|refine bw (fun _=>?_) fun _=>?_
    exact aF 2 rfl rfl (by exact Uw.wW)
theorem Tq (l:List Tok) (hl:l.length<1000000) (n:Nat) (ih:∀m,m<=n->CS l m) (k:Nat) (ns:List Nod) (hk:k<=l.length) (hn:ns.length<=k):cY fc [.ptr 0 0] (rdN l k ns) (oN l ns (jy (n+1) (l.drop k))):=by
 have pk:=bO l k (ns.map bW) hk;rw [jy];by_cases h0:hd (l.drop k)=sIf
 ·have hlt:=en h0 (by decide)
  rw [if_pos h0];have hc:=Na l hl n ih k ns hk hn h0;have e:jy (n+1) (l.drop k)=pIf n (l.drop k):=by rw [jy,if_pos h0];rfl
  show cY _ _ _ (oN l ns (pIf n (l.drop k)));rw [h0] at pk;clear h0
  rcases J7 hc hk (fun s r h=>(s4 (n+1)).stmt _ _ _ (e.trans h)) with h2|⟨h2,h3⟩|⟨s,k1,h2,hk1,np,h3⟩
  ·rw [h2];exact trivial
  ·rw [h2]
   refine aL bI rfl ?_
   repeat' first|refine aw ?_|refine bw (fun _=>?_) fun _=>?_
   refine ag 2 [0,1] pk ?_
   repeat' first|refine aw ?_|refine bw (fun _=>?_) fun _=>?_
   refine bh 2 [0,1] h3 ?_;intro H q
   repeat' first|refine aw ?_|refine bw (fun _=>?_) fun _=>?_
   exact aM rfl
  ·rw [h2]
   show bk _ _ _ _ (.d (I ((ns.length+s.sz - 1:Nat)))) (rdN l (l.length - (l.drop k1).length) _);rw [len_drop hk1];refine aG bI rfl ?_
   repeat' first|refine aw ?_|refine bw (fun _=>?_) fun _=>?_
   refine ag 2 [0,1] pk ?_
   repeat' first|refine aw ?_|refine bw (fun _=>?_) fun _=>?_
   refine ag 2 [0,1] h3 ?_
   repeat' first|refine aw ?_|refine bw (fun _=>?_) fun _=>?_
   exact aF 2 rfl rfl (by exact Uw.wW)
 ·rw [if_neg h0]
  by_cases h1:hd (l.drop k)=tR
  ·have hlt:=en h1 (by decide)
   have w0:=aN l k (ns.map bW) hk hl tR (by decide) h1;rw [if_pos h1,List.tail_drop];rw [h1] at pk;clear h0 h1
   rcases wE ((ce l hl n n (Nat.le_refl _)).expr (k+1) ns hlt (by omega)) hlt (fun e r h=>(eM n).expr _ _ _ h) with h2|⟨h2,h3⟩|⟨e,k1,h2,hk1,np,h3⟩
   ·rw [h2];exact trivial
   ·rw [h2]
    refine aL bI rfl ?_
    repeat' first|refine aw ?_|refine bw (fun _=>?_) fun _=>?_
    refine ag 2 [0,1] pk ?_
    repeat' first|refine aw ?_|refine bw (fun _=>?_) fun _=>?_
    refine ag 2 [0,1] w0 ?_
    repeat' first|refine aw ?_|refine bw (fun _=>?_) fun _=>?_
    refine bh 2 [0,1] h3 ?_;intro H q
    repeat' first|refine aw ?_|refine bw (fun _=>?_) fun _=>?_
    exact aM rfl
   ·rw [h2]
    have hf1:(ns++e.flat ns.length).length=ns.length+e.sz:=by simp [Ex.aB]
    show cY _ _ _ (oN l ns ((dr n (l.drop k1)).bind _))
    rcases Qf ((ih n (Nat.le_refl _)).block k1 (ns++e.flat ns.length) hk1 (by omega)) hk1 (fun e r h=>(s4 n).block _ _ _ h) with h4|⟨h4,h5⟩|⟨a,k2,h4,hk2,Vo,h5⟩
    ·rw [h4];exact trivial
    ·rw [h4]
     refine aL bI rfl ?_
     repeat' first|refine aw ?_|refine bw (fun _=>?_) fun _=>?_
     refine ag 2 [0,1] pk ?_
     repeat' first|refine aw ?_|refine bw (fun _=>?_) fun _=>?_
     refine ag 2 [0,1] w0 ?_
     repeat' first|refine aw ?_|refine bw (fun _=>?_) fun _=>?_
     refine ag 2 [0,1] h3 ?_
     repeat' first|refine aw ?_|refine bw (fun _=>?_) fun _=>?_
     refine bh 2 [0,1] h5 ?_;intro H q
     repeat' first|refine aw ?_|refine bw (fun _=>?_) fun _=>?_
     exact aM rfl
    ·rw [h4]
     show bk _ _ _ _ (.d (I ((ns.length+(Stm.loop e a).sz - 1:Nat)))) (rdN l (l.length - (l.drop k2).length) (ns++(Stm.loop e a).flat ns.length));rw [len_drop hk2];have hp:=qm l k2 (ns++e.flat ns.length++a.all (ns++e.flat ns.length).length) (ns++(Stm.loop e a).flat ns.length) ⟨14,0,[],[],[ns.length+e.sz - 1,(ns++e.flat ns.length).length+a.sz]⟩ (by
      rw [hf1];simp [Stm.flat,Bl.all];try omega) (ns.length+(Stm.loop e a).sz - 1) (by simp [Stm.sz,Ex.aB,Bl.mc];try omega) (by simp [Ex.aB,Bl.mc];omega)
     have hp:bk P0 bD [.ptr 0 0,.agg [.d (I 14),.d (I 0),.d (.str []),.d (.str []),.d (.slice 1 [[I ((ns.length+e.sz - 1:Nat))],[I (((ns++e.flat ns.length).length+a.sz:Nat))]] true)]] (rdN l k2 (ns++e.flat ns.length++a.all (ns++e.flat ns.length).length)) (.d (I ((ns.length+(Stm.loop e a).sz - 1:Nat)))) (rdN l k2 (ns++(Stm.loop e a).flat ns.length)):=hp;refine aG bI rfl ?_
     repeat' first|refine aw ?_|refine bw (fun _=>?_) fun _=>?_
     refine ag 2 [0,1] pk ?_
     repeat' first|refine aw ?_|refine bw (fun _=>?_) fun _=>?_
     refine ag 2 [0,1] w0 ?_
     repeat' first|refine aw ?_|refine bw (fun _=>?_) fun _=>?_
     refine ag 2 [0,1] h3 ?_
     repeat' first|refine aw ?_|refine bw (fun _=>?_) fun _=>?_
     refine ag 2 [0,1] h5 ?_
     repeat' first|refine aw ?_|refine bw (fun _=>?_) fun _=>?_
     refine ag 2 [0,1] hp ?_
     repeat' first|refine aw ?_|refine bw (fun _=>?_) fun _=>?_
     exact aF 2 rfl rfl (by exact Uw.wW)
  ·rw [if_neg h1]
   generalize hd (l.drop k)=p at *;unfold sIf at h0;unfold tR at h1
   rcases J7 (M9 l hl n k ns hk hn) hk (fun s r h=>yU h) with h2|⟨h2,h3⟩|⟨s,k1,h2,hk1,np,h3⟩
   ·rw [h2];exact trivial
   ·rw [h2]
    refine aL bI rfl ?_
    repeat' first|refine aw ?_|refine bw (fun _=>?_) fun _=>?_
    refine ag 2 [0,1] pk ?_
    repeat' first|refine aw ?_|refine bw (fun _=>?_) fun _=>?_
    refine bh 2 [0,1] h3 ?_;intro H q
    repeat' first|refine aw ?_|refine bw (fun _=>?_) fun _=>?_
    exact aM rfl
   ·rw [h2]
    show cY _ _ _ (oN l ns ((want [59] (l.drop k1)).bind _));by_cases h4:hd (l.drop k1)=[59]
    ·have hlt1:=en h4 (by simp)
     have w1:=aN l k1 ((ns++s.flat ns.length).map bW) hk1 hl [59] (by simp) h4;rw [want,if_pos h4,List.tail_drop];show bk _ _ _ _ (.d (I ((ns.length+s.sz - 1:Nat)))) (rdN l (l.length - (l.drop (k1+1)).length) _);rw [len_drop hlt1];clear h4;refine aG bI rfl ?_
     repeat' first|refine aw ?_|refine bw (fun _=>?_) fun _=>?_
     refine ag 2 [0,1] pk ?_
     repeat' first|refine aw ?_|refine bw (fun _=>?_) fun _=>?_
     refine ag 2 [0,1] h3 ?_
     repeat' first|refine aw ?_|refine bw (fun _=>?_) fun _=>?_
     refine ag 2 [0,1] w1 ?_
     repeat' first|refine aw ?_|refine bw (fun _=>?_) fun _=>?_
     exact aF 2 rfl rfl (by exact Uw.wW)
    ·have w1:=aZ l k1 ((ns++s.flat ns.length).map bW) hk1 hl [59] (by simp) h4
     rw [want,if_neg h4];clear h4;refine aL bI rfl ?_
     repeat' first|refine aw ?_|refine bw (fun _=>?_) fun _=>?_
     refine ag 2 [0,1] pk ?_
     repeat' first|refine aw ?_|refine bw (fun _=>?_) fun _=>?_
     refine ag 2 [0,1] h3 ?_
     repeat' first|refine aw ?_|refine bw (fun _=>?_) fun _=>?_
     refine bh 2 [0,1] w1 ?_;intro H q
     repeat' first|refine aw ?_|refine bw (fun _=>?_) fun _=>?_
     exact aM rfl
theorem cs (l:List Tok) (hl:l.length<1000000):∀n,∀m,m<=n->CS l m
 | 0,m,hm=>by
  obtain rfl:m=0:=by omega
  refine ⟨?_,?_⟩
  ·intro k ns _ _;rw [jy];exact trivial
  ·intro k ns _ _;rw [dr];exact trivial
 | n+1,m,hm=>by
  have ih:=cs l hl n;by_cases h:m<=n
  ·exact ih m h
  ·obtain rfl:m=n+1:=by omega
   exact ⟨fun k ns=>Tq l hl n ih k ns,fun k ns=>Qg l hl n ih k ns⟩
end Uw.Tryz
namespace Uw.Tryz
open Go Uw
def Gz (d:Dec):V:=.agg [.d (I d.kind),.d (.str d.name),.d (I d.n)]
def sQ (l:List Tok) (ns:List Nod) (x:R Dec):Out:=
 match x with
 | .ok d r=>.ok (Gz d) (rdN l (l.length - r.length) ns)
 | .bad=>.bad
 | .out=>.out
theorem Ac (l:List Tok) (k:Nat) (xs:List (List Dat)) (hk:k<=l.length) (hl:l.length<1000000) (K:Int) :
  (iV K (l.drop k) = .bad/\kP P0 ej [.ptr 0 0,.d (I K)] (rd l k xs) cT)\/∃t,iV K (l.drop k) = .ok t (l.drop (k+1))/\k<l.length/\bk P0 ej [.ptr 0 0,.d (I K)] (rd l k xs) (.agg ((rc t).map V.d)) (rd l (k+1) xs):=by
 by_cases h:k<l.length
 ·have hd:l.drop k=l[k]::l.drop (k+1):=List.drop_eq_getElem_cons h
  by_cases h1:l[k].kind=K
  ·exact .inr ⟨l[k],by rw [hd,iV,if_pos h1],h,fk l k xs hk hl K h h1⟩
  ·exact .inl ⟨by rw [hd,iV,if_neg h1],iQ l k xs hk hl K (fun _=>h1)⟩
 ·exact .inl ⟨by rw [List.drop_eq_nil_of_le (by omega),iV],iQ l k xs hk hl K (fun h'=>absurd h' h)⟩
def kz (k:Int) (s:Str) (r:List Tok):R Dec:=(if k=0/\hd r=[61] then (iV 2 r.tail).bind fun t r=>R.ok t.n r else .ok 0 r).bind fun v r=>(want [59] r).bind fun _ r=>.ok ⟨k,s,v⟩ r
theorem Tt (l:List Tok) (hl:l.length<1000000) (k:Nat) (ns:List Nod) (hk:k<=l.length):cY lL [.ptr 0 0] (rdN l k ns) (sQ l ns (ri (l.drop k))):=by
 rw [ri]
 rcases Ac l k (ns.map bW) hk hl 1 with ⟨h1,h2⟩|⟨t,h1,hlt,h2⟩
 ·rw [h1]
  refine aL aO rfl ?_
  repeat' first|refine aw ?_|refine bw (fun _=>?_) fun _=>?_
  refine bh 4 [0,1] h2 ?_;intro H q
  repeat' first|refine aw ?_|refine bw (fun _=>?_) fun _=>?_
  exact aM rfl
 ·rw [h1]
  obtain ⟨kind,text,num,place⟩:=t;show cY _ _ _ (sQ l ns (match kindOf text with|none=>R.bad|some K=>(eQ (l.drop (k+1))).bind fun s r=>kz K s r));rw [kindOf];by_cases c0:text=E5
  ·subst c0
   show cY _ _ _ (sQ l ns ((eQ (l.drop (k+1))).bind fun s r=>kz 0 s r))
   rcases eh l (k+1) (ns.map bW) hlt hl with ⟨h3,h4⟩|⟨s,h3,hlt2,h4⟩
   ·rw [h3]
    refine aL aO rfl ?_
    repeat' first|refine aw ?_|refine bw (fun _=>?_) fun _=>?_
    refine ag 4 [0,1] h2 ?_
    repeat' first|refine aw ?_|refine bw (fun _=>?_) fun _=>?_
    refine bh 4 [0,1] h4 ?_;intro H q
    repeat' first|refine aw ?_|refine bw (fun _=>?_) fun _=>?_
    exact aM rfl
   ·rw [h3]
    show cY _ _ _ (sQ l ns (kz 0 s (l.drop (k+1+1))));rw [kz];have hv:=bK l (k+1+1) (ns.map bW) hlt2 hl [61] (by simp);by_cases h5:hd (l.drop (k+1+1))=[61]
    ·have hlt3:=en h5 (by simp)
     rw [if_pos h5,decide_eq_true h5] at hv;rw [if_pos ⟨rfl,h5⟩,List.tail_drop];clear h5
     rcases Ac l (k+1+1+1) (ns.map bW) hlt3 hl 2 with ⟨h6,h7⟩|⟨t,h6,hlt4,h7⟩
     ·rw [h6]
      refine aL aO rfl ?_
      repeat' first|refine aw ?_|refine bw (fun _=>?_) fun _=>?_
      refine ag 4 [0,1] h2 ?_
      repeat' first|refine aw ?_|refine bw (fun _=>?_) fun _=>?_
      refine ag 4 [0,1] h4 ?_
      repeat' first|refine aw ?_|refine bw (fun _=>?_) fun _=>?_
      refine ag 4 [0,1] hv ?_
      repeat' first|refine aw ?_|refine bw (fun _=>?_) fun _=>?_
      refine bh 4 [0,1] h7 ?_;intro H q
      repeat' first|refine aw ?_|refine bw (fun _=>?_) fun _=>?_
      exact aM rfl
     ·rw [h6]
      obtain ⟨k2,x2,n2,p2⟩:=t;show cY _ _ _ (sQ l ns ((want [59] (l.drop (k+1+1+1+1))).bind fun _ r=>R.ok ⟨0,s,n2⟩ r));by_cases hs:hd (l.drop (k+1+1+1+1))=[59]
      ·have Qh:=en hs (by simp)
       have w9:=aN l (k+1+1+1+1) (ns.map bW) (by omega) hl [59] (by simp) hs;rw [want,if_pos hs,List.tail_drop];show bk _ _ _ _ (Gz ⟨0,s,n2⟩) (rdN l (l.length - (l.drop (k+1+1+1+1+1)).length) ns);rw [len_drop (by omega)];clear hs;refine aG aO rfl ?_
       repeat' first|refine aw ?_|refine bw (fun _=>?_) fun _=>?_
       refine ag 4 [0,1] h2 ?_
       repeat' first|refine aw ?_|refine bw (fun _=>?_) fun _=>?_
       refine ag 4 [0,1] h4 ?_
       repeat' first|refine aw ?_|refine bw (fun _=>?_) fun _=>?_
       refine ag 4 [0,1] hv ?_
       repeat' first|refine aw ?_|refine bw (fun _=>?_) fun _=>?_
       refine ag 4 [0,1] h7 ?_
       repeat' first|refine aw ?_|refine bw (fun _=>?_) fun _=>?_
       refine ag 4 [0,1] w9 ?_
       repeat' first|refine aw ?_|refine bw (fun _=>?_) fun _=>?_
       exact aF 2 rfl rfl (by exact Uw.wW)
      ·have w9:=aZ l (k+1+1+1+1) (ns.map bW) (by omega) hl [59] (by simp) hs
       rw [want,if_neg hs];clear hs;refine aL aO rfl ?_
       repeat' first|refine aw ?_|refine bw (fun _=>?_) fun _=>?_
       refine ag 4 [0,1] h2 ?_
       repeat' first|refine aw ?_|refine bw (fun _=>?_) fun _=>?_
       refine ag 4 [0,1] h4 ?_
       repeat' first|refine aw ?_|refine bw (fun _=>?_) fun _=>?_
       refine ag 4 [0,1] hv ?_
       repeat' first|refine aw ?_|refine bw (fun _=>?_) fun _=>?_
       refine ag 4 [0,1] h7 ?_
       repeat' first|refine aw ?_|refine bw (fun _=>?_) fun _=>?_
       refine bh 4 [0,1] w9 ?_;intro H q
       repeat' first|refine aw ?_|refine bw (fun _=>?_) fun _=>?_
       exact aM rfl
    ·rw [if_neg h5,decide_eq_false h5] at hv
     rw [if_neg (fun h=>h5 h.2)];clear h5;show cY _ _ _ (sQ l ns ((want [59] (l.drop (k+1+1))).bind fun _ r=>R.ok ⟨0,s,0⟩ r));by_cases hs:hd (l.drop (k+1+1))=[59]
     ·have Qh:=en hs (by simp)
      have w9:=aN l (k+1+1) (ns.map bW) (by omega) hl [59] (by simp) hs;rw [want,if_pos hs,List.tail_drop];show bk _ _ _ _ (Gz ⟨0,s,0⟩) (rdN l (l.length - (l.drop (k+1+1+1)).length) ns);rw [len_drop (by omega)];clear hs;refine aG aO rfl ?_
      repeat' first|refine aw ?_|refine bw (fun _=>?_) fun _=>?_
      refine ag 4 [0,1] h2 ?_
      repeat' first|refine aw ?_|refine bw (fun _=>?_) fun _=>?_
      refine ag 4 [0,1] h4 ?_
      repeat' first|refine aw ?_|refine bw (fun _=>?_) fun _=>?_
      refine ag 4 [0,1] hv ?_
      repeat' first|refine aw ?_|refine bw (fun _=>?_) fun _=>?_
      refine ag 4 [0,1] w9 ?_
      repeat' first|refine aw ?_|refine bw (fun _=>?_) fun _=>?_
      exact aF 2 rfl rfl (by exact Uw.wW)
     ·have w9:=aZ l (k+1+1) (ns.map bW) (by omega) hl [59] (by simp) hs
      rw [want,if_neg hs];clear hs;refine aL aO rfl ?_
      repeat' first|refine aw ?_|refine bw (fun _=>?_) fun _=>?_
      refine ag 4 [0,1] h2 ?_
      repeat' first|refine aw ?_|refine bw (fun _=>?_) fun _=>?_
      refine ag 4 [0,1] h4 ?_
      repeat' first|refine aw ?_|refine bw (fun _=>?_) fun _=>?_
      refine ag 4 [0,1] hv ?_
      repeat' first|refine aw ?_|refine bw (fun _=>?_) fun _=>?_
      refine bh 4 [0,1] w9 ?_;intro H q
      repeat' first|refine aw ?_|refine bw (fun _=>?_) fun _=>?_
      exact aM rfl
  ·by_cases c1:text=LU
   ·subst c1
    show cY _ _ _ (sQ l ns ((eQ (l.drop (k+1))).bind fun s r=>kz 1 s r));clear c0
    rcases eh l (k+1) (ns.map bW) hlt hl with ⟨h3,h4⟩|⟨s,h3,hlt2,h4⟩
    ·rw [h3]
     refine aL aO rfl ?_
     repeat' first|refine aw ?_|refine bw (fun _=>?_) fun _=>?_
     refine ag 4 [0,1] h2 ?_
     repeat' first|refine aw ?_|refine bw (fun _=>?_) fun _=>?_
     refine bh 4 [0,1] h4 ?_;intro H q
     repeat' first|refine aw ?_|refine bw (fun _=>?_) fun _=>?_
     exact aM rfl
    ·rw [h3]
     show cY _ _ _ (sQ l ns (kz 1 s (l.drop (k+1+1))));rw [kz];rw [if_neg (fun h=>by have:=h.1;omega)];show cY _ _ _ (sQ l ns ((want [59] (l.drop (k+1+1))).bind fun _ r=>R.ok ⟨1,s,0⟩ r));by_cases hs:hd (l.drop (k+1+1))=[59]
     ·have Qh:=en hs (by simp)
      have w9:=aN l (k+1+1) (ns.map bW) (by omega) hl [59] (by simp) hs;rw [want,if_pos hs,List.tail_drop];show bk _ _ _ _ (Gz ⟨1,s,0⟩) (rdN l (l.length - (l.drop (k+1+1+1)).length) ns);rw [len_drop (by omega)];clear hs;refine aG aO rfl ?_
      repeat' first|refine aw ?_|refine bw (fun _=>?_) fun _=>?_
      refine ag 4 [0,1] h2 ?_
      repeat' first|refine aw ?_|refine bw (fun _=>?_) fun _=>?_
      refine ag 4 [0,1] h4 ?_
      repeat' first|refine aw ?_|refine bw (fun _=>?_) fun _=>?_
      refine ag 4 [0,1] w9 ?_
      repeat' first|refine aw ?_|refine bw (fun _=>?_) fun _=>?_
      exact aF 2 rfl rfl (by exact Uw.wW)
     ·have w9:=aZ l (k+1+1) (ns.map bW) (by omega) hl [59] (by simp) hs
      rw [want,if_neg hs];clear hs;refine aL aO rfl ?_
      repeat' first|refine aw ?_|refine bw (fun _=>?_) fun _=>?_
      refine ag 4 [0,1] h2 ?_
      repeat' first|refine aw ?_|refine bw (fun _=>?_) fun _=>?_
      refine ag 4 [0,1] h4 ?_
      repeat' first|refine aw ?_|refine bw (fun _=>?_) fun _=>?_
      refine bh 4 [0,1] w9 ?_;intro H q
      repeat' first|refine aw ?_|refine bw (fun _=>?_) fun _=>?_
      exact aM rfl
   ·by_cases c2:text=yT
    ·subst c2
     show cY _ _ _ (sQ l ns ((eQ (l.drop (k+1))).bind fun s r=>kz 2 s r));clear c0 c1
     rcases eh l (k+1) (ns.map bW) hlt hl with ⟨h3,h4⟩|⟨s,h3,hlt2,h4⟩
     ·rw [h3]
      refine aL aO rfl ?_
      repeat' first|refine aw ?_|refine bw (fun _=>?_) fun _=>?_
      refine ag 4 [0,1] h2 ?_
      repeat' first|refine aw ?_|refine bw (fun _=>?_) fun _=>?_
      refine bh 4 [0,1] h4 ?_;intro H q
      repeat' first|refine aw ?_|refine bw (fun _=>?_) fun _=>?_
      exact aM rfl
     ·rw [h3]
      show cY _ _ _ (sQ l ns (kz 2 s (l.drop (k+1+1))));rw [kz];rw [if_neg (fun h=>by have:=h.1;omega)];show cY _ _ _ (sQ l ns ((want [59] (l.drop (k+1+1))).bind fun _ r=>R.ok ⟨2,s,0⟩ r));by_cases hs:hd (l.drop (k+1+1))=[59]
      ·have Qh:=en hs (by simp)
       have w9:=aN l (k+1+1) (ns.map bW) (by omega) hl [59] (by simp) hs;rw [want,if_pos hs,List.tail_drop];show bk _ _ _ _ (Gz ⟨2,s,0⟩) (rdN l (l.length - (l.drop (k+1+1+1)).length) ns);rw [len_drop (by omega)];clear hs;refine aG aO rfl ?_
       repeat' first|refine aw ?_|refine bw (fun _=>?_) fun _=>?_
       refine ag 4 [0,1] h2 ?_
       repeat' first|refine aw ?_|refine bw (fun _=>?_) fun _=>?_
       refine ag 4 [0,1] h4 ?_
       repeat' first|refine aw ?_|refine bw (fun _=>?_) fun _=>?_
       refine ag 4 [0,1] w9 ?_
       repeat' first|refine aw ?_|refine bw (fun _=>?_) fun _=>?_
       exact aF 2 rfl rfl (by exact Uw.wW)
      ·have w9:=aZ l (k+1+1) (ns.map bW) (by omega) hl [59] (by simp) hs
       rw [want,if_neg hs];clear hs;refine aL aO rfl ?_
       repeat' first|refine aw ?_|refine bw (fun _=>?_) fun _=>?_
       refine ag 4 [0,1] h2 ?_
       repeat' first|refine aw ?_|refine bw (fun _=>?_) fun _=>?_
       refine ag 4 [0,1] h4 ?_
       repeat' first|refine aw ?_|refine bw (fun _=>?_) fun _=>?_
       refine bh 4 [0,1] w9 ?_;intro H q
       repeat' first|refine aw ?_|refine bw (fun _=>?_) fun _=>?_
       exact aM rfl
    ·by_cases c3:text=E6
     ·subst c3
      show cY _ _ _ (sQ l ns ((eQ (l.drop (k+1))).bind fun s r=>kz 3 s r));clear c0 c1 c2
      rcases eh l (k+1) (ns.map bW) hlt hl with ⟨h3,h4⟩|⟨s,h3,hlt2,h4⟩
      ·rw [h3]
       refine aL aO rfl ?_
       repeat' first|refine aw ?_|refine bw (fun _=>?_) fun _=>?_
       refine ag 4 [0,1] h2 ?_
       repeat' first|refine aw ?_|refine bw (fun _=>?_) fun _=>?_
       refine bh 4 [0,1] h4 ?_;intro H q
       repeat' first|refine aw ?_|refine bw (fun _=>?_) fun _=>?_
       exact aM rfl
      ·rw [h3]
       show cY _ _ _ (sQ l ns (kz 3 s (l.drop (k+1+1))));rw [kz];rw [if_neg (fun h=>by have:=h.1;omega)];show cY _ _ _ (sQ l ns ((want [59] (l.drop (k+1+1))).bind fun _ r=>R.ok ⟨3,s,0⟩ r));by_cases hs:hd (l.drop (k+1+1))=[59]
       ·have Qh:=en hs (by simp)
        have w9:=aN l (k+1+1) (ns.map bW) (by omega) hl [59] (by simp) hs;rw [want,if_pos hs,List.tail_drop];show bk _ _ _ _ (Gz ⟨3,s,0⟩) (rdN l (l.length - (l.drop (k+1+1+1)).length) ns);rw [len_drop (by omega)];clear hs;refine aG aO rfl ?_
        repeat' first|refine aw ?_|refine bw (fun _=>?_) fun _=>?_
        refine ag 4 [0,1] h2 ?_
        repeat' first|refine aw ?_|refine bw (fun _=>?_) fun _=>?_
        refine ag 4 [0,1] h4 ?_
        repeat' first|refine aw ?_|refine bw (fun _=>?_) fun _=>?_
        refine ag 4 [0,1] w9 ?_
        repeat' first|refine aw ?_|refine bw (fun _=>?_) fun _=>?_
        exact aF 2 rfl rfl (by exact Uw.wW)
       ·have w9:=aZ l (k+1+1) (ns.map bW) (by omega) hl [59] (by simp) hs
        rw [want,if_neg hs];clear hs;refine aL aO rfl ?_
        repeat' first|refine aw ?_|refine bw (fun _=>?_) fun _=>?_
        refine ag 4 [0,1] h2 ?_
        repeat' first|refine aw ?_|refine bw (fun _=>?_) fun _=>?_
        refine ag 4 [0,1] h4 ?_
        repeat' first|refine aw ?_|refine bw (fun _=>?_) fun _=>?_
        refine bh 4 [0,1] w9 ?_;intro H q
        repeat' first|refine aw ?_|refine bw (fun _=>?_) fun _=>?_
        exact aM rfl
     ·rw [if_neg c0,if_neg c1,if_neg c2,if_neg c3]
      unfold E5 at c0;unfold LU at c1;unfold yT at c2;unfold E6 at c3;refine aL aO rfl ?_
      repeat' first|refine aw ?_|refine bw (fun _=>?_) fun _=>?_
      refine ag 4 [0,1] h2 ?_
      repeat' first|refine aw ?_|refine bw (fun _=>?_) fun _=>?_
      exact aM rfl
end Uw.Tryz
namespace Uw.Tryz
open Go Uw
def lp (ys:List Str):List (List Dat):=ys.map fun s=>[.str s]
theorem Ei (l:List Tok) (k k' : Nat) (ns:List Nod) (f p:Str) (h:bk P0 cg [.ptr 0 0] (rdN l k ns) (.d (.str p)) (rdN l k' ns)) :
  bk P0 bR [.ptr 3 0,.ptr 2 0] (rdN l k ns++[.var [.ptr 0 0],.var [.d (.str f),.d .nil,.d (I 0)]]) (.tuple []) (rdN l k' ns++[.var [.ptr 0 0],.var [.d (.str f),.ref 4 0 0 (lp [p]).length,.d (I 0)],.arr 1 (lp [p])]):=by
 refine aG dA rfl ?_;refine bZ ⟨[],br 0 (rdN l k' ns++[.var [.ptr 0 0],.var [.d (.str f),.ref 4 0 0 (lp [p]).length,.d (I 0)],.arr 1 (lp [p])]),5,[],4⟩ ?_ ?_
 ·repeat' first|refine aw ?_|refine bw (fun _=>?_) fun _=>?_
  refine ag 4 [0,1] h ?_
  repeat' first|refine aw ?_|refine bw (fun _=>?_) fun _=>?_
  exact aY (.inl ⟨rfl,by exact Uw.wW⟩)
 ·repeat' first|refine aw ?_|refine bw (fun _=>?_) fun _=>?_
  exact dp 4 rfl rfl (by exact Uw.wW)
theorem GF (l:List Tok) (k k' : Nat) (ns:List Nod) (f p:Str) (ys:List Str) (hy:ys.length<1000000) (h:bk P0 cg [.ptr 0 0] (rdN l k ns) (.d (.str p)) (rdN l k' ns)) :
  bk P0 bR [.ptr 3 0,.ptr 2 0] (rdN l k ns++[.var [.ptr 0 0],.var [.d (.str f),.ref 4 0 0 (lp ys).length,.d (I 0)],.arr 1 (lp ys)]) (.tuple []) (rdN l k' ns++[.var [.ptr 0 0],.var [.d (.str f),.ref 4 0 0 (lp (ys++[p])).length,.d (I 0)],.arr 1 (lp (ys++[p]))]):=by
 have e:lp (ys++[p])=lp ys++[[.str p]]:=by simp [lp]
 have hy' : (lp ys).length<1000000:=by simpa [lp] using hy
 rw [e];generalize lp ys=zs at *;refine aG dA rfl ?_;refine bZ ⟨[],br 0 (rdN l k' ns++[.var [.ptr 0 0],.var [.d (.str f),.ref 4 0 0 (zs++[[Dat.str p]]).length,.d (I 0)],.arr 1 (zs++[[.str p]])]),5,[],5⟩ ?_ ?_
 ·repeat' first|refine aw ?_|refine bw (fun _=>?_) fun _=>?_
  refine ag 5 [0,1] h ?_
  repeat' first|refine aw ?_|refine bw (fun _=>?_) fun _=>?_
  exact aY (.inl ⟨rfl,by exact Uw.wW⟩)
 ·repeat' first|refine aw ?_|refine bw (fun _=>?_) fun _=>?_
  exact dp 5 rfl rfl (by exact Uw.wW)
theorem Ej (l:List Tok) (k:Nat) (ns:List Nod) (f:Str) (h:kP P0 cg [.ptr 0 0] (rdN l k ns) cT) :
  kP P0 bR [.ptr 3 0,.ptr 2 0] (rdN l k ns++[.var [.ptr 0 0],.var [.d (.str f),.d .nil,.d (I 0)]]) cT:=by
 refine aL dA rfl ?_;refine o5 ?_
 repeat' first|refine aw ?_|refine bw (fun _=>?_) fun _=>?_
 refine bh 4 [0,1] h ?_;intro H n
 repeat' first|refine aw ?_|refine bw (fun _=>?_) fun _=>?_
 exact aY ⟨cT,rfl,aM rfl⟩
theorem GG (l:List Tok) (k:Nat) (ns:List Nod) (f:Str) (ys:List Str) (h:kP P0 cg [.ptr 0 0] (rdN l k ns) cT) :
  kP P0 bR [.ptr 3 0,.ptr 2 0] (rdN l k ns++[.var [.ptr 0 0],.var [.d (.str f),.ref 4 0 0 (lp ys).length,.d (I 0)],.arr 1 (lp ys)]) cT:=by
 generalize lp ys=zs at *;refine aL dA rfl ?_;refine o5 ?_
 repeat' first|refine aw ?_|refine bw (fun _=>?_) fun _=>?_
 refine bh 5 [0,1] h ?_;intro H n
 repeat' first|refine aw ?_|refine bw (fun _=>?_) fun _=>?_
 exact aY ⟨cT,rfl,aM rfl⟩
end Uw.Tryz
namespace Uw.Tryz
open Go Uw
def jZ (ys:List Str):Dat:=if ys=[] then .nil else .slice 1 (lp ys) false
def Nb (l:List Tok) (ns:List Nod) (x:R Fn):Out:=
 match x with
 | .ok f r=>.ok (.agg [.d (.str f.name),.d (jZ f.args),.d (I ((ns.length+f.body.sz:Nat)))]) (rdN l (l.length - r.length) (ns++f.body.all ns.length))
 | .bad=>.bad
 | .out=>.out
theorem Ad:∀(n:Nat) (r:List Tok) (x:List Str) (r' : List Tok),cG n r = .ok x r'->Suf r r' (x.length+1)
 | 0,_,_,_,h=>by rw [cG] at h;cases h
 | n+1,r,x,r',h=>by
  rw [cG] at h
  split at h
  ·rename_i hh
   obtain ⟨s,r2,h2,h⟩:=bind_ok.1 h;obtain ⟨ss,r3,h3,h⟩:=bind_ok.1 h;injection h with h4 h5
   subst h4 h5;exact ((Suf.hd hh (by simp)).trans ((Suf.name h2).trans (Ad n _ _ _ h3))).le (by simp;omega)
  ·obtain ⟨_,r1,h1,h⟩:=bind_ok.1 h
   injection h with h4 h5
   subst h4 h5;exact (Suf.want (by simp) h1).le (by simp)
end Uw.Tryz
namespace Uw.Tryz
open Go Uw
theorem Qi (b:Nat) {res:List jh} {x:Out} {v:V} {bs' : List Blk} {vs' : List V} {st:St} (hx:x = .ok v bs') (hd:st.defers=[]) (hr:resV st res=some vs') (hw:Weak ⟨[(0,o4 vs')],st.heap,st.next,[],b⟩ ⟨[(0,v)],br 0 bs',bs'.length,[],b⟩):WT P0 (OQ b res x) (.done .normal st):=by
 subst hx;exact dp b hd hr hw
def fnB (f:Str) (v:V):List Blk:=[.var [.ptr 0 0],.var [.d (.str f),v,.d (I 0)]]
def GH (l:List Tok) (ns:List Nod) (f:Str) (x:R (List Str)):Out:=
 match x with
 | .ok ar r=>.ok (.tuple []) (rdN l (l.length - r.length) ns++fnB f (.d (jZ ar)))
 | .bad=>.bad
 | .out=>.out
theorem Qj {l:List Tok} {ns:List Nod} {f:Str} {x:R (List Str)} (h:x≠R.out):GH l ns f x≠Out.out:=by
 cases x with
 | out=>exact absurd rfl h
 | bad=>intro h;cases h
 | ok e r=>intro h;cases h
theorem Qk (l:List Tok) (hl:l.length<1000000) (n:Nat) (k:Nat) (ns:List Nod) (f:Str) (hk:k<=l.length) (hn:ns.length<=k):cY m7 [.ptr 0 0,.func bR [] [.ptr 3 0,.ptr 2 0]] (rdN l k ns++fnB f (.d .nil)) (GH l ns f (jO n (l.drop k))):=by
 rw [jO];by_cases h3:hd (l.drop k)=[40]
 rotate_left
 ·have w1:=aZ l k (ns.map bW) hk hl [40] (by simp) h3
  rw [want,if_neg h3];clear h3;refine aL cz rfl ?_
  repeat' first|refine aw ?_|refine bw (fun _=>?_) fun _=>?_
  refine bh 4 [0,1] w1 ?_;intro H q
  repeat' first|refine aw ?_|refine bw (fun _=>?_) fun _=>?_
  exact aM rfl
 have hlt2:=en h3 (by simp);have w1:=aN l k (ns.map bW) hk hl [40] (by simp) h3;have hv:=bK l (k+1) (ns.map bW) hlt2 hl [41] (by simp);rw [want,if_pos h3,List.tail_drop];clear h3;show cY _ _ _ (GH l ns f (if hd (l.drop (k+1))=[41] then R.ok [] (l.drop (k+1)).tail else _));by_cases h4:hd (l.drop (k+1))=[41]
 ·have hlt3:=en h4 (by simp)
  rw [if_pos h4,List.tail_drop];rw [if_pos h4,decide_eq_true h4] at hv;clear h4;show bk _ _ _ _ (.tuple []) (rdN l (l.length - (l.drop (k+1+1)).length) ns++fnB f (.d .nil));rw [len_drop (by omega)];refine aG cz rfl ?_
  repeat' first|refine aw ?_|refine bw (fun _=>?_) fun _=>?_
  refine ag 4 [0,1] w1 ?_
  repeat' first|refine aw ?_|refine bw (fun _=>?_) fun _=>?_
  refine ag 4 [0,1] hv ?_
  repeat' first|refine aw ?_|refine bw (fun _=>?_) fun _=>?_
  exact aF 4 rfl rfl (by exact Uw.wW)
 rw [if_neg h4];rw [if_neg h4,decide_eq_false h4] at hv
 rcases eh l (k+1) (ns.map bW) hlt2 hl with ⟨h5,h6⟩|⟨p,h5,hlt3,h6⟩
 ·rw [h5]
  have a1:=Ej l (k+1) ns f h6;clear h4;refine aL cz rfl ?_
  repeat' first|refine aw ?_|refine bw (fun _=>?_) fun _=>?_
  refine ag 4 [0,1] w1 ?_
  repeat' first|refine aw ?_|refine bw (fun _=>?_) fun _=>?_
  refine ag 4 [0,1] hv ?_
  repeat' first|refine aw ?_|refine bw (fun _=>?_) fun _=>?_
  refine bh 4 [0,1,2,3] a1 ?_;intro H q
  repeat' first|refine aw ?_|refine bw (fun _=>?_) fun _=>?_
  exact aM rfl
 rw [h5];have a1:=Ei l (k+1) _ ns f p h6;show cY _ _ _ (GH l ns f ((cG n (l.drop (k+1+1))).bind fun es r=>R.ok ([p]++es) r));generalize hR:((cG n (l.drop (k+1+1))).bind fun es r=>R.ok ([p]++es) r)=Rr;by_cases hout:Rr = .out
 ·rw [hout];exact trivial
 clear h4 h5;refine sq cz rfl (Qj hout) ?_
 repeat' first|refine aw ?_|refine bw (fun _=>?_) fun _=>?_
 refine ag 4 [0,1] w1 ?_
 repeat' first|refine aw ?_|refine bw (fun _=>?_) fun _=>?_
 refine ag 4 [0,1] hv ?_
 repeat' first|refine aw ?_|refine bw (fun _=>?_) fun _=>?_
 refine ag 4 [0,1,2,3] a1 ?_
 repeat' first|refine aw ?_|refine bw (fun _=>?_) fun _=>?_
 refine dG (fun ((d,k1,m):List Str×Nat×Nat)=>⟨[(0,.ptr 0 0),(1,V.func bR [] [V.ptr 3 0,V.ptr 2 0])],br 0 (rdN l k1 ns++[.var [.ptr 0 0],.var [.d (.str f),.ref 4 0 0 (lp d).length,.d (I 0)],.arr 1 (lp d)]),5,[],4⟩)
  (fun (d,k1,m)=>((cG m (l.drop k1)).bind fun es r=>R.ok (d++es) r)=Rr/\m<=n/\k1<=l.length/\k<=k1/\d.length<=k1/\d≠[]) (fun (_,_,m)=>m) ([p],k+1+1,n) (by exact Uw.wW) ⟨hR,Nat.le_refl _,hlt3,by omega,by simp,by simp⟩ ?_
 clear hR h6 a1 w1 hv;rintro ⟨d,k1,m⟩ ⟨hR,hm,hk1,hk2,hd1,hd0⟩
 cases m with
 | zero=>rw [cG] at hR;exact absurd hR.symm hout
 | succ m=>
  rw [cG] at hR;have hv:=bK l k1 (ns.map bW) hk1 hl [44] (by simp);by_cases hs:hd (l.drop k1)=[44]
  ·have hlt:=en hs (by simp)
   rw [if_pos hs,List.tail_drop] at hR;rw [if_pos hs,decide_eq_true hs] at hv
   rcases eh l (k1+1) (ns.map bW) (by omega) hl with ⟨h0,h1⟩|⟨y,h0,hlt4,h1⟩
   ·rw [h0] at hR
    have hb:GH l ns f Rr = .bad:=by rw [<- hR];rfl
    have a1:=GG l (k1+1) ns f d h1;clear hR hout hs h0 h1 hd0
    repeat' first|refine aw ?_|refine bw (fun _=>?_) fun _=>?_
    refine ag 5 [0,1] hv ?_
    repeat' first|refine aw ?_|refine bw (fun _=>?_) fun _=>?_
    refine bh 5 [0,1,2,3,4] a1 ?_;intro h q
    repeat' first|refine aw ?_|refine bw (fun _=>?_) fun _=>?_
    exact mU (mq 4 hb rfl)
   ·rw [h0] at hR
    have hR:((cG m (l.drop (k1+1+1))).bind fun es r=>R.ok ((d++[y])++es) r)=Rr:=by
     rw [<- hR];show _=R.bind (R.bind (cG m (l.drop (k1+1+1))) _) _
     cases cG m (l.drop (k1+1+1)) with
     | ok es r=>show R.ok (d++[y]++es) r=R.ok (d++(y::es)) r;rw [List.append_assoc];rfl
     | bad=>rfl
     | out=>rfl
    have a1:=GF l (k1+1) _ ns f y d (by omega) h1;have hd2:(d++[y])≠[]:=by simp
    clear hout hs h0 h1 hd0
    repeat' first|refine aw ?_|refine bw (fun _=>?_) fun _=>?_
    refine ag 5 [0,1] hv ?_
    repeat' first|refine aw ?_|refine bw (fun _=>?_) fun _=>?_
    refine ag 5 [0,1,2,3,4] a1 ?_
    repeat' first|refine aw ?_|refine bw (fun _=>?_) fun _=>?_
    exact cv (d++[y],k1+1+1,m) ⟨hR,by omega,hlt4,by omega,by simp;omega,hd2⟩ (by simp only;omega) (by exact Uw.wW)
  ·rw [if_neg hs] at hR
   rw [if_neg hs,decide_eq_false hs] at hv;by_cases hw:hd (l.drop k1)=[41]
   ·have hlt:=en hw (by simp)
    have w1:=aN l k1 (ns.map bW) hk1 hl [41] (by simp) hw;rw [want,if_pos hw,List.tail_drop] at hR;have hR:R.ok (d++[]) (l.drop (k1+1))=Rr:=hR;rw [List.append_nil] at hR;have hfz:((lp d).drop 0).take (lp d).length=lp d:=by simp
    have hb:GH l ns f Rr = .ok (.tuple []) (rdN l (k1+1) ns++fnB f (.d (.slice 1 (lp d) false))):=by
     rw [<- hR];show Out.ok _ (rdN l (l.length - (l.drop (k1+1)).length) _++fnB f (.d (jZ d)))=_;rw [len_drop (by omega)];unfold jZ;rw [if_neg hd0]
    clear hR hout hs hw hd0
    repeat' first|refine aw ?_|refine bw (fun _=>?_) fun _=>?_
    refine ag 5 [0,1] hv ?_
    repeat' first|refine aw ?_|refine bw (fun _=>?_) fun _=>?_
    refine aC ?_;refine ag 5 [0,1] w1 ?_
    repeat' first|refine aw ?_|refine bw (fun _=>?_) fun _=>?_
    exact Qi 4 hb rfl rfl (by exact Uw.wW)
   ·have w1:=aZ l k1 (ns.map bW) hk1 hl [41] (by simp) hw
    have hb:GH l ns f Rr = .bad:=by
     rw [want,if_neg hw] at hR;rw [<- hR];rfl
    clear hR hout hs hw hd0
    repeat' first|refine aw ?_|refine bw (fun _=>?_) fun _=>?_
    refine ag 5 [0,1] hv ?_
    repeat' first|refine aw ?_|refine bw (fun _=>?_) fun _=>?_
    refine aC ?_;refine bh 5 [0,1] w1 ?_;intro h q
    repeat' first|refine aw ?_|refine bw (fun _=>?_) fun _=>?_
    exact mq 4 hb rfl
end Uw.Tryz
namespace Uw.Tryz
open Go Uw
theorem Wt {f:Str} {vs:List V} {g:FuncId} {l:List Tok} {k:Nat} {ns:List Nod} {bs:List Blk} {x:R (List Str)} (h:cY g vs bs (GH l ns f x)) (hk:k<=l.length) (hs:∀e r,x = .ok e r->Suf (l.drop k) r 0) :
  x = .out\/(x = .bad/\kP P0 g vs bs cT)\/∃e k',x = .ok e (l.drop k')/\k'<=l.length/\k<=k'/\bk P0 g vs bs (.tuple []) (rdN l k' ns++fnB f (.d (jZ e))):=by
 cases x with
 | out=>exact .inl rfl
 | bad=>exact .inr (.inl ⟨rfl,h⟩)
 | ok e r=>
  obtain ⟨k',h1,rfl,h2⟩:=rR (hs e r rfl) hk;refine .inr (.inr ⟨e,k',rfl,h1,h2,?_⟩);have h:bk P0 g vs bs (.tuple []) (rdN l (l.length - (l.drop k').length) ns++fnB f (.d (jZ e))):=h;rw [len_drop h1] at h;exact h
theorem J8 {n:Nat} {r r' : List Tok} {x:List Str} (h:jO n r = .ok x r'):Suf r r' 0:=by
 rw [jO] at h;obtain ⟨_,r1,h1,h⟩:=bind_ok.1 h;have s1:=Suf.want (by simp) h1
 split at h
 ·rename_i hh
  injection h with _ h
  subst h;exact (s1.trans (Suf.hd hh (by simp))).le (Nat.zero_le _)
 ·obtain ⟨s,r2,h2,h⟩:=bind_ok.1 h
  obtain ⟨ss,r3,h3,h⟩:=bind_ok.1 h;injection h with _ h
  subst h;exact (s1.trans ((Suf.name h2).trans (Ad n _ _ _ h3))).le (Nat.zero_le _)
theorem Vp (l:List Tok) (hl:l.length<1000000) (n:Nat) (k:Nat) (ns:List Nod) (hk:k<=l.length) (hn:ns.length<=k):cY jz [.ptr 0 0] (rdN l k ns) (Nb l ns (rh n (l.drop k))):=by
 rw [rh];by_cases h0:hd (l.drop k)=nO
 rotate_left
 ·rw [want,if_neg h0]
  have w0:=aZ l k (ns.map bW) hk hl nO (by decide) h0;clear h0;refine aL da rfl ?_
  repeat' first|refine aw ?_|refine bw (fun _=>?_) fun _=>?_
  refine bh 4 [0,1] w0 ?_;intro H q
  repeat' first|refine aw ?_|refine bw (fun _=>?_) fun _=>?_
  exact aM rfl
 have hlt:=en h0 (by decide);have w0:=aN l k (ns.map bW) hk hl nO (by decide) h0;rw [want,if_pos h0,List.tail_drop];clear h0;show cY _ _ _ (Nb l ns ((eQ (l.drop (k+1))).bind _))
 rcases eh l (k+1) (ns.map bW) hlt hl with ⟨h1,h2⟩|⟨f,h1,hlt1,h2⟩
 ·rw [h1]
  refine aL da rfl ?_
  repeat' first|refine aw ?_|refine bw (fun _=>?_) fun _=>?_
  refine ag 4 [0,1] w0 ?_
  repeat' first|refine aw ?_|refine bw (fun _=>?_) fun _=>?_
  refine bh 4 [0,1] h2 ?_;intro H q
  repeat' first|refine aw ?_|refine bw (fun _=>?_) fun _=>?_
  exact aM rfl
 rw [h1];show cY _ _ _ (Nb l ns ((jO n (l.drop (k+1+1))).bind fun ar r=>(dr n r).bind fun b r=>.ok ⟨f,ar,b⟩ r))
 rcases Wt (Qk l hl n (k+1+1) ns f hlt1 (by omega)) hlt1 (fun e r h=>J8 h) with h3|⟨h3,h4⟩|⟨ar,k2,h3,hk2,Vo,h4⟩
 ·rw [h3];exact trivial
 ·rw [h3]
  refine aL da rfl ?_
  repeat' first|refine aw ?_|refine bw (fun _=>?_) fun _=>?_
  refine ag 4 [0,1] w0 ?_
  repeat' first|refine aw ?_|refine bw (fun _=>?_) fun _=>?_
  refine ag 4 [0,1] h2 ?_
  repeat' first|refine aw ?_|refine bw (fun _=>?_) fun _=>?_
  refine bh 5 [0,1,2,4] h4 ?_;intro H q
  repeat' first|refine aw ?_|refine bw (fun _=>?_) fun _=>?_
  exact aM rfl
 rw [h3];show cY _ _ _ (Nb l ns ((dr n (l.drop k2)).bind fun b r=>.ok ⟨f,ar,b⟩ r))
 rcases Qf ((cs l hl n n (Nat.le_refl _)).block k2 ns hk2 (by omega)) hk2 (fun e r h=>(s4 n).block _ _ _ h) with h5|⟨h5,h6⟩|⟨b,k3,h5,hk3,Gy,h6⟩
 ·rw [h5];exact trivial
 ·rw [h5]
  refine aL da rfl ?_
  repeat' first|refine aw ?_|refine bw (fun _=>?_) fun _=>?_
  refine ag 4 [0,1] w0 ?_
  repeat' first|refine aw ?_|refine bw (fun _=>?_) fun _=>?_
  refine ag 4 [0,1] h2 ?_
  repeat' first|refine aw ?_|refine bw (fun _=>?_) fun _=>?_
  refine ag 5 [0,1,2,4] h4 ?_
  repeat' first|refine aw ?_|refine bw (fun _=>?_) fun _=>?_
  refine bh 5 [0,1] h6 ?_;intro h q
  repeat' first|refine aw ?_|refine bw (fun _=>?_) fun _=>?_
  exact aM rfl
 rw [h5];show bk _ _ _ _ (.agg [.d (.str f),.d (jZ ar),.d (I ((ns.length+b.sz:Nat)))]) (rdN l (l.length - (l.drop k3).length) (ns++b.all ns.length));rw [len_drop hk3];have hz:jZ ar = .nil\/jZ ar = .slice 1 (lp ar) false:=by
  unfold jZ
  split
  ·exact .inl rfl
  ·exact .inr rfl
 rcases hz with e|e
 all_goals rw [e] at h4 ⊢
 all_goals refine aG da rfl ?_
 all_goals (repeat' first|refine aw ?_|refine bw (fun _=>?_) fun _=>?_)
 all_goals refine ag 4 [0,1] w0 ?_
 all_goals (repeat' first|refine aw ?_|refine bw (fun _=>?_) fun _=>?_)
 all_goals refine ag 4 [0,1] h2 ?_
 all_goals (repeat' first|refine aw ?_|refine bw (fun _=>?_) fun _=>?_)
 all_goals refine ag 5 [0,1,2,4] h4 ?_
 all_goals (repeat' first|refine aw ?_|refine bw (fun _=>?_) fun _=>?_)
 all_goals refine ag 5 [0,1] h6 ?_
 all_goals (repeat' first|refine aw ?_|refine bw (fun _=>?_) fun _=>?_)
 all_goals exact aF 2 rfl rfl (by exact Uw.wW)
end Uw.Tryz
