/- Na: Dd De Df Dg Dh Di Dj (merged by merge2.py from the working texts). -/
import Derived.Test.YtoeaaemleaogbaaGreatDoorN9
import Derived.Test.YtoeaaemleaogbaaGreatDoorN6
set_option linter.unusedSimpArgs false
set_option linter.unnecessarySimpa false
set_option linter.unusedVariables false
set_option linter.unusedSectionVars false
namespace Uw.Tryz
open Go Uw
def nmB2:MCode:=qL (qL (qR (qL (qR (qR (qR (qR m_check_search_name.code)))))))
abbrev noL (n:Nat):List (List Str):=List.replicate n []
abbrev nmV (n:Nat):List V:=mapsV mid 0 (noL n).length++List.replicate 0 (.d .nilMap)
abbrev nmS2 (p:Pg) (ms:List MS) (k:Nat):St:=⟨[(59,.d (I k)),(58,.d (I ((p.nodes.map ndL).length:Nat))),(57,.d (nodesD p.nodes)),(5,.row 3 (localsP p).length),(1,.ptr 2 0)],naH p (nmV (localsP p).length) (famF (noL (localsP p).length) ms),1000000,[],2⟩
abbrev nmG (p:Pg) (k:Nat):Prop:=∀h:k<p.nodes.length,nameN p p.nodes[k] ((ownersP p).getD k 0)=false
set_option maxRecDepth 8000 in
set_option maxHeartbeats 4000000 in
theorem name_round (p:Pg) (hf:formedP p=true) (hp:Lim p) (R:Bool) (j:Nat) (hj:j<p.nodes.length) (hone:nameN p p.nodes[j] ((ownersP p).getD j 0)=true→R=true) (hpre:∀i,i<j→nmG p i) (ms:List MS) (hms:ms=(localsP p).map seenE) {kk:MExit→St→Tree} (hkk:∀s,kk .ret s=Tree.done .ret s) :
  WT P0 (LoopQ (nmS2 p ms) (ForI p.nodes.length (nmG p)) (forM p.nodes.length) j fun e s=>WT P0 (EQ 2 m_check_search_name.res (.d (.bool R)) (sBs p)) (kk e s)) (exec nmB2 (nmS2 p ms j) Tree.done):=by
 have hN:=hp.nodes
 have hF:=hp.funs
 have hnl:(p.nodes.map ndL).length=p.nodes.length:=by simp
 have hll:=localsP_len p
 have hnol:(noL (localsP p).length).length=(localsP p).length:=by simp
 have hnol2:(noL (localsP p).length).length<100000:=by omega
 have hmsl:ms.length=(noL (localsP p).length).length:=by rw [hms];simp
 have hvl:(nmV (localsP p).length).length=(localsP p).length:=by rw [List.length_append,mapsV_len];simp
 have hown:=own_in hf _ j hj (Nat.le_refl _)
 have hol:((ownersP p).map fun i=>[I i]).length=p.nodes.length:=by rw [List.length_map,ownersP_len]
 have hoe:((ownersP p).map fun i=>[I i])[(j:Int).toNat]? = some [I ((ownersP p).getD j 0)]:=by
  have h2:j<(ownersP p).length:=by rw [ownersP_len];exact hj
  simp [List.getD,h2]
 have he:(p.nodes.map ndL)[(j:Int).toNat]? = some (ndL p.nodes[j]):=by simp [hj]
 have hth:=th_get p p.nodes[j].name
 have hfn:=fn_get p p.nodes[j].name2
 have hG:nameN p p.nodes[j] ((ownersP p).getD j 0)=false→nmG p j:=fun h _=>h
 have hd:∀x o,nameN p x o=(if x.kind=10∨x.kind=11 then (funP p x.name2).isNone else if x.kind=8 then (thingP p x.name).isNone else if x.kind=2 then (thingP p x.name).isNone&&!decide (x.name∈(localsP p).getD o.toNat []) else false):=fun x o=>rfl
 rw [hd] at hone hG
 clear hd
 generalize (ownersP p).getD j 0=o at *
 generalize p.nodes[j]=x at *
 obtain ⟨xk,xn,xs,xt,xo⟩:=x
 have he:(p.nodes.map ndL)[(j:Int).toNat]? = some [I xk,I xn,.str xs,.str xt,intsD xo]:=he
 simp only at hone hG hth hfn
 obtain ⟨l,hl⟩:∃l,(localsP p)[o.toNat]? = some l:=⟨(localsP p)[o.toNat]'(by omega),by simp⟩
 have hld:(localsP p).getD o.toNat []=l:=by rw [List.getD,hl];rfl
 rw [hld] at hone hG
 have hmg:(nmV (localsP p).length)[o.toNat * 1]? = some (.hnd (mid o.toNat)):=by
  rw [Nat.mul_one,List.getElem?_append_left (by rw [mapsV_len];omega),mapsV_get mid _ 0 _ (by omega),Nat.zero_add]
 have hlk:∀H,Over (famF (noL (localsP p).length) ms) H→look H (mid o.toNat)=some (.map none (seenE l)):=fun H ho=>by
  rw [ho _ (by simp only [mid];omega) (by simp only [mid];omega)]
  have:=fam_mid (famI (noL (localsP p).length).length) (ls:=noL (localsP p).length) (ms:=ms) (i:=0) (k:=o.toNat) (m:=seenE l) (by omega) (by omega) (by rw [hms];simp [hl])
  rwa [Nat.zero_add] at this
 have hsg:=seenE_get l xs
 have hskip:∀(Rg:Regs) (H:Heap) (nx:Nat),look H 2=some (.var (sCs p))→look H 3=some (.var (nmV (localsP p).length))→look H 0=some (.map none (thE p.decls))→look H 1=some (.map none (fnE p.funs))→Over (famF (noL (localsP p).length) ms) H→
   (∀mv fam,subR (renF []) Rg H (naH p mv fam) [(59,.d (I ((j+1:Nat):Int))),(58,.d (I ((p.nodes.map ndL).length:Nat))),(57,.d (nodesD p.nodes)),(5,.row 3 (localsP p).length),(1,.ptr 2 0)])→Weak ⟨Rg,H,nx,[],2⟩ (nmS2 p ms (j+1)):=by
  intro Rg H nx e2 e3 e0 e1 ho hR
  exact na_same hmsl hnol2 (hR _ _) e2 e3 e0 e1 ho
 have hend:∀st:St,st.defers=[]→st.base=2→resV st m_check_search_name.res=some [.d (.bool true)]→look st.heap 0=some (.map none (thE p.decls))→look st.heap 1=some (.map none (fnE p.funs))→EQ 2 m_check_search_name.res (.d (.bool true)) (sBs p) .ret st:=by
  intro st h1 _ h3 h4 h5
  refine ⟨.inr rfl,h1,_,h3,?_⟩
  refine Weak.looks ⟨⟨_,rfl,.inl ⟨rfl,rfl⟩⟩,trivial⟩ ?_ (by show 2≤2;omega) (fun id h _=>?_)
  ·intro id y hy
   have:(id=0∧y = .map none (thE p.decls))∨(id=1∧y = .map none (fnE p.funs)):=by
    have hy:look [(0,Blk.map none (thE p.decls)),(1,Blk.map none (fnE p.funs))] id=some y:=hy
    rw [look_cons] at hy
    by_cases h0:0=id
    ·rw [if_pos h0] at hy;injection hy with hy;exact .inl ⟨h0.symm,hy.symm⟩
    rw [if_neg h0,look_cons] at hy
    by_cases h0:1=id
    ·rw [if_pos h0] at hy;injection hy with hy;exact .inr ⟨h0.symm,hy.symm⟩
    rw [if_neg h0] at hy;cases hy
   rcases this with ⟨rfl,rfl⟩|⟨rfl,rfl⟩
   ·exact ⟨h4,rfl,by show 0<2;omega⟩
   ·exact ⟨h5,rfl,by show 1<2;omega⟩
  ·rcases (show id=0∨id=1 by omega) with rfl|rfl<;>rfl
 have hT:(thingP p xs=none∧mget (thE p.decls) (.s xs)=none)∨∃kd,thingP p xs=some kd∧mget (thE p.decls) (.s xs)=some (I kd):=by
  rw [hth]
  cases thingP p xs with
  | none=>exact .inl ⟨rfl,rfl⟩
  | some kd=>exact .inr ⟨kd,rfl,rfl⟩
 have hU:(funP p xt=none∧mget (fnE p.funs) (.s xt)=none)∨∃i:Nat,funP p xt=some i∧mget (fnE p.funs) (.s xt)=some (I i):=by
  rw [hfn]
  cases funP p xt with
  | none=>exact .inl ⟨rfl,rfl⟩
  | some i=>exact .inr ⟨i,rfl,rfl⟩
 clear hth hfn
 by_cases k1:xk=10∨xk=11
 ·rcases hU with ⟨u1,u2⟩|⟨i,u1,u2⟩
  ·rw [hone (by rw [if_pos k1,u1];rfl)]
   rcases k1 with rfl|rfl<;>rcases hT with ⟨_,t2⟩|⟨kd,_,t2⟩
   all_goals repeat (first|refine aw ?_|refine f1 ?_|refine m1 ?_)
   all_goals exact WT_leaveE hkk (hend _ rfl rfl rfl rfl rfl)
  ·have hG1:=hG (by rw [if_pos k1,u1];rfl)
   rcases k1 with rfl|rfl<;>rcases hT with ⟨_,t2⟩|⟨kd,_,t2⟩
   all_goals repeat (first|refine aw ?_|refine f1 ?_|refine m1 ?_)
   all_goals refine WT_next j hG1 (hskip _ _ _ rfl rfl rfl rfl (by (repeat refine over_cons ?_ rfl);exact over_refl) (fun mv fam=>?_))
   all_goals (repeat' first|exact trivial|refine ⟨⟨_,rfl,?_⟩,?_⟩|exact VW_int (by first|with_reducible rfl|omega)|exact Or.inl ⟨rfl,rfl⟩)
 obtain ⟨k10,k11⟩:xk≠10∧xk≠11:=by omega
 by_cases k8:xk=8
 ·rcases hT with ⟨t1,t2⟩|⟨kd,t1,t2⟩
  ·rw [hone (by rw [if_neg k1,if_pos k8,t1];rfl)]
   subst k8
   rcases hU with ⟨_,u2⟩|⟨i,_,u2⟩
   all_goals repeat (first|refine aw ?_|refine f1 ?_|refine m1 ?_)
   all_goals exact WT_leaveE hkk (hend _ rfl rfl rfl rfl rfl)
  ·have hG1:=hG (by rw [if_neg k1,if_pos k8,t1];rfl)
   subst k8
   rcases hU with ⟨_,u2⟩|⟨i,_,u2⟩
   all_goals repeat (first|refine aw ?_|refine f1 ?_|refine m1 ?_)
   all_goals refine WT_next j hG1 (hskip _ _ _ rfl rfl rfl rfl (by (repeat refine over_cons ?_ rfl);exact over_refl) (fun mv fam=>?_))
   all_goals (repeat' first|exact trivial|refine ⟨⟨_,rfl,?_⟩,?_⟩|exact VW_int (by first|with_reducible rfl|omega)|exact Or.inl ⟨rfl,rfl⟩)
 by_cases k2:xk=2
 ·rcases hT with ⟨t1,t2⟩|⟨kd,t1,t2⟩
  ·by_cases hin:xs∈l
   ·rw [if_pos hin] at hsg
    have hG1:=hG (by rw [if_neg k1,if_neg k8,if_pos k2,t1];simp [hin])
    subst k2
    rcases hU with ⟨_,u2⟩|⟨i,_,u2⟩
    all_goals repeat (first|refine aw ?_|refine f1 ?_|refine m1 ?_)
    all_goals refine WT_blk _ (hlk _ (by (repeat refine over_cons ?_ rfl);exact over_refl)) ?_
    all_goals repeat (first|refine aw ?_|refine f1 ?_|refine m1 ?_)
    all_goals refine WT_next j hG1 (hskip _ _ _ rfl rfl rfl rfl (by (repeat refine over_cons ?_ rfl);exact over_refl) (fun mv fam=>?_))
    all_goals (repeat' first|exact trivial|refine ⟨⟨_,rfl,?_⟩,?_⟩|exact VW_int (by first|with_reducible rfl|omega)|exact Or.inl ⟨rfl,rfl⟩)
   ·rw [if_neg hin] at hsg
    rw [hone (by rw [if_neg k1,if_neg k8,if_pos k2,t1];simp [hin])]
    subst k2
    rcases hU with ⟨_,u2⟩|⟨i,_,u2⟩
    all_goals repeat (first|refine aw ?_|refine f1 ?_|refine m1 ?_)
    all_goals refine WT_blk _ (hlk _ (by (repeat refine over_cons ?_ rfl);exact over_refl)) ?_
    all_goals repeat (first|refine aw ?_|refine f1 ?_|refine m1 ?_)
    all_goals exact WT_leaveE hkk (hend _ rfl rfl rfl rfl rfl)
  ·have hG1:=hG (by rw [if_neg k1,if_neg k8,if_pos k2,t1];rfl)
   subst k2
   rcases hU with ⟨_,u2⟩|⟨i,_,u2⟩
   all_goals repeat (first|refine aw ?_|refine f1 ?_|refine m1 ?_)
   all_goals refine WT_next j hG1 (hskip _ _ _ rfl rfl rfl rfl (by (repeat refine over_cons ?_ rfl);exact over_refl) (fun mv fam=>?_))
   all_goals (repeat' first|exact trivial|refine ⟨⟨_,rfl,?_⟩,?_⟩|exact VW_int (by first|with_reducible rfl|omega)|exact Or.inl ⟨rfl,rfl⟩)
 have hG1:=hG (by rw [if_neg k1,if_neg k8,if_neg k2])
 rcases hU with ⟨_,u2⟩|⟨i,_,u2⟩<;>rcases hT with ⟨_,t2⟩|⟨kd,_,t2⟩
 all_goals repeat (first|refine aw ?_|refine f1 ?_|refine m1 ?_)
 all_goals refine WT_next j hG1 (hskip _ _ _ rfl rfl rfl rfl (by (repeat refine over_cons ?_ rfl);exact over_refl) (fun mv fam=>?_))
 all_goals (repeat' first|exact trivial|refine ⟨⟨_,rfl,?_⟩,?_⟩|exact VW_int (by first|with_reducible rfl|omega)|exact Or.inl ⟨rfl,rfl⟩)
end Uw.Tryz
namespace Uw
open Go
theorem Weak.looksB [Glob] (ρ:Nat→Nat) {R R' : Regs} {H H' : Heap} {n n' b:Nat} (h1:subR ρ R H H' R') (h2:∀id x,look H' id=some x→(∃y,look H (ρ id)=some y∧BSim ρ H H' y x)∧id<n')
  (h3:∀id id',(look H' id).isSome=true→(look H' id').isSome=true→ρ id=ρ id'→id=id') (hb:∀id,id<b→ρ id=id∧((look H id).isSome=true→(look H' id).isSome=true)) (hn:b≤n'):Weak ⟨R,H,n,[],b⟩ ⟨R',H',n',[],b⟩:=
 ⟨ρ,fun i v h=>subR_look h1 i v h,fun i x h=>.inl (h2 i x h).1,fun i x h=>(h2 i x h).2,rfl,hn,hb,h3,rfl,rfl⟩
end Uw
namespace Uw.Tryz
open Go Uw
def rhoM (j b:Nat) (id:Nat):Nat:=if id=mid j then b else id
theorem na_next {p:Pg} {k:Nat} {ms:List MS} {m:MS} {R R' : Regs} {H:Heap} {r n b:Nat} {mv' : List V} (hms:ms.length=k) (hl:k<100000) (hb:1000000≤b)
  (h1:subR (rhoM k b) R H (naH p (mapsV mid 0 (k+1)++List.replicate r (.d .nilMap)) (famF (noL (k+1)) (ms++[m]))) R')
  (e2:look H 2=some (.var (sCs p))) (e3:look H 3=some (.var mv')) (hmv:mv' = mapsV mid 0 k++[.hnd b]++List.replicate r (.d .nilMap))
  (e0:look H 0=some (.map none (thE p.decls))) (e1:look H 1=some (.map none (fnE p.funs))) (eb:look H b=some (.map none m)) (ho:Over (famF (noL k) ms) H) :
  Weak ⟨R,H,n,[],2⟩ ⟨R',naH p (mapsV mid 0 (k+1)++List.replicate r (.d .nilMap)) (famF (noL (k+1)) (ms++[m])),1000000,[],2⟩:=by
 subst hmv
 have hlow:∀i,i<4→rhoM k b i=i:=fun i h=>by unfold rhoM;rw [if_neg (by simp only [mid];omega)]
 have hm:∀i,i<k→rhoM k b (mid i)=mid i:=fun i h=>by unfold rhoM;rw [if_neg (by simp only [mid];omega)]
 have hmk:rhoM k b (mid k)=b:=by unfold rhoM;rw [if_pos rfl]
 have hnk:(noL k).length=k:=by simp
 have hlen:(noL (k+1)).length=k+1:=by simp
 have bd:∀i x,look (naH p (mapsV mid 0 (k+1)++List.replicate r (.d .nilMap)) (famF (noL (k+1)) (ms++[m]))) i=some x→i<1000000:=by
  intro i x hx
  rcases naH_inv hx with ⟨rfl,rfl⟩|⟨rfl,rfl⟩|⟨rfl,rfl⟩|⟨rfl,rfl⟩|hx
  ·omega
  ·omega
  ·omega
  ·omega
  ·have:=(famF_inv hx).2.1
   rw [hlen] at this;omega
 refine Weak.looksB (rhoM k b) h1 ?_ ?_ (fun id h=>⟨hlow id (by omega),fun _=>?_⟩) (by omega)
 ·intro id x hx
  refine ⟨?_,bd id x hx⟩
  rcases naH_inv hx with ⟨rfl,rfl⟩|⟨rfl,rfl⟩|⟨rfl,rfl⟩|⟨rfl,rfl⟩|hx
  ·exact ⟨_,by rw [hlow 2 (by omega)];exact e2,BSim_by (by show Blk.var _=Blk.var (renL _ _);simp [renL,V.ren,hlow 0,hlow 1]) rfl⟩
  ·refine ⟨_,by rw [hlow 3 (by omega)];exact e3,BSim_by ?_ (na_closed (by simp [hms]) hlen.symm)⟩
   show _=Blk.var (renL _ _)
   have hc:mapsV (fun i=>rhoM k b (mid i)) 0 k=mapsV mid 0 k:=mapsV_congr k 0 fun i hi=>by simp only [Nat.zero_add];exact hm i hi
   rw [renL_app,renL_rep,renL_maps,mapsV_snoc,hc]
   simp only [Nat.zero_add]
   rw [hmk]
  ·exact ⟨_,by rw [hlow 0 (by omega)];exact e0,BSim_by rfl rfl⟩
  ·exact ⟨_,by rw [hlow 1 (by omega)];exact e1,BSim_by rfl rfl⟩
  ·obtain ⟨g1,g2,g3,g4⟩:=famF_inv hx
   refine ⟨x,?_,BSim_by (g4 _).symm (g3 _)⟩
   rcases fam_inv hx with ⟨i,m',k1,k2,k3,rfl,rfl⟩|⟨i,l',k1,k2,k3,k4,rfl,rfl⟩
   ·rw [Nat.zero_add]
    rw [hlen] at k1
    by_cases hi:i<k
    ·rw [hm i hi,ho _ (by simp only [mid];omega) (by simp only [mid];omega)]
     have:=fam_mid (famI (noL k).length) (ls:=noL k) (ms:=ms) (i:=0) (k:=i) (m:=m') (by omega) (by omega) (by rwa [List.getElem?_append_left (by omega)] at k3)
     rwa [Nat.zero_add] at this
    ·obtain rfl:i=k:=by omega
     rw [List.getElem?_append_right (by omega),hms,Nat.sub_self] at k3
     injection k3 with k3
     rw [hmk,← k3];exact eb
   ·exfalso
    have:=List.mem_of_getElem? k3
    rw [List.mem_replicate] at this
    exact k4 this.2
 ·intro id id' h h' he
  obtain ⟨x,hx⟩:=Option.isSome_iff_exists.1 h
  obtain ⟨x',hx'⟩:=Option.isSome_iff_exists.1 h'
  have b1:=bd id x hx
  have b2:=bd id' x' hx'
  unfold rhoM at he
  split at he<;>split at he<;>omega
 ·rcases (show id=0∨id=1 by omega) with rfl|rfl<;>rfl
end Uw.Tryz
namespace Uw.Tryz
open Go Uw
theorem name_main {p:Pg} (h:funP p sMain=none):nameP p=true:=by rw [nameP,h];rfl
theorem name_node {p:Pg} (j:Nat) (h:j<p.nodes.length) (hn:nameN p p.nodes[j] ((ownersP p).getD j 0)=true):nameP p=true:=by
 have h2:j<(ownersP p).length:=by rw [ownersP_len];exact h
 have hz:j<(p.nodes.zip (ownersP p)).length:=by rw [List.length_zip];omega
 have:((p.nodes.zip (ownersP p)).any fun y=>nameN p y.1 y.2)=true:=List.any_eq_true.2 ⟨_,List.getElem_mem hz,by
  rw [List.getElem_zip]
  simpa [List.getD,h2] using hn⟩
 rw [nameP,this];simp
theorem name_decl {p:Pg} (j:Nat) (h:j<p.decls.length) (hk:p.decls[j].kind<0∨3<p.decls[j].kind):nameP p=true:=by
 have:(p.decls.any fun d=>decide (d.kind<0)||decide (3<d.kind))=true:=List.any_eq_true.2 ⟨_,List.getElem_mem h,by simpa using hk⟩
 rw [nameP,this];simp
theorem name_all {p:Pg} (h0:funP p sMain≠none) (h1:∀(j:Nat) (h:j<p.nodes.length),nameN p p.nodes[j] ((ownersP p).getD j 0)=false) (h2:∀(j:Nat) (h:j<p.decls.length),¬(p.decls[j].kind<0∨3<p.decls[j].kind)):nameP p=false:=by
 have e1:((p.nodes.zip (ownersP p)).any fun y=>nameN p y.1 y.2)=false:=List.any_eq_false.2 fun y hy=>by
  obtain ⟨j,hj,rfl⟩:=List.mem_iff_getElem.1 hy
  rw [List.length_zip] at hj
  have hj1:j<p.nodes.length:=by omega
  have hj2:j<(ownersP p).length:=by omega
  have:=h1 j hj1
  rw [List.getElem_zip]
  simpa [List.getD,hj2] using this
 have e2:(p.decls.any fun d=>decide (d.kind<0)||decide (3<d.kind))=false:=List.any_eq_false.2 fun d hd=>by
  obtain ⟨j,hj,rfl⟩:=List.mem_iff_getElem.1 hd
  have:=h2 j hj
  simpa using this
 rw [nameP,e1,e2]
 cases h:funP p sMain with
 | none=>exact absurd h h0
 | some i=>rfl
end Uw.Tryz
namespace Uw.Tryz
open Go Uw
theorem na_in {p:Pg} {k b nx:Nat} {ms:List MS} {m m' : MS} {R R' : Regs} {H:Heap} {r n:Nat} {mv' : List V} (hms:ms.length=k) (hl:k<100000) (hb:1000000≤b) (hnx:b<nx) (hmv:mv' = mapsV mid 0 k++[.hnd b]++List.replicate r (.d .nilMap))
  (h1:subR (renF []) R H ((b,.map none m')::naH p mv' (famF (noL k) ms)) R') (e2:look H 2=some (.var (sCs p))) (e3:look H 3=some (.var mv')) (e0:look H 0=some (.map none (thE p.decls))) (e1:look H 1=some (.map none (fnE p.funs))) (eb:look H b=some (.map none m)) (hm:m=m')
  (ho:Over (famF (noL k) ms) H):Weak ⟨R,H,n,[],2⟩ ⟨R',(b,.map none m')::naH p mv' (famF (noL k) ms),nx,[],2⟩:=by
 subst hm
 have hkl:(noL k).length=k:=by simp
 have hlk:∀i,(look (naH p mv' (famF (noL k) ms)) i).isSome=true→(look ((b,.map none m)::naH p mv' (famF (noL k) ms)) i).isSome=true:=by
  intro i h
  rw [look_cons]
  split
  ·rfl
  ·exact h
 refine Weak.looks h1 ?_ (by omega) (fun id h _=>?_)
 ·intro id x hx
  rw [look_cons] at hx
  by_cases h2:b=id
  ·rw [if_pos h2] at hx;injection hx with hx;subst h2 hx;exact ⟨eb,rfl,by omega⟩
  rw [if_neg h2] at hx
  rcases naH_inv hx with ⟨rfl,rfl⟩|⟨rfl,rfl⟩|⟨rfl,rfl⟩|⟨rfl,rfl⟩|hx
  ·refine ⟨e2,?_,by omega⟩
   show closedL _ _=true
   rw [closedL_iff]
   intro v hv
   simp only [sCs,List.mem_cons,List.mem_nil_iff,or_false] at hv
   rcases hv with rfl|rfl|rfl|rfl|rfl|rfl|rfl
   ·rfl
   ·rfl
   ·rfl
   ·exact hlk 0 rfl
   ·exact hlk 1 rfl
   ·rfl
   ·rfl
  ·refine ⟨e3,?_,by omega⟩
   show closedL _ _=true
   have hc:=na_closed (p:=p) (ls:=noL k) (ms:=ms) (mv:=mv') (r:=r) (n:=k) (by rw [hkl,hms]) hkl.symm
   rw [closedL_iff] at hc ⊢
   intro v hv
   rw [hmv] at hv
   rcases List.mem_append.1 hv with hv|hv
   ·rcases List.mem_append.1 hv with hv|hv
    ·obtain ⟨q,hq⟩:=List.mem_iff_getElem?.1 hv
     have hql:q<k:=by
      rcases Nat.lt_or_ge q k with h|h
      ·exact h
      ·rw [List.getElem?_eq_none (by rw [mapsV_len];exact h)] at hq;cases hq
     have hg:=mapsV_get mid k 0 q hql
     rw [hq] at hg
     injection hg with hg
     have:=hc v (List.mem_append_left _ hv)
     rw [hg] at this ⊢
     exact hlk _ this
    ·simp only [List.mem_cons,List.mem_nil_iff,or_false] at hv
     subst hv
     show (look _ _).isSome=true
     rw [look_cons,if_pos rfl];rfl
   ·rw [(List.mem_replicate.1 hv).2];rfl
  ·exact ⟨e0,rfl,by omega⟩
  ·exact ⟨e1,rfl,by omega⟩
  ·obtain ⟨g1,g2,g3,_⟩:=famF_inv hx
   rw [hkl] at g2
   exact ⟨by rw [ho id g1 (by omega)];exact hx,g3 _,by omega⟩
 ·rcases (show id=0∨id=1 by omega) with rfl|rfl
  ·exact hlk 0 rfl
  ·exact hlk 1 rfl
end Uw.Tryz
namespace Uw.Tryz
open Go Uw
abbrev nL (p:Pg):Nat:=((localsP p).map fun l=>[strsC l]).length
abbrev nmR (p:Pg):Regs:=[(5,.row 3 (nL p)),(1,.ptr 2 0)]
abbrev nmMv (n r:Nat):List V:=mapsV mid 0 n++List.replicate r (.d .nilMap)
abbrev nmS1 (p:Pg) (j:Nat):St:=⟨(33,.d (I j))::(32,.d (I (nL p:Nat)))::(31,.d (strssD (localsP p)))::nmR p,naH p (nmMv j (nL p - j)) (famF (noL j) (((localsP p).take j).map seenE)),1000000,[],2⟩
theorem rhoM_low {k b i:Nat} (h:i<4):rhoM k b i=i:=by unfold rhoM;rw [if_neg (by simp only [mid];omega)]
theorem VW_mrow {j b k n:Nat} {h h' : Heap} (hk:k<4) (hc:(look h' k).isSome=true):VW (rhoM j b) h h' (.row k n) (.row k n):=.inl ⟨by rw [V.ren,rhoM_low hk],hc⟩
theorem VW_mptr {j b k o:Nat} {h h' : Heap} (hk:k<4) (hc:(look h' k).isSome=true):VW (rhoM j b) h h' (.ptr k o) (.ptr k o):=.inl ⟨by rw [V.ren,rhoM_low hk],hc⟩
theorem nm_regs {p:Pg} {k b:Nat} {R:Regs} {H:Heap} {mv:List V} {fam:Heap} (h5:look R 5=some (.row 3 (nL p))) (h1:look R 1=some (.ptr 2 0)):subR (rhoM k b) R H (naH p mv fam) (nmR p):=
 ⟨⟨_,h5,VW_mrow (by omega) rfl⟩,⟨_,h1,VW_mptr (by omega) rfl⟩,trivial⟩
def nmB1:MCode:=qL (qL (qR (qL (qR (qR (qR m_check_search_name.code))))))
set_option maxRecDepth 20000 in
set_option maxHeartbeats 4000000 in
theorem name_round1 (p:Pg) (hp:Lim p) (hls:∀l∈localsP p,l.length<1000000000) (j:Nat) (hj:j<nL p) (hpre:∀i,i<j→True) {QQ:MExit→St→Prop}:WT P0 (LoopQ (nmS1 p) (ForI (nL p) fun _=>True) (forM (nL p)) j QQ) (exec nmB1 (nmS1 p j) Tree.done):=by
 have hnl:nL p=(localsP p).length:=by simp
 have hll:=localsP_len p
 have hF:=hp.funs
 have hj2:j<(localsP p).length:=by rw [← hnl];exact hj
 have he:((localsP p).map fun l=>[strsC l])[(j:Int).toNat]? = some [strsC (localsP p)[j]]:=by simp [hj2]
 have hml:(nmMv j (nL p - j)).length=nL p:=by rw [List.length_append,mapsV_len,List.length_replicate];omega
 have hlL:=hls _ (List.getElem_mem hj2)
 have htk:(localsP p).take (j+1)=(localsP p).take j++[(localsP p)[j]]:=List.take_succ_eq_append_getElem hj2
 have hms:(((localsP p).take j).map seenE).length=j:=by rw [List.length_map,List.length_take];omega
 generalize (localsP p)[j]=l at *
 have he:((localsP p).map fun l=>[strsC l])[(j:Int).toNat]? = some [.slice 1 (l.map fun s=>[Dat.str s]) false]:=he
 have hrl:(l.map fun s=>[Dat.str s]).length=l.length:=by simp
 have hsm:∀v,(nmMv j (nL p - j)).set ((j:Int).toNat * 1) v=mapsV mid 0 j++[v]++List.replicate (nL p - (j+1)) (.d .nilMap):=fun v=>by
  have:=rep_set (mapsV mid 0 j) (V.d .nilMap) v (nL p - (j+1))
  rw [mapsV_len,show nL p - (j+1)+1=nL p - j by omega] at this
  rw [show (j:Int).toNat * 1=j by omega];exact this
 have hS:nmS1 p (j+1)=⟨(33,.d (I ((j+1:Nat):Int)))::(32,.d (I (nL p:Nat)))::(31,.d (strssD (localsP p)))::nmR p,naH p (mapsV mid 0 (j+1)++List.replicate (nL p - (j+1)) (.d .nilMap)) (famF (noL (j+1)) (((localsP p).take j).map seenE++[seenE l])),1000000,[],2⟩:=by
  rw [nmS1,htk,List.map_append];rfl
 have hl5:j<100000:=by omega
 obtain ⟨E,hE⟩:∃E:Nat→MS,∀i,E i=seenE (l.take i):=⟨_,fun _=>rfl⟩
 have hE0:([]:MS)=E 0:=by rw [hE];rfl
 have hEn:E l.length=seenE l:=by rw [hE,List.take_length]
 have hEs:∀(i:Nat) (h:i<l.length),mset (E i) (.s l[i]) (.bool true)=E (i+1):=fun i h=>by rw [hE,hE,List.take_succ_eq_append_getElem h,seenE_snoc]
 have hge:∀(i:Nat) (h:i<l.length),(l.map fun s=>[Dat.str s])[(i:Int).toNat]? = some [.str l[i]]:=fun i h=>by simp [h]
 obtain ⟨mv',hmv⟩:∃mv',mv' = mapsV mid 0 j++[V.hnd 1000000]++List.replicate (nL p - (j+1)) (.d .nilMap):=⟨_,rfl⟩
 have hmv2:(nmMv j (nL p - j)).set ((j:Int).toNat * 1) (V.hnd 1000000)=mv':=by rw [hsm,hmv]
 have hmg:mv'[(j:Int).toNat * 1]? = some (.hnd 1000000):=by
  rw [hmv,List.append_assoc,List.getElem?_append_right (by rw [mapsV_len];omega),mapsV_len]
  simp
 have hml3:mv'.length=nL p:=by rw [← hmv2,List.length_set];exact hml
 repeat (first|refine aw ?_|refine f1 ?_)
 refine WT_for l.length (fun i:Nat=>⟨(44,.d (I i))::(43,.d (I ((l.map fun s=>[Dat.str s]).length:Nat)))::(42,.d (strsC l))::(6,.d (I j))::(33,.d (I j))::(32,.d (I (nL p:Nat)))::(31,.d (strssD (localsP p)))::nmR p,(1000000,.map none (E i))::naH p mv' (famF (noL j) (((localsP p).take j).map seenE)),1000001,[],2⟩) (fun _=>True) ?_ (fun _=>?_) (fun i hi _=>?_)
 ·refine na_in hms hl5 (Nat.le_refl _) (by omega) hmv ?_ rfl (by rw [← hmv2];rfl) rfl rfl rfl hE0 (by (repeat refine over_cons ?_ rfl);exact over_refl)
  repeat' first|exact trivial|refine ⟨⟨_,rfl,?_⟩,?_⟩|exact VW_int (by first|with_reducible rfl|omega)|exact Or.inl ⟨rfl,rfl⟩
 ·refine aw ?_
  refine WT_break ?_
  refine aw ?_
  refine WT_next j trivial (wk_eq hS ?_)
  exact na_next (b:=1000000) hms hl5 (by omega) ⟨⟨_,rfl,VW_int rfl⟩,⟨_,rfl,.inl ⟨rfl,rfl⟩⟩,⟨_,rfl,.inl ⟨rfl,rfl⟩⟩,nm_regs rfl rfl⟩ rfl rfl hmv rfl rfl (by rw [← hEn];rfl) (by (repeat refine over_cons ?_ rfl);exact over_refl)
 have hg:=hge i hi
 have hs:=hEs i hi
 generalize l[i]=nm at *
 repeat (first|refine aw ?_|refine f1 ?_)
 refine WT_heq ((1000000,.map none (mset (E i) (.s nm) (.bool true)))::naH p mv' (famF (noL j) (((localsP p).take j).map seenE))) (heq_dup _ _ _ _) ?_
 repeat (first|refine aw ?_|refine f1 ?_)
 refine WT_next i trivial ?_
 refine na_in hms hl5 (Nat.le_refl _) (by omega) hmv ?_ rfl rfl rfl rfl rfl hs (by (repeat refine over_cons ?_ rfl);exact over_refl)
 repeat' first|exact trivial|refine ⟨⟨_,rfl,?_⟩,?_⟩|exact VW_int (by first|with_reducible rfl|omega)|exact Or.inl ⟨rfl,rfl⟩
end Uw.Tryz
namespace Uw.Tryz
open Go Uw
theorem locals_bound (p:Pg) (hp:Lim p):∀l∈localsP p,l.length<1000000000:=fun l hl=>by
 obtain ⟨i,hi,rfl⟩:=List.mem_iff_getElem.1 hl
 have hN:=hp.nodes
 have:=lsAt_bound p hp p.nodes.length i (localsP p)[i] (by rw [lsAt_all];simp [hi])
 omega
abbrev nmS3 (p:Pg) (j:Nat):St:=⟨[(114,.d (I j)),(113,.d (I ((p.decls.map decL).length:Nat))),(112,.d (.slice 3 (p.decls.map decL) false))],[(0,.map none (thE p.decls)),(1,.map none (fnE p.funs))],2,[],2⟩
abbrev nmG3 (p:Pg) (k:Nat):Prop:=∀h:k<p.decls.length,¬(p.decls[k].kind<0∨3<p.decls[k].kind)
def nmB3:MCode:=qL (qL (qR (qL (qR (qR (qR (qR (qR m_check_search_name.code))))))))
set_option maxRecDepth 8000 in
set_option maxHeartbeats 4000000 in
theorem name_round3 (p:Pg) (hp:Lim p) (R:Bool) (j:Nat) (hj:j<p.decls.length) (hone:p.decls[j].kind<0∨3<p.decls[j].kind→R=true) (hpre:∀i,i<j→nmG3 p i) {kk:MExit→St→Tree} (hkk:∀s,kk .ret s=Tree.done .ret s) :
  WT P0 (LoopQ (nmS3 p) (ForI p.decls.length (nmG3 p)) (forM p.decls.length) j fun e s=>WT P0 (EQ 2 m_check_search_name.res (.d (.bool R)) (sBs p)) (kk e s)) (exec nmB3 (nmS3 p j) Tree.done):=by
 have hD:=hp.decls
 have hdl:(p.decls.map decL).length=p.decls.length:=by simp
 have he:(p.decls.map decL)[(j:Int).toNat]? = some (decL p.decls[j]):=by simp [hj]
 have hG:¬(p.decls[j].kind<0∨3<p.decls[j].kind)→nmG3 p j:=fun h _=>h
 generalize p.decls[j]=x at *
 obtain ⟨xk,xn,xv⟩:=x
 simp only at hone hG
 first
  | (have he:(p.decls.map decL)[(j:Int).toNat]? = some [I xk,.str xn,I xv]:=he)
  | skip
 by_cases k0:xk<0
 ·rw [hone (.inl k0)]
  repeat (first|refine aw ?_|refine f1 ?_)
  refine WT_leaveE hkk (WT_eret 2 rfl rfl ?_)
  exact Uw.wM
 by_cases k3:3<xk
 ·rw [hone (.inr k3)]
  repeat (first|refine aw ?_|refine f1 ?_)
  refine WT_leaveE hkk (WT_eret 2 rfl rfl ?_)
  exact Uw.wM
 have hG1:=hG (by omega)
 repeat (first|refine aw ?_|refine f1 ?_)
 exact WT_next j hG1 (by exact Uw.wM)
set_option maxRecDepth 20000 in
set_option maxHeartbeats 4000000 in
theorem s_search_name (p:Pg) (hf:formedP p=true) (hp:Lim p):SatE P0 n_check_search_name [.agg (sCs p)] (sBs p) (.d (.bool (nameP p))) (sBs p):=by
 have hmn:=fn_get p sMain
 cases hm:funP p sMain with
 | none=>
  rw [name_main hm]
  rw [hm] at hmn
  have hmn:mget (fnE p.funs) (.s [109,97,105,110])=none:=hmn
  refine SatE_by is_check_search_name rfl ?_
  repeat (first|refine aw ?_|refine f1 ?_|refine m1 ?_)
  refine WT_eret 2 rfl rfl ?_
  exact Uw.wM
 | some i0=>
 rw [hm] at hmn
 have hmn:mget (fnE p.funs) (.s [109,97,105,110])=some (I (i0:Nat)):=hmn
 have hll:=localsP_len p
 have hF:=hp.funs
 have hN:=hp.nodes
 have hD:=hp.decls
 have hi0:i0<p.funs.length:=by
  rw [funP] at hm
  exact (List.findIdx?_eq_some_iff_getElem.1 hm).1
 have hnl:nL p=(localsP p).length:=by simp
 have hmk:(decide (((nL p:Nat):Int)=(nL p:Nat))&&decide ((0:Int)≤(nL p:Nat))&&decide ((((nL p:Nat):Nat):Int) * ((8:Nat):Int)≤70368744177664))=true:=by rw [hnl];simp;omega
 have hpi:(0:Int)<(nL p:Nat):=by omega
 have hndl:(p.nodes.map ndL).length=p.nodes.length:=by simp
 have hdl:(p.decls.map decL).length=p.decls.length:=by simp
 have h0:funP p sMain≠none:=by rw [hm];exact fun h=>by cases h
 have hone1:=fun j (h:j<p.nodes.length)=>name_node (p:=p) j h
 have hone2:=fun j (h:j<p.decls.length)=>name_decl (p:=p) j h
 have hall:=fun h1 h2=>name_all (p:=p) h0 h1 h2
 clear hm h0
 have hls:=locals_bound p hp
 have hSn:nmS1 p (nL p)=⟨(33,.d (I (nL p:Nat)))::(32,.d (I (nL p:Nat)))::(31,.d (strssD (localsP p)))::nmR p,naH p (nmV (localsP p).length) (famF (noL (localsP p).length) ((localsP p).map seenE)),1000000,[],2⟩:=by
  have e:(localsP p).take (nL p)=localsP p:=List.take_of_length_le (by omega)
  have e2:nmMv (nL p) (nL p - nL p)=nmV (localsP p).length:=by
   show _=mapsV mid 0 (noL (localsP p).length).length++_
   rw [Nat.sub_self,hnl,List.length_replicate]
  rw [nmS1,e,e2]
  rw [show noL (nL p)=noL (localsP p).length by rw [hnl]]
 have hS0:nmS2 p ((localsP p).map seenE) 0=⟨(59,.d (I ((0:Nat):Int)))::(58,.d (I ((p.nodes.map ndL).length:Nat)))::(57,.d (nodesD p.nodes))::nmR p,naH p (nmV (localsP p).length) (famF (noL (localsP p).length) ((localsP p).map seenE)),1000000,[],2⟩:=by
  rw [nmS2,nmR,hnl]
 have hnol:(noL (localsP p).length).length=(localsP p).length:=by simp
 have hms:((localsP p).map seenE).length=(noL (localsP p).length).length:=by simp
 have hnol2:(noL (localsP p).length).length<100000:=by omega
 generalize nameP p=R at *
 refine SatE_by is_check_search_name rfl ?_
 repeat (first|refine aw ?_|refine f1 ?_|refine m1 ?_)
 refine WT_for (nL p) (nmS1 p) (fun _=>True) ?_ (fun _=>?_) (fun j hj hpre=>?_)
 rotate_left 2
 ·exact name_round1 p hp hls j hj hpre
 ·refine na_same (ls:=noL 0) (ms:=[]) (r:=nL p - 0) rfl (by simp) ?_ rfl rfl rfl rfl (by (repeat refine over_cons ?_ rfl);exact over_refl)
  repeat' first|exact trivial|refine ⟨⟨_,rfl,?_⟩,?_⟩|exact VW_int (by first|with_reducible rfl|omega)|exact Or.inl ⟨rfl,rfl⟩
 rw [hSn]
 refine aw ?_
 refine WT_break ?_
 repeat (first|refine aw ?_|refine f1 ?_)
 refine WT_for p.nodes.length (nmS2 p ((localsP p).map seenE)) (nmG p) (wk_eq hS0 ?_) (fun g2=>?_) (fun j hj hpre=>?_)
 rotate_left 2
 ·exact name_round p hf hp R j hj (hone1 j hj) hpre _ rfl (fun s=>rfl)
 ·refine na_same (r:=0) hms hnol2 ?_ rfl rfl rfl rfl (by (repeat refine over_cons ?_ rfl);exact over_refl)
  repeat' first|exact trivial|refine ⟨⟨_,rfl,?_⟩,?_⟩|exact VW_int (by first|with_reducible rfl|omega)|exact Or.inl ⟨rfl,rfl⟩
 have hall:=hall fun j h=>g2 j h h
 refine aw ?_
 refine WT_break ?_
 repeat (first|refine aw ?_|refine f1 ?_)
 refine WT_for p.decls.length (nmS3 p) (nmG3 p) ?_ (fun g3=>?_) (fun j hj hpre=>?_)
 rotate_left 2
 ·exact name_round3 p hp R j hj (hone2 j hj) hpre (fun s=>rfl)
 ·exact Uw.wM
 rw [hall fun j h=>g3 j h h]
 refine aw ?_
 refine WT_break ?_
 repeat (first|refine aw ?_|refine f1 ?_)
 refine WT_eret 2 rfl rfl ?_
 exact Uw.wM
theorem s_check_Why (p:Pg) (hp:Lim p):Ret P0 n_check_Why [pgD p] (I (whyP p)):=why_of p hp fun hf=>s_search_name p hf hp
end Uw.Tryz
namespace Uw.Tryz
open Go Uw
set_option maxHeartbeats 1000000 in
theorem s_ref06_In (l:List Str) (s:Str) (hl:l.length<1000000000):Ret P0 n_ref06_In [strsC l,.str s] (.bool (decide (s∈l))):=by
 have hm:(l.map fun s=>[Dat.str s]).length=l.length:=by simp
 have hall:(∀(j:Nat) (h:j<l.length),¬l[j]=s)→decide (s∈l)=false:=fun h=>by
  rw [decide_eq_false]
  intro hm
  obtain ⟨j,hj,e⟩:=List.mem_iff_getElem.1 hm
  exact h j hj e
 have hone:∀(j:Nat) (h:j<l.length),l[j]=s→decide (s∈l)=true:=fun j h e=>by
  rw [decide_eq_true];exact e ▸ List.getElem_mem h
 have hel:∀(j:Nat) (h:j<l.length),(l.map fun s=>[Dat.str s])[(j:Int).toNat]? = some [.str l[j]]:=fun j h=>by simp [h]
 generalize decide (s∈l)=R at *
 refine Ret_by is_ref06_In rfl ?_
 repeat refine aw ?_
 refine WT_for l.length (fun j:Nat=>⟨[(5,.d (I j)),(0,.d (strsC l)),(1,.d (.str s))],[],0,[],0⟩) (fun j=>∀h:j<l.length,¬l[j]=s) (by exact Uw.wM) (fun g=>?_) (fun j hj _=>?_)
 ·rw [hall fun j h=>g j h h]
  refine aw ?_
  refine WT_break ?_
  exact WT_ret rfl rfl rfl rfl rfl
 have he:=hel j hj
 have hone:=hone j hj
 have hG:¬l[j]=s→(fun j=>∀h:j<l.length,¬l[j]=s) j:=fun h _=>h
 clear hall hel
 generalize l[j]=x at *
 by_cases q:x=s
 ·rw [hone q]
  repeat refine aw ?_
  exact WT_leave (WT_ret rfl rfl rfl rfl rfl)
 ·have hG1:=hG q
  repeat refine aw ?_
  exact WT_next j hG1 (by exact Uw.wM)
set_option maxHeartbeats 1000000 in
theorem s_ref06_Same (a b:List Str) (hl:a.length<1000000000) (hlb:b.length<1000000000):Ret P0 n_ref06_Same [strsC a,strsC b] (.bool (decide (a=b))):=by
 have hm:(a.map fun s=>[Dat.str s]).length=a.length:=by simp
 have hm2:(b.map fun s=>[Dat.str s]).length=b.length:=by simp
 by_cases hab:a.length=b.length
 rotate_left 1
 ·rw [decide_eq_false fun e=>hab (by rw [e])]
  have q:¬(((a.map fun s=>[Dat.str s]).length:Nat):Int)=((b.map fun s=>[Dat.str s]).length:Nat):=by omega
  refine Ret_by is_ref06_Same rfl ?_
  repeat refine aw ?_
  exact WT_ret rfl rfl rfl rfl rfl
 have q:(((a.map fun s=>[Dat.str s]).length:Nat):Int)=((b.map fun s=>[Dat.str s]).length:Nat):=by omega
 have hall:(∀(j:Nat) (h:j<a.length),a[j]=b[j]'(by omega))→decide (a=b)=true:=fun h=>by
  rw [decide_eq_true]
  exact List.ext_getElem hab fun j h1 h2=>h j h1
 have hone:∀(j:Nat) (h:j<a.length),¬a[j]=b[j]'(by omega)→decide (a=b)=false:=fun j h e=>by
  rw [decide_eq_false]
  intro hb;subst hb;exact e rfl
 have hel:∀(j:Nat) (h:j<a.length),(a.map fun s=>[Dat.str s])[(j:Int).toNat]? = some [.str a[j]]:=fun j h=>by simp [h]
 have hel2:∀(j:Nat) (h:j<a.length),(b.map fun s=>[Dat.str s])[(j:Int).toNat]? = some [.str (b[j]'(by omega))]:=fun j h=>by simp [show j<b.length by omega]
 generalize decide (a=b)=R at *
 refine Ret_by is_ref06_Same rfl ?_
 repeat refine aw ?_
 refine WT_for a.length (fun j:Nat=>⟨[(5,.d (I j)),(0,.d (strsC a)),(1,.d (strsC b))],[],0,[],0⟩) (fun j=>∀h:j<a.length,a[j]=b[j]'(by omega)) (by exact Uw.wM) (fun g=>?_) (fun j hj _=>?_)
 ·rw [hall fun j h=>g j h h]
  refine aw ?_
  refine WT_break ?_
  exact WT_ret rfl rfl rfl rfl rfl
 have he:=hel j hj
 have he2:=hel2 j hj
 have hone:=hone j hj
 have hG:a[j]=b[j]'(by omega)→(fun j=>∀h:j<a.length,a[j]=b[j]'(by omega)) j:=fun h _=>h
 have hjb:j<b.length:=by omega
 clear hall hel hel2
 generalize a[j]=x at *
 generalize b[j]=y at *
 by_cases q2:x=y
 ·have hG1:=hG q2
  repeat refine aw ?_
  exact WT_next j hG1 (by exact Uw.wM)
 ·rw [hone q2]
  repeat refine aw ?_
  exact WT_leave (WT_ret rfl rfl rfl rfl rfl)
def fewN (x:Nd):Bool:=decide (x.of.length≤30)&&decide (x.name.length≤40)&&decide (x.name2.length≤40)
def fewF (f:Fu):Bool:=decide (f.args.length≤30)&&decide (f.name.length≤40)
def fewP (p:Pg):Bool:=decide (p.nodes.length≤120)&&decide (p.funs.length≤30)&&decide (p.decls.length≤60)&&p.nodes.all fewN&&p.funs.all fewF
theorem few_lim {p:Pg} (h:fewP p=true):Lim p:=by
 simp only [fewP,Bool.and_eq_true,decide_eq_true_eq,List.all_eq_true] at h
 obtain ⟨⟨⟨⟨h1,h2⟩,h3⟩,h4⟩,h5⟩:=h
 refine ⟨by omega,by omega,by omega,fun x hx=>?_,fun f hf=>?_⟩
 ·have:=h4 x hx
  simp only [fewN,Bool.and_eq_true,decide_eq_true_eq] at this
  omega
 ·have:=h5 f hf
  simp only [fewF,Bool.and_eq_true,decide_eq_true_eq] at this
  omega
set_option maxRecDepth 4000 in
set_option maxHeartbeats 4000000 in
theorem s_ref06_Few (p:Pg):Ret P0 n_ref06_Few [pgD p] (.bool (fewP p)):=by
 have hnl:(p.nodes.map ndL).length=p.nodes.length:=by simp
 have hfl:(p.funs.map fuL).length=p.funs.length:=by simp
 have hdl:(p.decls.map decL).length=p.decls.length:=by simp
 by_cases c1:120<p.nodes.length
 ·have e:fewP p=false:=by simp [fewP];omega
  rw [e]
  have c1' : (120:Int)<((p.nodes.map ndL).length:Nat):=by omega
  refine Ret_by is_ref06_Few rfl ?_
  repeat refine aw ?_
  exact WT_ret rfl rfl rfl rfl rfl
 have c1' : ¬(120:Int)<((p.nodes.map ndL).length:Nat):=by omega
 by_cases c2:30<p.funs.length
 ·have e:fewP p=false:=by simp [fewP];omega
  rw [e]
  have c2' : (30:Int)<((p.funs.map fuL).length:Nat):=by omega
  refine Ret_by is_ref06_Few rfl ?_
  repeat refine aw ?_
  exact WT_ret rfl rfl rfl rfl rfl
 have c2' : ¬(30:Int)<((p.funs.map fuL).length:Nat):=by omega
 by_cases c3:60<p.decls.length
 ·have e:fewP p=false:=by simp [fewP];omega
  rw [e]
  have c3' : (60:Int)<((p.decls.map decL).length:Nat):=by omega
  refine Ret_by is_ref06_Few rfl ?_
  repeat refine aw ?_
  exact WT_ret rfl rfl rfl rfl rfl
 have c3' : ¬(60:Int)<((p.decls.map decL).length:Nat):=by omega
 have hall:(∀(j:Nat) (h:j<p.nodes.length),fewN p.nodes[j]=true)→(∀(j:Nat) (h:j<p.funs.length),fewF p.funs[j]=true)→fewP p=true:=fun h1 h2=>by
  simp only [fewP,Bool.and_eq_true,decide_eq_true_eq,List.all_eq_true]
  refine ⟨⟨⟨⟨by omega,by omega⟩,by omega⟩,fun x hx=>?_⟩,fun x hx=>?_⟩
  ·obtain ⟨j,hj,rfl⟩:=List.mem_iff_getElem.1 hx;exact h1 j hj
  ·obtain ⟨j,hj,rfl⟩:=List.mem_iff_getElem.1 hx;exact h2 j hj
 have hone1:∀(j:Nat) (h:j<p.nodes.length),fewN p.nodes[j]=false→fewP p=false:=fun j h e=>by
  have:p.nodes.all fewN=false:=List.all_eq_false.2 ⟨_,List.getElem_mem h,by rw [e];simp⟩
  simp [fewP,this]
 have hone2:∀(j:Nat) (h:j<p.funs.length),fewF p.funs[j]=false→fewP p=false:=fun j h e=>by
  have:p.funs.all fewF=false:=List.all_eq_false.2 ⟨_,List.getElem_mem h,by rw [e];simp⟩
  simp [fewP,this]
 have hel1:∀(j:Nat) (h:j<p.nodes.length),(p.nodes.map ndL)[(j:Int).toNat]? = some (ndL p.nodes[j]):=fun j h=>by simp [h]
 have hel2:∀(j:Nat) (h:j<p.funs.length),(p.funs.map fuL)[(j:Int).toNat]? = some (fuL p.funs[j]):=fun j h=>by simp [h]
 generalize fewP p=R at *
 refine Ret_by is_ref06_Few rfl ?_
 repeat refine aw ?_
 refine WT_for p.nodes.length (fun j:Nat=>⟨[(3,.d (I j)),(1,.ptr 0 0)],[(0,pgV p)],1,[],0⟩) (fun j=>∀h:j<p.nodes.length,fewN p.nodes[j]=true) (by exact Uw.wM) (fun g1=>?_) (fun j hj _=>?_)
 rotate_left 1
 ·have he:=hel1 j hj
  have hone:=hone1 j hj
  have hG:fewN p.nodes[j]=true→(fun j=>∀h:j<p.nodes.length,fewN p.nodes[j]=true) j:=fun h _=>h
  clear hall hel1 hel2 hone1 hone2
  generalize p.nodes[j]=x at *
  obtain ⟨xk,xn,xs,xt,xo⟩:=x
  have he:(p.nodes.map ndL)[(j:Int).toNat]? = some [I xk,I xn,.str xs,.str xt,.slice 1 (xo.map fun i=>[I i]) false]:=he
  have hol:(xo.map fun i=>[I i]).length=xo.length:=by simp
  by_cases d1:30<xo.length
  ·rw [hone (by simp [fewN];omega)]
   have d1' : (30:Int)<((xo.map fun i=>[I i]).length:Nat):=by omega
   repeat refine aw ?_
   exact WT_leave (WT_ret rfl rfl rfl rfl rfl)
  have d1' : ¬(30:Int)<((xo.map fun i=>[I i]).length:Nat):=by omega
  by_cases d2:40<xs.length
  ·rw [hone (by simp [fewN];omega)]
   have d2' : (40:Int)<(xs.length:Nat):=by omega
   repeat refine aw ?_
   exact WT_leave (WT_ret rfl rfl rfl rfl rfl)
  have d2' : ¬(40:Int)<(xs.length:Nat):=by omega
  by_cases d3:40<xt.length
  ·rw [hone (by simp [fewN];omega)]
   have d3' : (40:Int)<(xt.length:Nat):=by omega
   repeat refine aw ?_
   exact WT_leave (WT_ret rfl rfl rfl rfl rfl)
  have d3' : ¬(40:Int)<(xt.length:Nat):=by omega
  have hG1:=hG (by simp [fewN];omega)
  repeat refine aw ?_
  exact WT_next j hG1 (by exact Uw.wM)
 have hall:=hall fun j h=>g1 j h h
 refine aw ?_
 refine WT_break ?_
 repeat refine aw ?_
 refine WT_for p.funs.length (fun j:Nat=>⟨[(4,.d (I j)),(1,.ptr 0 0)],[(0,pgV p)],1,[],0⟩) (fun j=>∀h:j<p.funs.length,fewF p.funs[j]=true) (by exact Uw.wM) (fun g2=>?_) (fun j hj _=>?_)
 ·rw [hall fun j h=>g2 j h h]
  refine aw ?_
  refine WT_break ?_
  exact WT_ret rfl rfl rfl rfl rfl
 have he:=hel2 j hj
 have hone:=hone2 j hj
 have hG:fewF p.funs[j]=true→(fun j=>∀h:j<p.funs.length,fewF p.funs[j]=true) j:=fun h _=>h
 clear hall hel1 hel2 hone1 hone2
 generalize p.funs[j]=f at *
 obtain ⟨fn,fa,fb⟩:=f
 have he:(p.funs.map fuL)[(j:Int).toNat]? = some [.str fn,.slice 1 (fa.map fun s=>[Dat.str s]) false,I fb]:=he
 have hal:(fa.map fun s=>[Dat.str s]).length=fa.length:=by simp
 by_cases d1:30<fa.length
 ·rw [hone (by simp [fewF];omega)]
  have d1' : (30:Int)<((fa.map fun s=>[Dat.str s]).length:Nat):=by omega
  repeat refine aw ?_
  exact WT_leave (WT_ret rfl rfl rfl rfl rfl)
 have d1' : ¬(30:Int)<((fa.map fun s=>[Dat.str s]).length:Nat):=by omega
 by_cases d2:40<fn.length
 ·rw [hone (by simp [fewF];omega)]
  have d2' : (40:Int)<(fn.length:Nat):=by omega
  repeat refine aw ?_
  exact WT_leave (WT_ret rfl rfl rfl rfl rfl)
 have d2' : ¬(40:Int)<(fn.length:Nat):=by omega
 have hG1:=hG (by simp [fewF];omega)
 repeat refine aw ?_
 exact WT_next j hG1 (by exact Uw.wM)
def funI (p:Pg) (s:Str):Int:=match funP p s with|some i=>((i:Nat):Int)|none=>-1
theorem funP_at {p:Pg} {s:Str} (j:Nat) (h:j<p.funs.length) (hn:p.funs[j].name=s) (hb:∀i,(hi:i<j)→¬p.funs[i].name=s):funP p s=some j:=by
 refine List.findIdx?_eq_some_iff_getElem.2 ⟨h,by simpa using hn,fun i hi hh=>?_⟩
 exact hb i hi (by simpa using hh)
theorem funP_none {p:Pg} {s:Str} (h:∀(j:Nat) (h:j<p.funs.length),¬p.funs[j].name=s):funP p s=none:=by
 rw [funP,List.findIdx?_eq_none_iff]
 intro f hf
 obtain ⟨j,hj,rfl⟩:=List.mem_iff_getElem.1 hf
 simpa using h j hj
set_option maxHeartbeats 2000000 in
theorem s_law06_fun (p:Pg) (s:Str) (hp:p.funs.length<1000000):Ret P0 n_law06_fun [pgD p,.str s] (I (funI p s)):=by
 have hfl:(p.funs.map fuL).length=p.funs.length:=by simp
 have hall:(∀(j:Nat) (h:j<p.funs.length),¬p.funs[j].name=s)→funI p s = -1:=fun h=>by rw [funI,funP_none h]
 have hone:∀(j:Nat) (h:j<p.funs.length),(∀i,i<j→∀h:i<p.funs.length,¬p.funs[i].name=s)→p.funs[j].name=s→funI p s=(j:Nat):=fun j h hb e=>by
  rw [funI,funP_at j h e fun i hi=>hb i hi (by omega)]
 have hel:∀(j:Nat) (h:j<p.funs.length),(p.funs.map fuL)[(j:Int).toNat]? = some (fuL p.funs[j]):=fun j h=>by simp [h]
 generalize funI p s=R at *
 refine Ret_by is_law06_fun rfl ?_
 repeat refine aw ?_
 refine WT_for p.funs.length (fun j:Nat=>⟨[(5,.d (I j)),(1,.d (.str s)),(2,.ptr 0 0)],[(0,pgV p)],1,[],0⟩) (fun j=>∀h:j<p.funs.length,¬p.funs[j].name=s) (by exact Uw.wM) (fun g=>?_) (fun j hj hpre=>?_)
 ·rw [hall fun j h=>g j h h]
  refine aw ?_
  refine WT_break ?_
  exact WT_ret rfl rfl rfl rfl rfl
 have he:=hel j hj
 have hone:=hone j hj hpre
 have hG:¬p.funs[j].name=s→(fun j=>∀h:j<p.funs.length,¬p.funs[j].name=s) j:=fun h _=>h
 clear hall hel
 generalize p.funs[j]=f at *
 obtain ⟨fn,fa,fb⟩:=f
 have he:(p.funs.map fuL)[(j:Int).toNat]? = some [.str fn,strsC fa,I fb]:=he
 simp only at hone hG
 by_cases q:fn=s
 ·rw [hone q]
  repeat refine aw ?_
  exact WT_leave (WT_ret rfl rfl rfl rfl rfl)
 ·have hG1:=hG q
  repeat refine aw ?_
  exact WT_next j hG1 (by exact Uw.wM)
end Uw.Tryz
