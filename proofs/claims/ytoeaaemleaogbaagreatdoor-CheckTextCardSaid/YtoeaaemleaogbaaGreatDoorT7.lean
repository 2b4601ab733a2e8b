/- T7: Dd De Df Eg Eh Dg Dh Di (merged by merge2.py from the working texts). -/
import Derived.Test.YtoeaaemleaogbaaGreatDoorT6
import Derived.Test.YtoeaaemleaogbaaGreatDoorT5
set_option linter.unusedSimpArgs false
set_option linter.unnecessarySimpa false
set_option linter.unusedVariables false
set_option linter.unusedSectionVars false
namespace Uw.Tryz
open Go Uw
def nmB2:MCode:=qL (qL (qR (qL (qR (qR (qR (qR m_check_search_name.code)))))))
abbrev noL (n:Nat):List (List Str):=List.replicate n []
abbrev nmV (n:Nat):List V:=mapsV mid 0 (noL n).length++List.replicate 0 (.d .nilMap)
abbrev nmS2 (p:Pg) (ms:List MS) (k:Nat):St:=⟨[(59,.d (I k)),(58,.d (I ((p.nodes.map ndL).length:Nat))),(57,.d (nodesD p.nodes)),(5,.row 3 (localsP p).length),(1,.ptr 2 0)],naH p (nmV (localsP p).length) (famF (noL (localsP p).length) ms),1000000,[],2⟩
abbrev nmG (p:Pg) (k:Nat):Prop:=∀h:k<p.nodes.length,nameN p p.nodes[k] ((ownersP p).getD k 0)=false
set_option maxRecDepth 8000 in
set_option maxHeartbeats 4000000 in
theorem name_round (p:Pg) (hf:formedP p=true) (hp:Lim p) (R:Bool) (j:Nat) (hj:j<p.nodes.length) (hone:nameN p p.nodes[j] ((ownersP p).getD j 0)=true→R=true) (hpre:∀i,i<j→nmG p i) (ms:List MS) (hms:ms=(localsP p).map seenE) {kk:MExit→St→Tree} (hkk:∀s,kk .ret s=Tree.done .ret s) :
  WT P0 (LoopQ (nmS2 p ms) (ForI p.nodes.length (nmG p)) (forM p.nodes.length) j fun e s=>WT P0 (EQ 2 m_check_search_name.res (.d (.bool R)) (sBs p)) (kk e s)) (exec nmB2 (nmS2 p ms j) Tree.done):=by
 have hN:=hp.nodes
 have hF:=hp.funs
 have hnl:(p.nodes.map ndL).length=p.nodes.length:=by simp
 have hll:=localsP_len p
 have hnol:(noL (localsP p).length).length=(localsP p).length:=by simp
 have hnol2:(noL (localsP p).length).length<100000:=by omega
 have hmsl:ms.length=(noL (localsP p).length).length:=by rw [hms];simp
 have hvl:(nmV (localsP p).length).length=(localsP p).length:=by rw [List.length_append,mapsV_len];simp
 have hown:=own_in hf _ j hj (Nat.le_refl _)
 have hol:((ownersP p).map fun i=>[I i]).length=p.nodes.length:=by rw [List.length_map,ownersP_len]
 have hoe:((ownersP p).map fun i=>[I i])[(j:Int).toNat]? = some [I ((ownersP p).getD j 0)]:=by
  have h2:j<(ownersP p).length:=by rw [ownersP_len];exact hj
  simp [List.getD,h2]
 have he:(p.nodes.map ndL)[(j:Int).toNat]? = some (ndL p.nodes[j]):=by simp [hj]
 have hth:=th_get p p.nodes[j].name
 have hfn:=fn_get p p.nodes[j].name2
 have hG:nameN p p.nodes[j] ((ownersP p).getD j 0)=false→nmG p j:=fun h _=>h
 have hd:∀x o,nameN p x o=(if x.kind=10∨x.kind=11 then (funP p x.name2).isNone else if x.kind=8 then (thingP p x.name).isNone else if x.kind=2 then (thingP p x.name).isNone&&!decide (x.name∈(localsP p).getD o.toNat []) else false):=fun x o=>rfl
 rw [hd] at hone hG
 clear hd
 generalize (ownersP p).getD j 0=o at *
 generalize p.nodes[j]=x at *
 obtain ⟨xk,xn,xs,xt,xo⟩:=x
 have he:(p.nodes.map ndL)[(j:Int).toNat]? = some [I xk,I xn,.str xs,.str xt,intsD xo]:=he
 simp only at hone hG hth hfn
 obtain ⟨l,hl⟩:∃l,(localsP p)[o.toNat]? = some l:=⟨(localsP p)[o.toNat]'(by omega),by simp⟩
 have hld:(localsP p).getD o.toNat []=l:=by rw [List.getD,hl];rfl
 rw [hld] at hone hG
 have hmg:(nmV (localsP p).length)[o.toNat * 1]? = some (.hnd (mid o.toNat)):=by
  rw [Nat.mul_one,List.getElem?_append_left (by rw [mapsV_len];omega),mapsV_get mid _ 0 _ (by omega),Nat.zero_add]
 have hlk:∀H,Over (famF (noL (localsP p).length) ms) H→look H (mid o.toNat)=some (.map none (seenE l)):=fun H ho=>by
  rw [ho _ (by simp only [mid];omega) (by simp only [mid];omega)]
  have:=fam_mid (famI (noL (localsP p).length).length) (ls:=noL (localsP p).length) (ms:=ms) (i:=0) (k:=o.toNat) (m:=seenE l) (by omega) (by omega) (by rw [hms];simp [hl])
  rwa [Nat.zero_add] at this
 have hsg:=seenE_get l xs
 have hskip:∀(Rg:Regs) (H:Heap) (nx:Nat),look H 2=some (.var (sCs p))→look H 3=some (.var (nmV (localsP p).length))→look H 0=some (.map none (thE p.decls))→look H 1=some (.map none (fnE p.funs))→Over (famF (noL (localsP p).length) ms) H→
   (∀mv fam,subR (renF []) Rg H (naH p mv fam) [(59,.d (I ((j+1:Nat):Int))),(58,.d (I ((p.nodes.map ndL).length:Nat))),(57,.d (nodesD p.nodes)),(5,.row 3 (localsP p).length),(1,.ptr 2 0)])→Weak ⟨Rg,H,nx,[],2⟩ (nmS2 p ms (j+1)):=by
  intro Rg H nx e2 e3 e0 e1 ho hR
  exact na_same hmsl hnol2 (hR _ _) e2 e3 e0 e1 ho
 have hend:∀st:St,st.defers=[]→st.base=2→resV st m_check_search_name.res=some [.d (.bool true)]→look st.heap 0=some (.map none (thE p.decls))→look st.heap 1=some (.map none (fnE p.funs))→EQ 2 m_check_search_name.res (.d (.bool true)) (sBs p) .ret st:=by
  intro st h1 _ h3 h4 h5
  refine ⟨.inr rfl,h1,_,h3,?_⟩
  refine Weak.looks ⟨⟨_,rfl,.inl ⟨rfl,rfl⟩⟩,trivial⟩ ?_ (by show 2≤2;omega) (fun id h _=>?_)
  ·intro id y hy
   have:(id=0∧y = .map none (thE p.decls))∨(id=1∧y = .map none (fnE p.funs)):=by
    have hy:look [(0,Blk.map none (thE p.decls)),(1,Blk.map none (fnE p.funs))] id=some y:=hy
    rw [look_cons] at hy
    by_cases h0:0=id
    ·rw [if_pos h0] at hy;injection hy with hy;exact .inl ⟨h0.symm,hy.symm⟩
    rw [if_neg h0,look_cons] at hy
    by_cases h0:1=id
    ·rw [if_pos h0] at hy;injection hy with hy;exact .inr ⟨h0.symm,hy.symm⟩
    rw [if_neg h0] at hy;cases hy
   rcases this with ⟨rfl,rfl⟩|⟨rfl,rfl⟩
   ·exact ⟨h4,rfl,by show 0<2;omega⟩
   ·exact ⟨h5,rfl,by show 1<2;omega⟩
  ·rcases (show id=0∨id=1 by omega) with rfl|rfl<;>rfl
 have hT:(thingP p xs=none∧mget (thE p.decls) (.s xs)=none)∨∃kd,thingP p xs=some kd∧mget (thE p.decls) (.s xs)=some (I kd):=by
  rw [hth]
  cases thingP p xs with
  | none=>exact .inl ⟨rfl,rfl⟩
  | some kd=>exact .inr ⟨kd,rfl,rfl⟩
 have hU:(funP p xt=none∧mget (fnE p.funs) (.s xt)=none)∨∃i:Nat,funP p xt=some i∧mget (fnE p.funs) (.s xt)=some (I i):=by
  rw [hfn]
  cases funP p xt with
  | none=>exact .inl ⟨rfl,rfl⟩
  | some i=>exact .inr ⟨i,rfl,rfl⟩
 clear hth hfn
 by_cases k1:xk=10∨xk=11
 ·rcases hU with ⟨u1,u2⟩|⟨i,u1,u2⟩
  ·rw [hone (by rw [if_pos k1,u1];rfl)]
   rcases k1 with rfl|rfl<;>rcases hT with ⟨_,t2⟩|⟨kd,_,t2⟩
   all_goals repeat (first|refine aw ?_|refine f1 ?_|refine m1 ?_)
   all_goals exact WT_leaveE hkk (hend _ rfl rfl rfl rfl rfl)
  ·have hG1:=hG (by rw [if_pos k1,u1];rfl)
   rcases k1 with rfl|rfl<;>rcases hT with ⟨_,t2⟩|⟨kd,_,t2⟩
   all_goals repeat (first|refine aw ?_|refine f1 ?_|refine m1 ?_)
   all_goals refine WT_next j hG1 (hskip _ _ _ rfl rfl rfl rfl (by (repeat refine over_cons ?_ rfl);exact over_refl) (fun mv fam=>?_))
   all_goals (repeat' first|exact trivial|refine ⟨⟨_,rfl,?_⟩,?_⟩|exact VW_int (by first|with_reducible rfl|omega)|exact Or.inl ⟨rfl,rfl⟩)
 obtain ⟨k10,k11⟩:xk≠10∧xk≠11:=by omega
 by_cases k8:xk=8
 ·rcases hT with ⟨t1,t2⟩|⟨kd,t1,t2⟩
  ·rw [hone (by rw [if_neg k1,if_pos k8,t1];rfl)]
   subst k8
   rcases hU with ⟨_,u2⟩|⟨i,_,u2⟩
   all_goals repeat (first|refine aw ?_|refine f1 ?_|refine m1 ?_)
   all_goals exact WT_leaveE hkk (hend _ rfl rfl rfl rfl rfl)
  ·have hG1:=hG (by rw [if_neg k1,if_pos k8,t1];rfl)
   subst k8
   rcases hU with ⟨_,u2⟩|⟨i,_,u2⟩
   all_goals repeat (first|refine aw ?_|refine f1 ?_|refine m1 ?_)
   all_goals refine WT_next j hG1 (hskip _ _ _ rfl rfl rfl rfl (by (repeat refine over_cons ?_ rfl);exact over_refl) (fun mv fam=>?_))
   all_goals (repeat' first|exact trivial|refine ⟨⟨_,rfl,?_⟩,?_⟩|exact VW_int (by first|with_reducible rfl|omega)|exact Or.inl ⟨rfl,rfl⟩)
 by_cases k2:xk=2
 ·rcases hT with ⟨t1,t2⟩|⟨kd,t1,t2⟩
  ·by_cases hin:xs∈l
   ·rw [if_pos hin] at hsg
    have hG1:=hG (by rw [if_neg k1,if_neg k8,if_pos k2,t1];simp [hin])
    subst k2
    rcases hU with ⟨_,u2⟩|⟨i,_,u2⟩
    all_goals repeat (first|refine aw ?_|refine f1 ?_|refine m1 ?_)
    all_goals refine WT_blk _ (hlk _ (by (repeat refine over_cons ?_ rfl);exact over_refl)) ?_
    all_goals repeat (first|refine aw ?_|refine f1 ?_|refine m1 ?_)
    all_goals refine WT_next j hG1 (hskip _ _ _ rfl rfl rfl rfl (by (repeat refine over_cons ?_ rfl);exact over_refl) (fun mv fam=>?_))
    all_goals (repeat' first|exact trivial|refine ⟨⟨_,rfl,?_⟩,?_⟩|exact VW_int (by first|with_reducible rfl|omega)|exact Or.inl ⟨rfl,rfl⟩)
   ·rw [if_neg hin] at hsg
    rw [hone (by rw [if_neg k1,if_neg k8,if_pos k2,t1];simp [hin])]
    subst k2
    rcases hU with ⟨_,u2⟩|⟨i,_,u2⟩
    all_goals repeat (first|refine aw ?_|refine f1 ?_|refine m1 ?_)
    all_goals refine WT_blk _ (hlk _ (by (repeat refine over_cons ?_ rfl);exact over_refl)) ?_
    all_goals repeat (first|refine aw ?_|refine f1 ?_|refine m1 ?_)
    all_goals exact WT_leaveE hkk (hend _ rfl rfl rfl rfl rfl)
  ·have hG1:=hG (by rw [if_neg k1,if_neg k8,if_pos k2,t1];rfl)
   subst k2
   rcases hU with ⟨_,u2⟩|⟨i,_,u2⟩
   all_goals repeat (first|refine aw ?_|refine f1 ?_|refine m1 ?_)
   all_goals refine WT_next j hG1 (hskip _ _ _ rfl rfl rfl rfl (by (repeat refine over_cons ?_ rfl);exact over_refl) (fun mv fam=>?_))
   all_goals (repeat' first|exact trivial|refine ⟨⟨_,rfl,?_⟩,?_⟩|exact VW_int (by first|with_reducible rfl|omega)|exact Or.inl ⟨rfl,rfl⟩)
 have hG1:=hG (by rw [if_neg k1,if_neg k8,if_neg k2])
 rcases hU with ⟨_,u2⟩|⟨i,_,u2⟩<;>rcases hT with ⟨_,t2⟩|⟨kd,_,t2⟩
 all_goals repeat (first|refine aw ?_|refine f1 ?_|refine m1 ?_)
 all_goals refine WT_next j hG1 (hskip _ _ _ rfl rfl rfl rfl (by (repeat refine over_cons ?_ rfl);exact over_refl) (fun mv fam=>?_))
 all_goals (repeat' first|exact trivial|refine ⟨⟨_,rfl,?_⟩,?_⟩|exact VW_int (by first|with_reducible rfl|omega)|exact Or.inl ⟨rfl,rfl⟩)
end Uw.Tryz
namespace Uw
open Go
theorem Weak.looksB [Glob] (ρ:Nat→Nat) {R R' : Regs} {H H' : Heap} {n n' b:Nat} (h1:subR ρ R H H' R') (h2:∀id x,look H' id=some x→(∃y,look H (ρ id)=some y∧BSim ρ H H' y x)∧id<n')
  (h3:∀id id',(look H' id).isSome=true→(look H' id').isSome=true→ρ id=ρ id'→id=id') (hb:∀id,id<b→ρ id=id∧((look H id).isSome=true→(look H' id).isSome=true)) (hn:b≤n'):Weak ⟨R,H,n,[],b⟩ ⟨R',H',n',[],b⟩:=
 ⟨ρ,fun i v h=>subR_look h1 i v h,fun i x h=>.inl (h2 i x h).1,fun i x h=>(h2 i x h).2,rfl,hn,hb,h3,rfl,rfl⟩
end Uw
namespace Uw.Tryz
open Go Uw
def rhoM (j b:Nat) (id:Nat):Nat:=if id=mid j then b else id
theorem na_next {p:Pg} {k:Nat} {ms:List MS} {m:MS} {R R' : Regs} {H:Heap} {r n b:Nat} {mv' : List V} (hms:ms.length=k) (hl:k<100000) (hb:1000000≤b)
  (h1:subR (rhoM k b) R H (naH p (mapsV mid 0 (k+1)++List.replicate r (.d .nilMap)) (famF (noL (k+1)) (ms++[m]))) R')
  (e2:look H 2=some (.var (sCs p))) (e3:look H 3=some (.var mv')) (hmv:mv' = mapsV mid 0 k++[.hnd b]++List.replicate r (.d .nilMap))
  (e0:look H 0=some (.map none (thE p.decls))) (e1:look H 1=some (.map none (fnE p.funs))) (eb:look H b=some (.map none m)) (ho:Over (famF (noL k) ms) H) :
  Weak ⟨R,H,n,[],2⟩ ⟨R',naH p (mapsV mid 0 (k+1)++List.replicate r (.d .nilMap)) (famF (noL (k+1)) (ms++[m])),1000000,[],2⟩:=by
 subst hmv
 have hlow:∀i,i<4→rhoM k b i=i:=fun i h=>by unfold rhoM;rw [if_neg (by simp only [mid];omega)]
 have hm:∀i,i<k→rhoM k b (mid i)=mid i:=fun i h=>by unfold rhoM;rw [if_neg (by simp only [mid];omega)]
 have hmk:rhoM k b (mid k)=b:=by unfold rhoM;rw [if_pos rfl]
 have hnk:(noL k).length=k:=by simp
 have hlen:(noL (k+1)).length=k+1:=by simp
 have bd:∀i x,look (naH p (mapsV mid 0 (k+1)++List.replicate r (.d .nilMap)) (famF (noL (k+1)) (ms++[m]))) i=some x→i<1000000:=by
  intro i x hx
  rcases naH_inv hx with ⟨rfl,rfl⟩|⟨rfl,rfl⟩|⟨rfl,rfl⟩|⟨rfl,rfl⟩|hx
  ·omega
  ·omega
  ·omega
  ·omega
  ·have:=(famF_inv hx).2.1
   rw [hlen] at this;omega
 refine Weak.looksB (rhoM k b) h1 ?_ ?_ (fun id h=>⟨hlow id (by omega),fun _=>?_⟩) (by omega)
 ·intro id x hx
  refine ⟨?_,bd id x hx⟩
  rcases naH_inv hx with ⟨rfl,rfl⟩|⟨rfl,rfl⟩|⟨rfl,rfl⟩|⟨rfl,rfl⟩|hx
  ·exact ⟨_,by rw [hlow 2 (by omega)];exact e2,BSim_by (by show Blk.var _=Blk.var (renL _ _);simp [renL,V.ren,hlow 0,hlow 1]) rfl⟩
  ·refine ⟨_,by rw [hlow 3 (by omega)];exact e3,BSim_by ?_ (na_closed (by simp [hms]) hlen.symm)⟩
   show _=Blk.var (renL _ _)
   have hc:mapsV (fun i=>rhoM k b (mid i)) 0 k=mapsV mid 0 k:=mapsV_congr k 0 fun i hi=>by simp only [Nat.zero_add];exact hm i hi
   rw [renL_app,renL_rep,renL_maps,mapsV_snoc,hc]
   simp only [Nat.zero_add]
   rw [hmk]
  ·exact ⟨_,by rw [hlow 0 (by omega)];exact e0,BSim_by rfl rfl⟩
  ·exact ⟨_,by rw [hlow 1 (by omega)];exact e1,BSim_by rfl rfl⟩
  ·obtain ⟨g1,g2,g3,g4⟩:=famF_inv hx
   refine ⟨x,?_,BSim_by (g4 _).symm (g3 _)⟩
   rcases fam_inv hx with ⟨i,m',k1,k2,k3,rfl,rfl⟩|⟨i,l',k1,k2,k3,k4,rfl,rfl⟩
   ·rw [Nat.zero_add]
    rw [hlen] at k1
    by_cases hi:i<k
    ·rw [hm i hi,ho _ (by simp only [mid];omega) (by simp only [mid];omega)]
     have:=fam_mid (famI (noL k).length) (ls:=noL k) (ms:=ms) (i:=0) (k:=i) (m:=m') (by omega) (by omega) (by rwa [List.getElem?_append_left (by omega)] at k3)
     rwa [Nat.zero_add] at this
    ·obtain rfl:i=k:=by omega
     rw [List.getElem?_append_right (by omega),hms,Nat.sub_self] at k3
     injection k3 with k3
     rw [hmk,← k3];exact eb
   ·exfalso
    have:=List.mem_of_getElem? k3
    rw [List.mem_replicate] at this
    exact k4 this.2
 ·intro id id' h h' he
  obtain ⟨x,hx⟩:=Option.isSome_iff_exists.1 h
  obtain ⟨x',hx'⟩:=Option.isSome_iff_exists.1 h'
  have b1:=bd id x hx
  have b2:=bd id' x' hx'
  unfold rhoM at he
  split at he<;>split at he<;>omega
 ·rcases (show id=0∨id=1 by omega) with rfl|rfl<;>rfl
end Uw.Tryz
namespace Uw.Tryz
open Go Uw
theorem name_main {p:Pg} (h:funP p sMain=none):nameP p=true:=by rw [nameP,h];rfl
theorem name_node {p:Pg} (j:Nat) (h:j<p.nodes.length) (hn:nameN p p.nodes[j] ((ownersP p).getD j 0)=true):nameP p=true:=by
 have h2:j<(ownersP p).length:=by rw [ownersP_len];exact h
 have hz:j<(p.nodes.zip (ownersP p)).length:=by rw [List.length_zip];omega
 have:((p.nodes.zip (ownersP p)).any fun y=>nameN p y.1 y.2)=true:=List.any_eq_true.2 ⟨_,List.getElem_mem hz,by
  rw [List.getElem_zip]
  simpa [List.getD,h2] using hn⟩
 rw [nameP,this];simp
theorem name_decl {p:Pg} (j:Nat) (h:j<p.decls.length) (hk:p.decls[j].kind<0∨3<p.decls[j].kind):nameP p=true:=by
 have:(p.decls.any fun d=>decide (d.kind<0)||decide (3<d.kind))=true:=List.any_eq_true.2 ⟨_,List.getElem_mem h,by simpa using hk⟩
 rw [nameP,this];simp
theorem name_all {p:Pg} (h0:funP p sMain≠none) (h1:∀(j:Nat) (h:j<p.nodes.length),nameN p p.nodes[j] ((ownersP p).getD j 0)=false) (h2:∀(j:Nat) (h:j<p.decls.length),¬(p.decls[j].kind<0∨3<p.decls[j].kind)):nameP p=false:=by
 have e1:((p.nodes.zip (ownersP p)).any fun y=>nameN p y.1 y.2)=false:=List.any_eq_false.2 fun y hy=>by
  obtain ⟨j,hj,rfl⟩:=List.mem_iff_getElem.1 hy
  rw [List.length_zip] at hj
  have hj1:j<p.nodes.length:=by omega
  have hj2:j<(ownersP p).length:=by omega
  have:=h1 j hj1
  rw [List.getElem_zip]
  simpa [List.getD,hj2] using this
 have e2:(p.decls.any fun d=>decide (d.kind<0)||decide (3<d.kind))=false:=List.any_eq_false.2 fun d hd=>by
  obtain ⟨j,hj,rfl⟩:=List.mem_iff_getElem.1 hd
  have:=h2 j hj
  simpa using this
 rw [nameP,e1,e2]
 cases h:funP p sMain with
 | none=>exact absurd h h0
 | some i=>rfl
end Uw.Tryz
namespace Uw.Tryz
open Go Uw
theorem funI_none {p:Pg} {s:Str} (h:funP p s=none):funI p s = -1:=by rw [funI,h]
theorem funI_some' {p:Pg} {s:Str} {i:Nat} (h:funP p s=some i):funI p s=(i:Nat):=by rw [funI,h]
theorem nameP_no {p:Pg} (hn:nameP p=false) (j:Nat) (h:j<p.nodes.length):nameN p p.nodes[j] ((ownersP p).getD j 0)=false:=by
 cases hx:nameN p p.nodes[j] ((ownersP p).getD j 0) with
 | false=>rfl
 | true=>rw [name_node j h hx] at hn;cases hn
theorem sortP_no {p:Pg} (hn:sortP p=false) (j:Nat) (h:j<p.nodes.length):sortN p p.nodes[j]=false:=by
 have:=List.any_eq_false.1 hn _ (List.getElem_mem h)
 simpa using this
theorem count_cases (p:Pg) (x:Nd) (o:Int) (hn:nameN p x o=false) (hs:sortN p x=false):∃B:Bool,manyN p x=B∧
  ((x.kind=10∧∃k,∃hk:k<p.funs.length,funP p x.name2=some k∧((p.funs[k].args.length=x.of.length∧B=false)∨(p.funs[k].args.length≠x.of.length∧B=true)))∨
    (x.kind=11∧∃k,∃hk:k<p.funs.length,funP p x.name2=some k∧((p.funs[k].args.length=1∧B=false)∨(p.funs[k].args.length≠1∧B=true)))∨
    (x.kind=8∧∃k c,thingP p x.name=some k∧needsP k x.name2=some c∧((c=(x.of.length:Nat)∧B=false)∨(c≠(x.of.length:Nat)∧B=true)))∨
    (x.kind≠10∧x.kind≠11∧x.kind≠8∧B=false)):=by
 refine ⟨manyN p x,rfl,?_⟩
 unfold manyN
 by_cases h1:x.kind=10∨x.kind=11
 ·rw [nameN,if_pos h1] at hn
  cases hf:funP p x.name2 with
  | none=>rw [hf] at hn;cases hn
  | some k=>
   obtain ⟨hk,_⟩:=funP_some hf
   have ha:argsAt p x.name2=p.funs[k].args.length:=by rw [argsAt,hf];simp [List.getD,hk]
   rcases h1 with h1|h1
   ·rw [if_pos h1,ha]
    refine .inl ⟨h1,k,hk,rfl,?_⟩
    by_cases e:p.funs[k].args.length=x.of.length
    ·exact .inl ⟨e,by simp [e]⟩
    ·exact .inr ⟨e,by simp [Ne.symm e]⟩
   ·rw [if_neg (by omega),if_pos h1,ha]
    refine .inr (.inl ⟨h1,k,hk,rfl,?_⟩)
    by_cases e:p.funs[k].args.length=1
    ·exact .inl ⟨e,by simp [e]⟩
    ·exact .inr ⟨e,by simp [e]⟩
 rw [if_neg (by omega),if_neg (by omega)]
 by_cases h3:x.kind=8
 ·rw [if_pos h3]
  rw [nameN,if_neg h1,if_pos h3] at hn
  rw [sortN,if_neg (by omega),if_neg h1,if_pos h3] at hs
  cases ht:thingP p x.name with
  | none=>rw [ht] at hn;cases hn
  | some k=>
   rw [ht] at hs
   simp only [Option.getD_some] at hs ⊢
   obtain ⟨c,hq⟩:∃c,needsP k x.name2=some c:=Option.isSome_iff_exists.1 (by
    cases h:needsP k x.name2 with
    | none=>rw [h] at hs;cases hs
    | some c=>rfl)
   refine .inr (.inr (.inl ⟨h3,k,c,rfl,hq,?_⟩))
   by_cases e:c=(x.of.length:Nat)
   ·exact .inl ⟨e,by simp [hq,e]⟩
   ·exact .inr ⟨e,by simp [hq,Ne.symm e]⟩
 ·rw [if_neg h3]
  exact .inr (.inr (.inr ⟨by omega,by omega,h3,rfl⟩))
set_option maxRecDepth 4000 in
set_option maxHeartbeats 8000000 in
theorem s_ref06_counts (p:Pg) (hp:Lim p) (hn:nameP p=false) (hs:sortP p=false):Ret P0 n_ref06_counts [pgD p] (.bool (!manyP p)):=by
 have hN:=hp.nodes
 have hF:=hp.funs
 have hnl:(p.nodes.map ndL).length=p.nodes.length:=by simp
 have hfl:(p.funs.map fuL).length=p.funs.length:=by simp
 have hmain:funP p sMain≠none:=fun h=>by rw [name_main h] at hn;cases hn
 obtain ⟨m,hm⟩:=Option.ne_none_iff_exists'.1 hmain
 obtain ⟨hml,_⟩:=funP_some hm
 have ha:argsAt p sMain=p.funs[m].args.length:=by rw [argsAt,hm];simp [List.getD,hml]
 have hfun:=s_ref06_fun p sMain (by omega)
 rw [funI_some' hm] at hfun
 have hfun:Ret P0 n_ref06_fun [pgD p,.str [109,97,105,110]] (I (m:Nat)):=hfun
 have hem:(p.funs.map fuL)[((m:Nat):Int).toNat]? = some (fuL p.funs[m]):=by simp [hml]
 have hR0:0<p.funs[m].args.length→(!manyP p)=false:=fun h=>by rw [manyP,ha,decide_eq_true h];rfl
 have hall:¬0<p.funs[m].args.length→(∀(j:Nat) (h:j<p.nodes.length),manyN p p.nodes[j]=false)→(!manyP p)=true:=fun h0 h=>by
  rw [manyP,ha,decide_eq_false h0,List.any_eq_false.2];rfl
  intro x hx
  obtain ⟨j,hj,rfl⟩:=List.mem_iff_getElem.1 hx
  rw [h j hj];simp
 have hone:∀(j:Nat) (h:j<p.nodes.length),manyN p p.nodes[j]=true→(!manyP p)=false:=fun j h e=>by
  rw [manyP,List.any_eq_true.2 ⟨_,List.getElem_mem h,e⟩,Bool.or_true];rfl
 have hel1:∀(j:Nat) (h:j<p.nodes.length),(p.nodes.map ndL)[(j:Int).toNat]? = some (ndL p.nodes[j]):=fun j h=>by simp [h]
 have hcs:=fun (j:Nat) (h:j<p.nodes.length)=>count_cases p p.nodes[j] _ (nameP_no hn j h) (sortP_no hs j h)
 clear hm ha hmain hn hs
 generalize (!manyP p)=R at *
 generalize p.funs[m]=f at *
 obtain ⟨fn,fa,fb⟩:=f
 have hem:(p.funs.map fuL)[((m:Nat):Int).toNat]? = some [.str fn,.slice 1 (fa.map fun s=>[Dat.str s]) false,I fb]:=hem
 simp only at hR0 hall
 have hal:(fa.map fun s=>[Dat.str s]).length=fa.length:=by simp
 by_cases q0:0<fa.length
 ·rw [hR0 q0]
  have q1:(0:Int)<((fa.map fun s=>[Dat.str s]).length:Nat):=by omega
  refine Ret_by is_ref06_counts rfl ?_
  repeat refine aw ?_
  exact WT_ret rfl rfl rfl rfl rfl
 have q1:¬(0:Int)<((fa.map fun s=>[Dat.str s]).length:Nat):=by omega
 have hall:=hall q0
 refine Ret_by is_ref06_counts rfl ?_
 repeat refine aw ?_
 refine WT_for p.nodes.length (fun j:Nat=>⟨[(4,.d (I j)),(1,.ptr 0 0)],[(0,pgV p)],1,[],0⟩) (fun j=>∀h:j<p.nodes.length,manyN p p.nodes[j]=false) (by exact Uw.wM) (fun g1=>?_) (fun j hj _=>?_)
 ·rw [hall fun j h=>g1 j h h]
  refine aw ?_
  refine WT_break ?_
  exact WT_ret rfl rfl rfl rfl rfl
 have he:=hel1 j hj
 have hone:=hone j hj
 have hG:manyN p p.nodes[j]=false→(fun j=>∀h:j<p.nodes.length,manyN p p.nodes[j]=false) j:=fun h _=>h
 have hth:=s_ref06_thing p p.nodes[j].name (by have:=hp.decls;omega)
 rw [thingD] at hth
 obtain ⟨B,hB,hcs⟩:=hcs j hj
 rw [hB] at hone hG
 have hfn:=s_ref06_fun p p.nodes[j].name2 (by omega)
 have hmy:=fun k=>s_ref06_many k p.nodes[j].name2
 clear hall hel1 hB hfun hem
 generalize p.nodes[j]=x at *
 obtain ⟨xk,xn,xs,xt,xo⟩:=x
 have he:(p.nodes.map ndL)[(j:Int).toNat]? = some [I xk,I xn,.str xs,.str xt,.slice 1 (xo.map fun i=>[I i]) false]:=he
 have hol:(xo.map fun i=>[I i]).length=xo.length:=by simp
 simp only at hcs hth hmy hfn
 rcases hcs with ⟨rfl,k,hk,hfk,hc⟩|⟨rfl,k,hk,hfk,hc⟩|⟨rfl,k,c,ht,hq,hc⟩|⟨h10,h11,h8,rfl⟩
 ·rw [funI_some' hfk] at hfn
  have hek:(p.funs.map fuL)[((k:Nat):Int).toNat]? = some (fuL p.funs[k]):=by simp [hk]
  generalize p.funs[k]=f at *
  obtain ⟨gn,ga,gb⟩:=f
  have hek:(p.funs.map fuL)[((k:Nat):Int).toNat]? = some [.str gn,.slice 1 (ga.map fun s=>[Dat.str s]) false,I gb]:=hek
  have hgl:(ga.map fun s=>[Dat.str s]).length=ga.length:=by simp
  simp only at hc
  rcases hc with ⟨hc,rfl⟩|⟨hc,rfl⟩
  ·have hc' : (((xo.map fun i=>[I i]).length:Nat):Int)=((ga.map fun s=>[Dat.str s]).length:Nat):=by omega
   have hG1:=hG rfl
   repeat refine aw ?_
   exact WT_next j hG1 (by exact Uw.wM)
  ·have hc' : ¬(((xo.map fun i=>[I i]).length:Nat):Int)=((ga.map fun s=>[Dat.str s]).length:Nat):=by omega
   rw [hone rfl]
   repeat refine aw ?_
   exact WT_leave (WT_ret rfl rfl rfl rfl rfl)
 ·rw [funI_some' hfk] at hfn
  have hek:(p.funs.map fuL)[((k:Nat):Int).toNat]? = some (fuL p.funs[k]):=by simp [hk]
  generalize p.funs[k]=f at *
  obtain ⟨gn,ga,gb⟩:=f
  have hek:(p.funs.map fuL)[((k:Nat):Int).toNat]? = some [.str gn,.slice 1 (ga.map fun s=>[Dat.str s]) false,I gb]:=hek
  have hgl:(ga.map fun s=>[Dat.str s]).length=ga.length:=by simp
  simp only at hc
  rcases hc with ⟨hc,rfl⟩|⟨hc,rfl⟩
  ·have hc' : (((ga.map fun s=>[Dat.str s]).length:Nat):Int)=1:=by omega
   have hG1:=hG rfl
   repeat refine aw ?_
   exact WT_next j hG1 (by exact Uw.wM)
  ·have hc' : ¬(((ga.map fun s=>[Dat.str s]).length:Nat):Int)=1:=by omega
   rw [hone rfl]
   repeat refine aw ?_
   exact WT_leave (WT_ret rfl rfl rfl rfl rfl)
 ·rw [ht] at hth
  have hth:Ret P0 n_ref06_thing [pgD p,.str xs] (.tuple [I k,.bool true]):=hth
  have hmy:=hmy k
  rw [hq] at hmy
  have hmy:Ret P0 n_ref06_many [I k,.str xt] (I c):=hmy
  rcases hc with ⟨hc,rfl⟩|⟨hc,rfl⟩
  ·have hc' : c=(((xo.map fun i=>[I i]).length:Nat):Int):=by omega
   have hG1:=hG rfl
   repeat refine aw ?_
   exact WT_next j hG1 (by exact Uw.wM)
  ·have hc' : ¬c=(((xo.map fun i=>[I i]).length:Nat):Int):=by omega
   rw [hone rfl]
   repeat refine aw ?_
   exact WT_leave (WT_ret rfl rfl rfl rfl rfl)
 ·have hG1:=hG rfl
  repeat refine aw ?_
  exact WT_next j hG1 (by exact Uw.wM)
theorem nm_cases (p:Pg) (x:Nd) (f:Nat):∃B:Bool,nameN p x (f:Int)=B∧
  (((x.kind=10∨x.kind=11)∧((funP p x.name2=none∧B=true)∨∃i,funP p x.name2=some i∧B=false))∨
    (x.kind=8∧((thingP p x.name=none∧B=true)∨∃k,thingP p x.name=some k∧B=false))∨
    (x.kind=2∧((∃k,thingP p x.name=some k∧B=false)∨(thingP p x.name=none∧x.name∈(localsP p).getD f []∧B=false)∨(thingP p x.name=none∧x.name∉(localsP p).getD f []∧B=true)))∨
    (x.kind≠10∧x.kind≠11∧x.kind≠8∧x.kind≠2∧B=false)):=by
 refine ⟨nameN p x (f:Int),rfl,?_⟩
 unfold nameN
 by_cases h1:x.kind=10∨x.kind=11
 ·rw [if_pos h1]
  refine .inl ⟨h1,?_⟩
  cases funP p x.name2 with
  | none=>exact .inl ⟨rfl,rfl⟩
  | some i=>exact .inr ⟨i,rfl,rfl⟩
 rw [if_neg h1]
 by_cases h2:x.kind=8
 ·rw [if_pos h2]
  refine .inr (.inl ⟨h2,?_⟩)
  cases thingP p x.name with
  | none=>exact .inl ⟨rfl,rfl⟩
  | some i=>exact .inr ⟨i,rfl,rfl⟩
 rw [if_neg h2]
 by_cases h3:x.kind=2
 ·rw [if_pos h3]
  refine .inr (.inr (.inl ⟨h3,?_⟩))
  rw [Int.toNat_natCast]
  cases thingP p x.name with
  | some i=>exact .inl ⟨i,rfl,rfl⟩
  | none=>
   by_cases hm:x.name∈(localsP p).getD f []
   ·exact .inr (.inl ⟨rfl,hm,by simp only [decide_eq_true hm];rfl⟩)
   ·exact .inr (.inr ⟨rfl,hm,by simp only [decide_eq_false hm];rfl⟩)
 rw [if_neg h3]
 exact .inr (.inr (.inr ⟨by omega,by omega,h2,h3,rfl⟩))
set_option maxRecDepth 4000 in
set_option maxHeartbeats 8000000 in
theorem s_ref06_names (p:Pg) (hf:formedP p=true) (hp:Lim p):Ret P0 n_ref06_names [pgD p] (.bool (!nameP p)):=by
 have hN:=hp.nodes
 have hF:=hp.funs
 have hD:=hp.decls
 have hnl:(p.nodes.map ndL).length=p.nodes.length:=by simp
 have hdl:(p.decls.map decL).length=p.decls.length:=by simp
 cases hm:funP p sMain with
 | none=>
  rw [name_main hm]
  have hfun:=s_ref06_fun p sMain (by omega)
  rw [funI_none hm] at hfun
  have hfun:Ret P0 n_ref06_fun [pgD p,.str [109,97,105,110]] (I (-1)):=hfun
  refine Ret_by is_ref06_names rfl ?_
  repeat refine aw ?_
  exact WT_ret rfl rfl rfl rfl rfl
 | some m=>
 have hfun:=s_ref06_fun p sMain (by omega)
 rw [funI_some' hm] at hfun
 have hfun:Ret P0 n_ref06_fun [pgD p,.str [109,97,105,110]] (I (m:Nat)):=hfun
 have hall:(∀(j:Nat) (h:j<p.nodes.length),nameN p p.nodes[j] ((ownersP p).getD j 0)=false)→(∀(j:Nat) (h:j<p.decls.length),¬(p.decls[j].kind<0∨3<p.decls[j].kind))→(!nameP p)=true:=fun h1 h2=>by
  rw [name_all (by rw [hm];exact fun h=>by cases h) h1 h2];rfl
 have hone1:∀(j:Nat) (h:j<p.nodes.length),nameN p p.nodes[j] ((ownersP p).getD j 0)=true→(!nameP p)=false:=fun j h e=>by rw [name_node j h e];rfl
 have hone2:∀(j:Nat) (h:j<p.decls.length),p.decls[j].kind<0∨3<p.decls[j].kind→(!nameP p)=false:=fun j h e=>by rw [name_decl j h e];rfl
 have hel1:∀(j:Nat) (h:j<p.nodes.length),(p.nodes.map ndL)[(j:Int).toNat]? = some (ndL p.nodes[j]):=fun j h=>by simp [h]
 have hel2:∀(j:Nat) (h:j<p.decls.length),(p.decls.map decL)[(j:Int).toNat]? = some (decL p.decls[j]):=fun j h=>by simp [h]
 clear hm
 generalize (!nameP p)=R at *
 refine Ret_by is_ref06_names rfl ?_
 repeat refine aw ?_
 refine WT_for p.decls.length (fun j:Nat=>⟨[(3,.d (I j)),(1,.ptr 0 0)],[(0,pgV p)],1,[],0⟩) (fun j=>∀h:j<p.decls.length,¬(p.decls[j].kind<0∨3<p.decls[j].kind)) (by exact Uw.wM) (fun g1=>?_) (fun j hj _=>?_)
 rotate_left 1
 ·have he:=hel2 j hj
  have hone:=hone2 j hj
  have hG:¬(p.decls[j].kind<0∨3<p.decls[j].kind)→(fun j=>∀h:j<p.decls.length,¬(p.decls[j].kind<0∨3<p.decls[j].kind)) j:=fun h _=>h
  clear hall hel1 hel2 hone1 hone2
  generalize p.decls[j]=d at *
  obtain ⟨dk,dn,dv⟩:=d
  have he:(p.decls.map decL)[(j:Int).toNat]? = some [I dk,.str dn,I dv]:=he
  simp only at hone hG
  by_cases q0:dk<0
  ·rw [hone (.inl q0)]
   repeat refine aw ?_
   exact WT_leave (WT_ret rfl rfl rfl rfl rfl)
  by_cases q3:3<dk
  ·rw [hone (.inr q3)]
   repeat refine aw ?_
   exact WT_leave (WT_ret rfl rfl rfl rfl rfl)
  have hG1:=hG (by omega)
  repeat refine aw ?_
  exact WT_next j hG1 (by exact Uw.wM)
 have hall:=fun h=>hall h fun j h=>g1 j h h
 clear g1 hone2 hel2 hfun
 refine aw ?_
 refine WT_break ?_
 repeat refine aw ?_
 refine WT_for p.nodes.length (fun j:Nat=>⟨[(4,.d (I j)),(1,.ptr 0 0)],[(0,pgV p)],1,[],0⟩) (fun j=>∀h:j<p.nodes.length,nameN p p.nodes[j] ((ownersP p).getD j 0)=false) (by exact Uw.wM) (fun g2=>?_) (fun j hj _=>?_)
 ·rw [hall fun j h=>g2 j h h]
  refine aw ?_
  refine WT_break ?_
  exact WT_ret rfl rfl rfl rfl rfl
 have he:=hel1 j hj
 have hone:=hone1 j hj
 have hG:nameN p p.nodes[j] ((ownersP p).getD j 0)=false→(fun j=>∀h:j<p.nodes.length,nameN p p.nodes[j] ((ownersP p).getD j 0)=false) j:=fun h _=>h
 have hwh:=s_ref06_whose p hf hp j hj
 obtain ⟨o1,o2⟩:=own_in hf _ j hj (Nat.le_refl _)
 have hth:=s_ref06_thing p p.nodes[j].name (by omega)
 have hfn:=s_ref06_fun p p.nodes[j].name2 (by omega)
 obtain ⟨f,hof⟩:∃f:Nat,(ownersP p).getD j 0=(f:Int):=⟨((ownersP p).getD j 0).toNat,by omega⟩
 rw [hof] at hwh o1 o2 hone hG
 have hfl:f<p.funs.length:=by omega
 have hlo:=s_ref06_Locals p hf hp f hfl
 have hln:((localsP p).getD f []).length<1000000000:=by
  have hjl:f<(localsP p).length:=by rw [localsP_len];exact hfl
  rw [List.getD,List.getElem?_eq_getElem hjl]
  have:=lsAt_bound p hp p.nodes.length f (localsP p)[f] (by rw [lsAt_all];simp [hjl])
  show (localsP p)[f].length<_
  omega
 have hin:=s_ref06_In ((localsP p).getD f []) p.nodes[j].name hln
 rw [thingD] at hth
 obtain ⟨B,hB,hcs⟩:=nm_cases p p.nodes[j] f
 rw [hB] at hone hG
 clear hall hel1 hone1 hB hof hln
 generalize (localsP p).getD f []=l at *
 generalize p.nodes[j]=x at *
 obtain ⟨xk,xn,xs,xt,xo⟩:=x
 have he:(p.nodes.map ndL)[(j:Int).toNat]? = some [I xk,I xn,.str xs,.str xt,intsD xo]:=he
 simp only at hcs hth hfn hin
 rcases hcs with ⟨hk,⟨ht,rfl⟩|⟨i,ht,rfl⟩⟩|⟨rfl,⟨ht,rfl⟩|⟨k,ht,rfl⟩⟩|⟨rfl,⟨k,ht,rfl⟩|⟨ht,hm,rfl⟩|⟨ht,hm,rfl⟩⟩|⟨h10,h11,h8,h2,rfl⟩
 ·rw [funI_none ht] at hfn
  rw [hone rfl]
  generalize (thingP p xs).getD (-1)=tk at *
  generalize (thingP p xs).isSome=tb at *
  rcases hk with rfl|rfl
  all_goals repeat refine aw ?_
  all_goals exact WT_leave (WT_ret rfl rfl rfl rfl rfl)
 ·rw [funI_some' ht] at hfn
  have hG1:=hG rfl
  generalize (thingP p xs).getD (-1)=tk at *
  generalize (thingP p xs).isSome=tb at *
  rcases hk with rfl|rfl
  all_goals repeat refine aw ?_
  all_goals exact WT_next j hG1 (by exact Uw.wM)
 ·rw [ht] at hth
  have hth:Ret P0 n_ref06_thing [pgD p,.str xs] (.tuple [I (-1),.bool false]):=hth
  rw [hone rfl]
  repeat refine aw ?_
  exact WT_leave (WT_ret rfl rfl rfl rfl rfl)
 ·rw [ht] at hth
  have hth:Ret P0 n_ref06_thing [pgD p,.str xs] (.tuple [I k,.bool true]):=hth
  have hG1:=hG rfl
  repeat refine aw ?_
  exact WT_next j hG1 (by exact Uw.wM)
 ·rw [ht] at hth
  have hth:Ret P0 n_ref06_thing [pgD p,.str xs] (.tuple [I k,.bool true]):=hth
  have hG1:=hG rfl
  generalize decide (xs∈l)=b at *
  repeat refine aw ?_
  exact WT_next j hG1 (by exact Uw.wM)
 ·rw [ht] at hth
  have hth:Ret P0 n_ref06_thing [pgD p,.str xs] (.tuple [I (-1),.bool false]):=hth
  rw [decide_eq_true hm] at hin
  have hG1:=hG rfl
  repeat refine aw ?_
  exact WT_next j hG1 (by exact Uw.wM)
 ·rw [ht] at hth
  have hth:Ret P0 n_ref06_thing [pgD p,.str xs] (.tuple [I (-1),.bool false]):=hth
  rw [decide_eq_false hm] at hin
  rw [hone rfl]
  repeat refine aw ?_
  exact WT_leave (WT_ret rfl rfl rfl rfl rfl)
 ·have hG1:=hG rfl
  generalize (thingP p xs).getD (-1)=tk at *
  generalize (thingP p xs).isSome=tb at *
  repeat refine aw ?_
  exact WT_next j hG1 (by exact Uw.wM)
end Uw.Tryz
namespace Uw.Tryz
open Go Uw
theorem dupA_true (p:Pg):∀(l seen:List Str),dupA p seen l=true↔∃(k:Nat) (h:k<l.length),(thingP p l[k]).isSome=true∨l[k]∈seen∨l[k]∈l.take k
 | [],seen=>by simp [dupA]
 | a::r,seen=>by
  rw [dupA,Bool.or_eq_true,Bool.or_eq_true,decide_eq_true_eq,dupA_true p r (a::seen)]
  constructor
  ·rintro ((h|h)|⟨k,hk,h⟩)
   ·exact ⟨0,by simp,.inl h⟩
   ·exact ⟨0,by simp,.inr (.inl h)⟩
   ·refine ⟨k+1,by simpa using hk,?_⟩
    simp only [List.getElem_cons_succ,List.take_succ_cons,List.mem_cons]
    rcases h with h|h|h
    ·exact .inl h
    ·rcases List.mem_cons.1 h with h|h
     ·exact .inr (.inr (.inl h))
     ·exact .inr (.inl h)
    ·exact .inr (.inr (.inr h))
  ·rintro ⟨k,hk,h⟩
   cases k with
   | zero=>
    simp only [List.getElem_cons_zero,List.take_zero,List.not_mem_nil,or_false] at h
    rcases h with h|h
    ·exact .inl (.inl h)
    ·exact .inl (.inr h)
   | succ k=>
    simp only [List.getElem_cons_succ,List.take_succ_cons,List.mem_cons] at h
    refine .inr ⟨k,by simpa using hk,?_⟩
    rcases h with h|h|h|h
    ·exact .inl h
    ·exact .inr (.inl (List.mem_cons_of_mem _ h))
    ·exact .inr (.inl (by rw [h];exact List.mem_cons_self ..))
    ·exact .inr (.inr h)
theorem nodup_of {α:Type} {l:List α} (h:∀(j:Nat) (hj:j<l.length) (k:Nat) (hk:k<j),l[j]≠l[k]'(by omega)):l.Nodup:=by
 rw [List.nodup_iff_pairwise_ne,List.pairwise_iff_getElem]
 intro i j hi hj hij e
 exact h j hj i hij e.symm
abbrev twP (p:Pg) (f:Fu) (k:Nat):Prop:=∀h:k<f.args.length,¬((thingP p f.args[k]).isSome=true∨f.args[k]∈f.args.take k)
theorem twice_all {p:Pg} (h1:∀(j:Nat) (h:j<p.decls.length) (k:Nat) (hk:k<j),p.decls[j].name≠(p.decls[k]'(by omega)).name) (h2:∀(j:Nat) (h:j<p.funs.length),funI p p.funs[j].name=(j:Nat)∧∀k,k<p.funs[j].args.length→twP p p.funs[j] k):twiceP p=false:=by
 have e1:(p.decls.map (·.name)).Nodup:=nodup_of fun j hj k hk=>by
  simp only [List.getElem_map]
  exact h1 j (by simpa using hj) k hk
 have e2:(p.funs.map (·.name)).Nodup:=nodup_of fun j hj k hk e=>by
  simp only [List.getElem_map] at e
  have hj:j<p.funs.length:=by simpa using hj
  have a1:=(h2 j hj).1
  have a2:=(h2 k (by omega)).1
  rw [e,a2] at a1
  omega
 have e3:(p.funs.any fun f=>dupA p [] f.args)=false:=List.any_eq_false.2 fun f hf hd=>by
  obtain ⟨j,hj,rfl⟩:=List.mem_iff_getElem.1 hf
  obtain ⟨k,hk,h⟩:=(dupA_true p _ _).1 hd
  refine (h2 j hj).2 k hk hk ?_
  rcases h with h|h|h
  ·exact .inl h
  ·simp at h
  ·exact .inr h
 rw [twiceP,e3,decide_eq_true e1,decide_eq_true e2];rfl
theorem twice_decl {p:Pg} (j:Nat) (h:j<p.decls.length) (k:Nat) (hk:k<j) (e:p.decls[j].name=(p.decls[k]'(by omega)).name):twiceP p=true:=by
 have:¬(p.decls.map (·.name)).Nodup:=fun hn=>by
  have:=nodup_get hn (i:=j) (j:=k) (by simpa using h) (by simp;omega) (by simpa using e)
  omega
 rw [twiceP,decide_eq_false this];rfl
theorem twice_fun {p:Pg} (j:Nat) (h:j<p.funs.length) (e:funI p p.funs[j].name≠(j:Nat)):twiceP p=true:=by
 have:¬(p.funs.map (·.name)).Nodup:=fun hn=>e (funI_some' (funP_self hn h))
 rw [twiceP,decide_eq_false this];simp
theorem twice_arg {p:Pg} (j:Nat) (h:j<p.funs.length) (k:Nat) (hk:k<p.funs[j].args.length) (e:(thingP p p.funs[j].args[k]).isSome=true∨p.funs[j].args[k]∈p.funs[j].args.take k):twiceP p=true:=by
 have:(p.funs.any fun f=>dupA p [] f.args)=true:=List.any_eq_true.2 ⟨_,List.getElem_mem h,(dupA_true p _ _).2 ⟨k,hk,by rcases e with e|e;exact .inl e;exact .inr (.inr e)⟩⟩
 rw [twiceP,this];simp
set_option maxRecDepth 4000 in
set_option maxHeartbeats 8000000 in
theorem s_ref06_twice (p:Pg) (hp:Lim p):Ret P0 n_ref06_twice [pgD p] (.bool (!twiceP p)):=by
 have hF:=hp.funs
 have hD:=hp.decls
 have hdl:(p.decls.map decL).length=p.decls.length:=by simp
 have hfl:(p.funs.map fuL).length=p.funs.length:=by simp
 have hall:=fun h1 h2=>congrArg (!·) (twice_all (p:=p) h1 h2)
 have hone1:=fun j h k hk e=>congrArg (!·) (twice_decl (p:=p) j h k hk e)
 have hone2:=fun j h e=>congrArg (!·) (twice_fun (p:=p) j h e)
 have hone3:=fun j h k hk e=>congrArg (!·) (twice_arg (p:=p) j h k hk e)
 simp only [Bool.not_true,Bool.not_false] at hall hone1 hone2 hone3
 have hel1:∀(j:Nat) (h:j<p.decls.length),(p.decls.map decL)[(j:Int).toNat]? = some (decL p.decls[j]):=fun j h=>by simp [h]
 have hel2:∀(j:Nat) (h:j<p.funs.length),(p.funs.map fuL)[(j:Int).toNat]? = some (fuL p.funs[j]):=fun j h=>by simp [h]
 have hag:=fun (j:Nat) (h:j<p.funs.length)=>hp.args p.funs[j] (List.getElem_mem h)
 generalize (!twiceP p)=R at *
 refine Ret_by is_ref06_twice rfl ?_
 repeat refine aw ?_
 refine WT_for p.decls.length (fun j:Nat=>⟨[(3,.d (I j)),(1,.ptr 0 0)],[(0,pgV p)],1,[],0⟩) (fun j=>∀(h:j<p.decls.length) (k:Nat) (hk:k<j),p.decls[j].name≠(p.decls[k]'(by omega)).name) (by exact Uw.wM) (fun g1=>?_) (fun j hj _=>?_)
 rotate_left 1
 ·have he:=hel1 j hj
  have hone:=hone1 j hj
  have hG:(∀(k:Nat) (hk:k<j),p.decls[j].name≠(p.decls[k]'(by omega)).name)→(fun j=>∀(h:j<p.decls.length) (k:Nat) (hk:k<j),p.decls[j].name≠(p.decls[k]'(by omega)).name) j:=fun h _=>h
  clear hall hone1 hone2 hone3 hel2 hag
  generalize p.decls[j]=d at *
  obtain ⟨dk,dn,dv⟩:=d
  have he:(p.decls.map decL)[(j:Int).toNat]? = some [I dk,.str dn,I dv]:=he
  simp only at hone hG
  repeat refine aw ?_
  refine WT_for j (fun k:Nat=>⟨[(4,.d (I k)),(3,.d (I j)),(1,.ptr 0 0)],[(0,pgV p)],1,[],0⟩) (fun k=>∀(hk:k<j),dn≠(p.decls[k]'(by omega)).name) (by exact Uw.wM) (fun g=>?_) (fun k hk _=>?_)
  ·have hG1:=hG fun k hk=>g k hk hk
   refine aw ?_
   refine WT_break ?_
   repeat refine aw ?_
   exact WT_next j hG1 (by exact Uw.wM)
  have hkl:k<p.decls.length:=by omega
  have he2:=hel1 k hkl
  have hone:=hone k hk
  have hG2:dn≠(p.decls[k]'hkl).name→(fun k=>∀(hk:k<j),dn≠(p.decls[k]'(by omega)).name) k:=fun h _=>h
  clear hel1 hG
  generalize p.decls[k]=e at *
  obtain ⟨ek,en,ev⟩:=e
  have he2:(p.decls.map decL)[(k:Int).toNat]? = some [I ek,.str en,I ev]:=he2
  simp only at hone hG2
  by_cases q:dn=en
  ·rw [hone q]
   repeat refine aw ?_
   exact WT_leave (WT_leave (WT_ret rfl rfl rfl rfl rfl))
  ·have hG1:=hG2 q
   repeat refine aw ?_
   exact WT_next k hG1 (by exact Uw.wM)
 have hall:=hall fun j h k hk=>g1 j h h k hk
 clear g1 hone1 hel1
 refine aw ?_
 refine WT_break ?_
 repeat refine aw ?_
 refine WT_for p.funs.length (fun j:Nat=>⟨[(5,.d (I j)),(1,.ptr 0 0)],[(0,pgV p)],1,[],0⟩) (fun j=>∀(h:j<p.funs.length),funI p p.funs[j].name=(j:Nat)∧∀k,k<p.funs[j].args.length→twP p p.funs[j] k) (by exact Uw.wM) (fun g2=>?_) (fun j hj _=>?_)
 ·rw [hall fun j h=>g2 j h h]
  refine aw ?_
  refine WT_break ?_
  exact WT_ret rfl rfl rfl rfl rfl
 have he:=hel2 j hj
 have hone2:=hone2 j hj
 have hone3:=hone3 j hj
 have hag:=hag j hj
 have hfn:=s_ref06_fun p p.funs[j].name (by omega)
 have hG:(funI p p.funs[j].name=(j:Nat)∧∀k,k<p.funs[j].args.length→twP p p.funs[j] k)→(fun j=>∀(h:j<p.funs.length),funI p p.funs[j].name=(j:Nat)∧∀k,k<p.funs[j].args.length→twP p p.funs[j] k) j:=fun h _=>h
 clear hall hel2
 generalize p.funs[j]=f at *
 obtain ⟨fn,fa,fb⟩:=f
 have he:(p.funs.map fuL)[(j:Int).toNat]? = some [.str fn,.slice 1 (fa.map fun s=>[Dat.str s]) false,I fb]:=he
 have hal:(fa.map fun s=>[Dat.str s]).length=fa.length:=by simp
 simp only at hone2 hone3 hag hfn hG
 by_cases q:funI p fn=(j:Nat)
 rotate_left 1
 ·rw [hone2 q]
  generalize funI p fn=u at *
  repeat refine aw ?_
  exact WT_leave (WT_ret rfl rfl rfl rfl rfl)
 have hG:=fun h=>hG ⟨q,h⟩
 rw [q] at hfn
 clear hone2 q
 have hth:=fun (k:Nat) (h:k<fa.length)=>s_ref06_thing p fa[k] (by omega)
 have hin:=fun (k:Nat) (h:k<fa.length)=>s_ref06_In (fa.take k) fa[k] (by rw [List.length_take];omega)
 have hea:∀(k:Nat) (h:k<fa.length),(fa.map fun s=>[Dat.str s])[(k:Int).toNat]? = some [.str fa[k]]:=fun k h=>by simp [h]
 repeat refine aw ?_
 refine WT_for fa.length (fun k:Nat=>⟨[(7,.d (I k)),(6,.d (strsC fa)),(5,.d (I j)),(1,.ptr 0 0)],[(0,pgV p)],1,[],0⟩) (twP p ⟨fn,fa,fb⟩) (by exact Uw.wM) (fun g=>?_) (fun k hk _=>?_)
 ·have hG1:=hG fun k hk=>g k hk
  refine aw ?_
  refine WT_break ?_
  repeat refine aw ?_
  exact WT_next j hG1 (by exact Uw.wM)
 have hth:=hth k hk
 rw [thingD] at hth
 have hin:=hin k hk
 have hea:=hea k hk
 have hone:=hone3 k hk
 have hG2:¬((thingP p fa[k]).isSome=true∨fa[k]∈fa.take k)→twP p ⟨fn,fa,fb⟩ k:=fun h _=>h
 have hin:Ret P0 n_ref06_In [.slice 1 (((fa.map fun s=>[Dat.str s]).take ((k:Int).toNat)).drop 0) false,.str fa[k]] (.bool (decide (fa[k]∈fa.take k))):=by
  have e:((fa.map fun s=>[Dat.str s]).take ((k:Int).toNat)).drop 0=(fa.take k).map fun s=>[Dat.str s]:=by
   rw [List.drop_zero,show (k:Int).toNat=k by omega,List.map_take]
  rw [e];exact hin
 clear hone3 hG
 generalize fa[k]=s at *
 by_cases q1:(thingP p s).isSome=true
 ·rw [hone (.inl q1)]
  rw [q1] at hth
  generalize (thingP p s).getD (-1)=tk at *
  generalize decide (s∈fa.take k)=b at *
  repeat refine aw ?_
  exact WT_leave (WT_leave (WT_ret rfl rfl rfl rfl rfl))
 have q1' : (thingP p s).isSome=false:=by simpa using q1
 by_cases q2:s∈fa.take k
 ·rw [hone (.inr q2)]
  rw [decide_eq_true q2] at hin
  rw [q1'] at hth
  generalize (thingP p s).getD (-1)=tk at *
  repeat refine aw ?_
  exact WT_leave (WT_leave (WT_ret rfl rfl rfl rfl rfl))
 ·have hG1:=hG2 fun h=>by rcases h with h|h;exact q1 h;exact q2 h
  rw [decide_eq_false q2] at hin
  rw [q1'] at hth
  clear hG2 hone
  generalize (thingP p s).getD (-1)=tk at *
  repeat refine aw ?_
  exact WT_next k hG1 (by exact Uw.wM)
set_option maxHeartbeats 2000000 in
theorem s_ref06_Why (p:Pg) (hf:formedP p=true) (hp:Lim p):Ret P0 n_ref06_Why [pgD p] (I (whyP p)):=by
 have h0:=s_ref06_Formed p hf hp
 have h1:=s_ref06_bounds p hf hp
 have h2:=s_ref06_twice p hp
 have h3:=s_ref06_names p hf hp
 have h4:=s_ref06_types p hp
 have h5:=s_ref06_counts p hp
 have hw:whyP p=(if boundP p=true then 2 else if twiceP p=true then 5 else if nameP p=true then 4 else if sortP p=true then 6 else if manyP p=true then 7 else 0):=by rw [whyP,hf];rfl
 rw [hw]
 generalize boundP p=b1 at *
 generalize twiceP p=b2 at *
 generalize nameP p=b3 at *
 generalize sortP p=b4 at *
 generalize manyP p=b5 at *
 clear hw
 cases b1 with
 | true=>
  refine Ret_by is_ref06_Why rfl ?_
  repeat refine aw ?_
  exact WT_ret rfl rfl rfl rfl rfl
 | false=>
 cases b2 with
 | true=>
  refine Ret_by is_ref06_Why rfl ?_
  repeat refine aw ?_
  exact WT_ret rfl rfl rfl rfl rfl
 | false=>
 cases b3 with
 | true=>
  refine Ret_by is_ref06_Why rfl ?_
  repeat refine aw ?_
  exact WT_ret rfl rfl rfl rfl rfl
 | false=>
 cases b4 with
 | true=>
  refine Ret_by is_ref06_Why rfl ?_
  repeat refine aw ?_
  exact WT_ret rfl rfl rfl rfl rfl
 | false=>
 have h5:=h5 rfl rfl
 cases b5 with
 | true=>
  refine Ret_by is_ref06_Why rfl ?_
  repeat refine aw ?_
  exact WT_ret rfl rfl rfl rfl rfl
 | false=>
  refine Ret_by is_ref06_Why rfl ?_
  repeat refine aw ?_
  exact WT_ret rfl rfl rfl rfl rfl
end Uw.Tryz
namespace Uw.Tryz
open Go Uw
theorem na_in {p:Pg} {k b nx:Nat} {ms:List MS} {m m' : MS} {R R' : Regs} {H:Heap} {r n:Nat} {mv' : List V} (hms:ms.length=k) (hl:k<100000) (hb:1000000≤b) (hnx:b<nx) (hmv:mv' = mapsV mid 0 k++[.hnd b]++List.replicate r (.d .nilMap))
  (h1:subR (renF []) R H ((b,.map none m')::naH p mv' (famF (noL k) ms)) R') (e2:look H 2=some (.var (sCs p))) (e3:look H 3=some (.var mv')) (e0:look H 0=some (.map none (thE p.decls))) (e1:look H 1=some (.map none (fnE p.funs))) (eb:look H b=some (.map none m)) (hm:m=m')
  (ho:Over (famF (noL k) ms) H):Weak ⟨R,H,n,[],2⟩ ⟨R',(b,.map none m')::naH p mv' (famF (noL k) ms),nx,[],2⟩:=by
 subst hm
 have hkl:(noL k).length=k:=by simp
 have hlk:∀i,(look (naH p mv' (famF (noL k) ms)) i).isSome=true→(look ((b,.map none m)::naH p mv' (famF (noL k) ms)) i).isSome=true:=by
  intro i h
  rw [look_cons]
  split
  ·rfl
  ·exact h
 refine Weak.looks h1 ?_ (by omega) (fun id h _=>?_)
 ·intro id x hx
  rw [look_cons] at hx
  by_cases h2:b=id
  ·rw [if_pos h2] at hx;injection hx with hx;subst h2 hx;exact ⟨eb,rfl,by omega⟩
  rw [if_neg h2] at hx
  rcases naH_inv hx with ⟨rfl,rfl⟩|⟨rfl,rfl⟩|⟨rfl,rfl⟩|⟨rfl,rfl⟩|hx
  ·refine ⟨e2,?_,by omega⟩
   show closedL _ _=true
   rw [closedL_iff]
   intro v hv
   simp only [sCs,List.mem_cons,List.mem_nil_iff,or_false] at hv
   rcases hv with rfl|rfl|rfl|rfl|rfl|rfl|rfl
   ·rfl
   ·rfl
   ·rfl
   ·exact hlk 0 rfl
   ·exact hlk 1 rfl
   ·rfl
   ·rfl
  ·refine ⟨e3,?_,by omega⟩
   show closedL _ _=true
   have hc:=na_closed (p:=p) (ls:=noL k) (ms:=ms) (mv:=mv') (r:=r) (n:=k) (by rw [hkl,hms]) hkl.symm
   rw [closedL_iff] at hc ⊢
   intro v hv
   rw [hmv] at hv
   rcases List.mem_append.1 hv with hv|hv
   ·rcases List.mem_append.1 hv with hv|hv
    ·obtain ⟨q,hq⟩:=List.mem_iff_getElem?.1 hv
     have hql:q<k:=by
      rcases Nat.lt_or_ge q k with h|h
      ·exact h
      ·rw [List.getElem?_eq_none (by rw [mapsV_len];exact h)] at hq;cases hq
     have hg:=mapsV_get mid k 0 q hql
     rw [hq] at hg
     injection hg with hg
     have:=hc v (List.mem_append_left _ hv)
     rw [hg] at this ⊢
     exact hlk _ this
    ·simp only [List.mem_cons,List.mem_nil_iff,or_false] at hv
     subst hv
     show (look _ _).isSome=true
     rw [look_cons,if_pos rfl];rfl
   ·rw [(List.mem_replicate.1 hv).2];rfl
  ·exact ⟨e0,rfl,by omega⟩
  ·exact ⟨e1,rfl,by omega⟩
  ·obtain ⟨g1,g2,g3,_⟩:=famF_inv hx
   rw [hkl] at g2
   exact ⟨by rw [ho id g1 (by omega)];exact hx,g3 _,by omega⟩
 ·rcases (show id=0∨id=1 by omega) with rfl|rfl
  ·exact hlk 0 rfl
  ·exact hlk 1 rfl
end Uw.Tryz
namespace Uw.Tryz
open Go Uw
abbrev nL (p:Pg):Nat:=((localsP p).map fun l=>[strsC l]).length
abbrev nmR (p:Pg):Regs:=[(5,.row 3 (nL p)),(1,.ptr 2 0)]
abbrev nmMv (n r:Nat):List V:=mapsV mid 0 n++List.replicate r (.d .nilMap)
abbrev nmS1 (p:Pg) (j:Nat):St:=⟨(33,.d (I j))::(32,.d (I (nL p:Nat)))::(31,.d (strssD (localsP p)))::nmR p,naH p (nmMv j (nL p - j)) (famF (noL j) (((localsP p).take j).map seenE)),1000000,[],2⟩
theorem rhoM_low {k b i:Nat} (h:i<4):rhoM k b i=i:=by unfold rhoM;rw [if_neg (by simp only [mid];omega)]
theorem VW_mrow {j b k n:Nat} {h h' : Heap} (hk:k<4) (hc:(look h' k).isSome=true):VW (rhoM j b) h h' (.row k n) (.row k n):=.inl ⟨by rw [V.ren,rhoM_low hk],hc⟩
theorem VW_mptr {j b k o:Nat} {h h' : Heap} (hk:k<4) (hc:(look h' k).isSome=true):VW (rhoM j b) h h' (.ptr k o) (.ptr k o):=.inl ⟨by rw [V.ren,rhoM_low hk],hc⟩
theorem nm_regs {p:Pg} {k b:Nat} {R:Regs} {H:Heap} {mv:List V} {fam:Heap} (h5:look R 5=some (.row 3 (nL p))) (h1:look R 1=some (.ptr 2 0)):subR (rhoM k b) R H (naH p mv fam) (nmR p):=
 ⟨⟨_,h5,VW_mrow (by omega) rfl⟩,⟨_,h1,VW_mptr (by omega) rfl⟩,trivial⟩
def nmB1:MCode:=qL (qL (qR (qL (qR (qR (qR m_check_search_name.code))))))
set_option maxRecDepth 20000 in
set_option maxHeartbeats 4000000 in
theorem name_round1 (p:Pg) (hp:Lim p) (hls:∀l∈localsP p,l.length<1000000000) (j:Nat) (hj:j<nL p) (hpre:∀i,i<j→True) {QQ:MExit→St→Prop}:WT P0 (LoopQ (nmS1 p) (ForI (nL p) fun _=>True) (forM (nL p)) j QQ) (exec nmB1 (nmS1 p j) Tree.done):=by
 have hnl:nL p=(localsP p).length:=by simp
 have hll:=localsP_len p
 have hF:=hp.funs
 have hj2:j<(localsP p).length:=by rw [← hnl];exact hj
 have he:((localsP p).map fun l=>[strsC l])[(j:Int).toNat]? = some [strsC (localsP p)[j]]:=by simp [hj2]
 have hml:(nmMv j (nL p - j)).length=nL p:=by rw [List.length_append,mapsV_len,List.length_replicate];omega
 have hlL:=hls _ (List.getElem_mem hj2)
 have htk:(localsP p).take (j+1)=(localsP p).take j++[(localsP p)[j]]:=List.take_succ_eq_append_getElem hj2
 have hms:(((localsP p).take j).map seenE).length=j:=by rw [List.length_map,List.length_take];omega
 generalize (localsP p)[j]=l at *
 have he:((localsP p).map fun l=>[strsC l])[(j:Int).toNat]? = some [.slice 1 (l.map fun s=>[Dat.str s]) false]:=he
 have hrl:(l.map fun s=>[Dat.str s]).length=l.length:=by simp
 have hsm:∀v,(nmMv j (nL p - j)).set ((j:Int).toNat * 1) v=mapsV mid 0 j++[v]++List.replicate (nL p - (j+1)) (.d .nilMap):=fun v=>by
  have:=rep_set (mapsV mid 0 j) (V.d .nilMap) v (nL p - (j+1))
  rw [mapsV_len,show nL p - (j+1)+1=nL p - j by omega] at this
  rw [show (j:Int).toNat * 1=j by omega];exact this
 have hS:nmS1 p (j+1)=⟨(33,.d (I ((j+1:Nat):Int)))::(32,.d (I (nL p:Nat)))::(31,.d (strssD (localsP p)))::nmR p,naH p (mapsV mid 0 (j+1)++List.replicate (nL p - (j+1)) (.d .nilMap)) (famF (noL (j+1)) (((localsP p).take j).map seenE++[seenE l])),1000000,[],2⟩:=by
  rw [nmS1,htk,List.map_append];rfl
 have hl5:j<100000:=by omega
 obtain ⟨E,hE⟩:∃E:Nat→MS,∀i,E i=seenE (l.take i):=⟨_,fun _=>rfl⟩
 have hE0:([]:MS)=E 0:=by rw [hE];rfl
 have hEn:E l.length=seenE l:=by rw [hE,List.take_length]
 have hEs:∀(i:Nat) (h:i<l.length),mset (E i) (.s l[i]) (.bool true)=E (i+1):=fun i h=>by rw [hE,hE,List.take_succ_eq_append_getElem h,seenE_snoc]
 have hge:∀(i:Nat) (h:i<l.length),(l.map fun s=>[Dat.str s])[(i:Int).toNat]? = some [.str l[i]]:=fun i h=>by simp [h]
 obtain ⟨mv',hmv⟩:∃mv',mv' = mapsV mid 0 j++[V.hnd 1000000]++List.replicate (nL p - (j+1)) (.d .nilMap):=⟨_,rfl⟩
 have hmv2:(nmMv j (nL p - j)).set ((j:Int).toNat * 1) (V.hnd 1000000)=mv':=by rw [hsm,hmv]
 have hmg:mv'[(j:Int).toNat * 1]? = some (.hnd 1000000):=by
  rw [hmv,List.append_assoc,List.getElem?_append_right (by rw [mapsV_len];omega),mapsV_len]
  simp
 have hml3:mv'.length=nL p:=by rw [← hmv2,List.length_set];exact hml
 repeat (first|refine aw ?_|refine f1 ?_)
 refine WT_for l.length (fun i:Nat=>⟨(44,.d (I i))::(43,.d (I ((l.map fun s=>[Dat.str s]).length:Nat)))::(42,.d (strsC l))::(6,.d (I j))::(33,.d (I j))::(32,.d (I (nL p:Nat)))::(31,.d (strssD (localsP p)))::nmR p,(1000000,.map none (E i))::naH p mv' (famF (noL j) (((localsP p).take j).map seenE)),1000001,[],2⟩) (fun _=>True) ?_ (fun _=>?_) (fun i hi _=>?_)
 ·refine na_in hms hl5 (Nat.le_refl _) (by omega) hmv ?_ rfl (by rw [← hmv2];rfl) rfl rfl rfl hE0 (by (repeat refine over_cons ?_ rfl);exact over_refl)
  repeat' first|exact trivial|refine ⟨⟨_,rfl,?_⟩,?_⟩|exact VW_int (by first|with_reducible rfl|omega)|exact Or.inl ⟨rfl,rfl⟩
 ·refine aw ?_
  refine WT_break ?_
  refine aw ?_
  refine WT_next j trivial (wk_eq hS ?_)
  exact na_next (b:=1000000) hms hl5 (by omega) ⟨⟨_,rfl,VW_int rfl⟩,⟨_,rfl,.inl ⟨rfl,rfl⟩⟩,⟨_,rfl,.inl ⟨rfl,rfl⟩⟩,nm_regs rfl rfl⟩ rfl rfl hmv rfl rfl (by rw [← hEn];rfl) (by (repeat refine over_cons ?_ rfl);exact over_refl)
 have hg:=hge i hi
 have hs:=hEs i hi
 generalize l[i]=nm at *
 repeat (first|refine aw ?_|refine f1 ?_)
 refine WT_heq ((1000000,.map none (mset (E i) (.s nm) (.bool true)))::naH p mv' (famF (noL j) (((localsP p).take j).map seenE))) (heq_dup _ _ _ _) ?_
 repeat (first|refine aw ?_|refine f1 ?_)
 refine WT_next i trivial ?_
 refine na_in hms hl5 (Nat.le_refl _) (by omega) hmv ?_ rfl rfl rfl rfl rfl hs (by (repeat refine over_cons ?_ rfl);exact over_refl)
 repeat' first|exact trivial|refine ⟨⟨_,rfl,?_⟩,?_⟩|exact VW_int (by first|with_reducible rfl|omega)|exact Or.inl ⟨rfl,rfl⟩
end Uw.Tryz
namespace Uw.Tryz
open Go Uw
theorem locals_bound (p:Pg) (hp:Lim p):∀l∈localsP p,l.length<1000000000:=fun l hl=>by
 obtain ⟨i,hi,rfl⟩:=List.mem_iff_getElem.1 hl
 have hN:=hp.nodes
 have:=lsAt_bound p hp p.nodes.length i (localsP p)[i] (by rw [lsAt_all];simp [hi])
 omega
abbrev nmS3 (p:Pg) (j:Nat):St:=⟨[(114,.d (I j)),(113,.d (I ((p.decls.map decL).length:Nat))),(112,.d (.slice 3 (p.decls.map decL) false))],[(0,.map none (thE p.decls)),(1,.map none (fnE p.funs))],2,[],2⟩
abbrev nmG3 (p:Pg) (k:Nat):Prop:=∀h:k<p.decls.length,¬(p.decls[k].kind<0∨3<p.decls[k].kind)
def nmB3:MCode:=qL (qL (qR (qL (qR (qR (qR (qR (qR m_check_search_name.code))))))))
set_option maxRecDepth 8000 in
set_option maxHeartbeats 4000000 in
theorem name_round3 (p:Pg) (hp:Lim p) (R:Bool) (j:Nat) (hj:j<p.decls.length) (hone:p.decls[j].kind<0∨3<p.decls[j].kind→R=true) (hpre:∀i,i<j→nmG3 p i) {kk:MExit→St→Tree} (hkk:∀s,kk .ret s=Tree.done .ret s) :
  WT P0 (LoopQ (nmS3 p) (ForI p.decls.length (nmG3 p)) (forM p.decls.length) j fun e s=>WT P0 (EQ 2 m_check_search_name.res (.d (.bool R)) (sBs p)) (kk e s)) (exec nmB3 (nmS3 p j) Tree.done):=by
 have hD:=hp.decls
 have hdl:(p.decls.map decL).length=p.decls.length:=by simp
 have he:(p.decls.map decL)[(j:Int).toNat]? = some (decL p.decls[j]):=by simp [hj]
 have hG:¬(p.decls[j].kind<0∨3<p.decls[j].kind)→nmG3 p j:=fun h _=>h
 generalize p.decls[j]=x at *
 obtain ⟨xk,xn,xv⟩:=x
 simp only at hone hG
 first
  | (have he:(p.decls.map decL)[(j:Int).toNat]? = some [I xk,.str xn,I xv]:=he)
  | skip
 by_cases k0:xk<0
 ·rw [hone (.inl k0)]
  repeat (first|refine aw ?_|refine f1 ?_)
  refine WT_leaveE hkk (WT_eret 2 rfl rfl ?_)
  exact Uw.wM
 by_cases k3:3<xk
 ·rw [hone (.inr k3)]
  repeat (first|refine aw ?_|refine f1 ?_)
  refine WT_leaveE hkk (WT_eret 2 rfl rfl ?_)
  exact Uw.wM
 have hG1:=hG (by omega)
 repeat (first|refine aw ?_|refine f1 ?_)
 exact WT_next j hG1 (by exact Uw.wM)
set_option maxRecDepth 20000 in
set_option maxHeartbeats 4000000 in
theorem s_search_name (p:Pg) (hf:formedP p=true) (hp:Lim p):SatE P0 n_check_search_name [.agg (sCs p)] (sBs p) (.d (.bool (nameP p))) (sBs p):=by
 have hmn:=fn_get p sMain
 cases hm:funP p sMain with
 | none=>
  rw [name_main hm]
  rw [hm] at hmn
  have hmn:mget (fnE p.funs) (.s [109,97,105,110])=none:=hmn
  refine SatE_by is_check_search_name rfl ?_
  repeat (first|refine aw ?_|refine f1 ?_|refine m1 ?_)
  refine WT_eret 2 rfl rfl ?_
  exact Uw.wM
 | some i0=>
 rw [hm] at hmn
 have hmn:mget (fnE p.funs) (.s [109,97,105,110])=some (I (i0:Nat)):=hmn
 have hll:=localsP_len p
 have hF:=hp.funs
 have hN:=hp.nodes
 have hD:=hp.decls
 have hi0:i0<p.funs.length:=by
  rw [funP] at hm
  exact (List.findIdx?_eq_some_iff_getElem.1 hm).1
 have hnl:nL p=(localsP p).length:=by simp
 have hmk:(decide (((nL p:Nat):Int)=(nL p:Nat))&&decide ((0:Int)≤(nL p:Nat))&&decide ((((nL p:Nat):Nat):Int) * ((8:Nat):Int)≤70368744177664))=true:=by rw [hnl];simp;omega
 have hpi:(0:Int)<(nL p:Nat):=by omega
 have hndl:(p.nodes.map ndL).length=p.nodes.length:=by simp
 have hdl:(p.decls.map decL).length=p.decls.length:=by simp
 have h0:funP p sMain≠none:=by rw [hm];exact fun h=>by cases h
 have hone1:=fun j (h:j<p.nodes.length)=>name_node (p:=p) j h
 have hone2:=fun j (h:j<p.decls.length)=>name_decl (p:=p) j h
 have hall:=fun h1 h2=>name_all (p:=p) h0 h1 h2
 clear hm h0
 have hls:=locals_bound p hp
 have hSn:nmS1 p (nL p)=⟨(33,.d (I (nL p:Nat)))::(32,.d (I (nL p:Nat)))::(31,.d (strssD (localsP p)))::nmR p,naH p (nmV (localsP p).length) (famF (noL (localsP p).length) ((localsP p).map seenE)),1000000,[],2⟩:=by
  have e:(localsP p).take (nL p)=localsP p:=List.take_of_length_le (by omega)
  have e2:nmMv (nL p) (nL p - nL p)=nmV (localsP p).length:=by
   show _=mapsV mid 0 (noL (localsP p).length).length++_
   rw [Nat.sub_self,hnl,List.length_replicate]
  rw [nmS1,e,e2]
  rw [show noL (nL p)=noL (localsP p).length by rw [hnl]]
 have hS0:nmS2 p ((localsP p).map seenE) 0=⟨(59,.d (I ((0:Nat):Int)))::(58,.d (I ((p.nodes.map ndL).length:Nat)))::(57,.d (nodesD p.nodes))::nmR p,naH p (nmV (localsP p).length) (famF (noL (localsP p).length) ((localsP p).map seenE)),1000000,[],2⟩:=by
  rw [nmS2,nmR,hnl]
 have hnol:(noL (localsP p).length).length=(localsP p).length:=by simp
 have hms:((localsP p).map seenE).length=(noL (localsP p).length).length:=by simp
 have hnol2:(noL (localsP p).length).length<100000:=by omega
 generalize nameP p=R at *
 refine SatE_by is_check_search_name rfl ?_
 repeat (first|refine aw ?_|refine f1 ?_|refine m1 ?_)
 refine WT_for (nL p) (nmS1 p) (fun _=>True) ?_ (fun _=>?_) (fun j hj hpre=>?_)
 rotate_left 2
 ·exact name_round1 p hp hls j hj hpre
 ·refine na_same (ls:=noL 0) (ms:=[]) (r:=nL p - 0) rfl (by simp) ?_ rfl rfl rfl rfl (by (repeat refine over_cons ?_ rfl);exact over_refl)
  repeat' first|exact trivial|refine ⟨⟨_,rfl,?_⟩,?_⟩|exact VW_int (by first|with_reducible rfl|omega)|exact Or.inl ⟨rfl,rfl⟩
 rw [hSn]
 refine aw ?_
 refine WT_break ?_
 repeat (first|refine aw ?_|refine f1 ?_)
 refine WT_for p.nodes.length (nmS2 p ((localsP p).map seenE)) (nmG p) (wk_eq hS0 ?_) (fun g2=>?_) (fun j hj hpre=>?_)
 rotate_left 2
 ·exact name_round p hf hp R j hj (hone1 j hj) hpre _ rfl (fun s=>rfl)
 ·refine na_same (r:=0) hms hnol2 ?_ rfl rfl rfl rfl (by (repeat refine over_cons ?_ rfl);exact over_refl)
  repeat' first|exact trivial|refine ⟨⟨_,rfl,?_⟩,?_⟩|exact VW_int (by first|with_reducible rfl|omega)|exact Or.inl ⟨rfl,rfl⟩
 have hall:=hall fun j h=>g2 j h h
 refine aw ?_
 refine WT_break ?_
 repeat (first|refine aw ?_|refine f1 ?_)
 refine WT_for p.decls.length (nmS3 p) (nmG3 p) ?_ (fun g3=>?_) (fun j hj hpre=>?_)
 rotate_left 2
 ·exact name_round3 p hp R j hj (hone2 j hj) hpre (fun s=>rfl)
 ·exact Uw.wM
 rw [hall fun j h=>g3 j h h]
 refine aw ?_
 refine WT_break ?_
 repeat (first|refine aw ?_|refine f1 ?_)
 refine WT_eret 2 rfl rfl ?_
 exact Uw.wM
theorem s_check_Why (p:Pg) (hp:Lim p):Ret P0 n_check_Why [pgD p] (I (whyP p)):=why_of p hp fun hf=>s_search_name p hf hp
end Uw.Tryz
