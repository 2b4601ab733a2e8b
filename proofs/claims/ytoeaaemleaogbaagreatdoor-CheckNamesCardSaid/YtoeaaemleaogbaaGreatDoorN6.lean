/- N6: Ci Cj Cl Cm Cn Co Cp (merged by merge2.py from the working texts). -/
import Derived.Test.YtoeaaemleaogbaaGreatDoorN5
set_option linter.unusedSimpArgs false
set_option linter.unnecessarySimpa false
set_option linter.unusedVariables false
set_option linter.unusedSectionVars false
namespace Uw.Tryz
open Go Uw Go.RowKit
abbrev pgV (p:Pg):Blk:=.var [.d (.slice 3 (p.decls.map decL) false),.d (.slice 3 (p.funs.map fuL) false),.d (nodesD p.nodes)]
abbrev owR:Regs:=[(3,.ptr 2 0),(1,.ptr 0 0)]
abbrev owH (p:Pg) (o:List (List Dat)):Heap:=[(2,.var [.ref 1 0 0 p.nodes.length]),(1,.mt 1 0 o),(0,pgV p)]
def owF (p:Pg) (j:Nat):List Int:=own0 (p.funs.take j) 0 (List.replicate p.nodes.length 0)
theorem own0_snoc:∀(fs:List Fu) (f:Fu) (b:Nat) (o:List Int),own0 (fs++[f]) b o=(own0 fs b o).set f.body.toNat ((b+fs.length:Nat):Int)
 | [],f,b,o=>by simp [own0]
 | g::fs,f,b,o=>by
  rw [List.cons_append,own0,own0,own0_snoc fs f]
  congr 2
  simp;omega
theorem owF_len (p:Pg) (j:Nat):(owF p j).length=p.nodes.length:=by rw [owF,own0_len];simp
theorem owF_succ (p:Pg) (j:Nat) (h:j<p.funs.length):owF p (j+1)=(owF p j).set p.funs[j].body.toNat (j:Int):=by
 rw [owF,owF,List.take_succ_eq_append_getElem h,own0_snoc]
 simp;congr 1;omega
theorem rowI_at {o:List Int} {k:Int} (h:k.toNat<o.length):∃c,(rowI o)[0+k.toNat]? = some [I c]∧c=o.getD k.toNat 0:=by
 refine ⟨o.getD k.toNat 0,?_,rfl⟩
 rw [Nat.zero_add,rowI,List.getElem?_map,List.getElem?_eq_getElem h]
 simp [List.getD,h]
theorem rowI_set {o:List Int} {k:Nat} {c v:Int}:(rowI o).set (0+k) (setAt [I c] 0 [I v])=rowI (o.set k v):=by
 rw [Nat.zero_add,rowI,rowI,List.map_set];rfl
def owK (p:Pg) (k:Nat):List Int:=ownDown ((idx 0 p.nodes).reverse.take k) (owF p p.funs.length)
theorem owK_len (p:Pg) (k:Nat):(owK p k).length=p.nodes.length:=by rw [owK,ownDown_len,owF_len]
theorem ownDown_snoc:∀(l:List (Nat×Nd)) (y:Nat×Nd) (o:List Int),ownDown (l++[y]) o=ownKids (ownDown l o) y.1 y.2
 | [],y,o=>rfl
 | x::l,y,o=>by rw [List.cons_append,ownDown,ownDown,ownDown_snoc l]
theorem idx_len {α:Type}:∀(l:List α) (b:Nat),(idx b l).length=l.length
 | [],_=>rfl
 | x::l,b=>by rw [idx,List.length_cons,List.length_cons,idx_len l]
theorem idx_get {α:Type}:∀(l:List α) (b i:Nat) (h:i<l.length),(idx b l)[i]'(by rw [idx_len];exact h)=(b+i,l[i])
 | x::l,b,0,h=>rfl
 | x::l,b,i+1,h=>by
  have:=idx_get l (b+1) i (by simpa using h)
  simp only [idx,List.getElem_cons_succ]
  rw [this,show b+1+i=b+(i+1) by omega]
theorem owK_succ (p:Pg) (k:Nat) (h:k<p.nodes.length):owK p (k+1)=ownKids (owK p k) (p.nodes.length - 1 - k) p.nodes[p.nodes.length - 1 - k]:=by
 have hl:((idx 0 p.nodes).reverse).length=p.nodes.length:=by rw [List.length_reverse,idx_len]
 rw [owK,owK,List.take_succ_eq_append_getElem (by rw [hl];exact h),ownDown_snoc,List.getElem_reverse]
 have:=idx_get p.nodes 0 (p.nodes.length - 1 - k) (by omega)
 simp only [idx_len]
 rw [this];simp
theorem owK_all (p:Pg):owK p p.nodes.length=ownersP p:=by
 rw [owK,ownersP,List.take_of_length_le (by rw [List.length_reverse,idx_len];exact Nat.le_refl _),owF,List.take_of_length_le (Nat.le_refl _)]
set_option maxRecDepth 4000 in
set_option maxHeartbeats 4000000 in
theorem ow_1 (p:Pg):WT P0 (fun e s=>e = .normal∧Weak s ⟨[(1,.ptr 0 0)],[(0,pgV p)],1,[],0⟩) (exec pc_check_owners_1 (initSt [pgD p]) Tree.done):=by
 repeat refine aw ?_
 refine WT_done ⟨rfl,?_⟩
 exact Uw.wM
set_option maxRecDepth 4000 in
set_option maxHeartbeats 4000000 in
theorem ow_2 (p:Pg) (hn:p.nodes.length<100000):WT P0 (fun e s=>e = .normal∧Weak s ⟨owR,owH p (rowI (owF p 0)),3,[],0⟩) (exec pc_check_owners_2 ⟨[(1,.ptr 0 0)],[(0,pgV p)],1,[],0⟩ Tree.done):=by
 have hnl:(p.nodes.map ndL).length=p.nodes.length:=by simp
 have e0:List.replicate (((p.nodes.map ndL).length:Nat):Int).toNat [I 0]=rowI (owF p 0):=by
  rw [owF,List.take_zero,own0,rowI,List.map_replicate,hnl];simp
 have hmk:(decide ((0:Int)≤((p.nodes.map ndL).length:Nat))&&decide ((((p.nodes.map ndL).length:Nat):Int)≤((p.nodes.map ndL).length:Nat))&&decide ((((p.nodes.map ndL).length:Nat):Int) * ((8:Nat):Int)≤70368744177664))=true:=by simp;omega
 generalize rowI (owF p 0)=O at *
 repeat refine aw ?_
 refine WT_done ⟨rfl,?_⟩
 rw [← e0]
 exact Uw.wM
set_option maxRecDepth 4000 in
set_option maxHeartbeats 4000000 in
theorem ow_3 (p:Pg) (hp:Lim p) (hb:∀(i:Nat) (h:i<p.funs.length),0≤p.funs[i].body∧p.funs[i].body<p.nodes.length):WT P0 (fun e s=>e = .normal∧Weak s ⟨owR,owH p (rowI (owF p p.funs.length)),3,[],0⟩) (exec pc_check_owners_3 ⟨owR,owH p (rowI (owF p 0)),3,[],0⟩ Tree.done):=by
 have hfl:(p.funs.map fuL).length=p.funs.length:=by simp
 have hF:=hp.funs
 have hN:=hp.nodes
 obtain ⟨O,hO⟩:∃O:Nat→List (List Dat),∀j,O j=rowI (owF p j):=⟨_,fun _=>rfl⟩
 have hstep:∀(j:Nat) (h:j<p.funs.length),∃c:Int,(O j)[0+p.funs[j].body.toNat]? = some [I c]∧(O j).set (0+p.funs[j].body.toNat) (setAt [I c] 0 [I j])=O (j+1):=by
  intro j h
  have:=hb j h
  obtain ⟨c,g1,g2⟩:=rowI_at (o:=owF p j) (k:=p.funs[j].body) (by rw [owF_len];omega)
  exact ⟨c,by rw [hO];exact g1,by rw [hO,hO,rowI_set,owF_succ p j h]⟩
 have hel:∀(j:Nat) (h:j<p.funs.length),(p.funs.map fuL)[(j:Int).toNat]? = some (fuL p.funs[j]):=by intro j h;simp [h]
 rw [← hO,← hO]
 repeat refine aw ?_
 refine WT_for p.funs.length (fun j:Nat=>⟨[(17,.d (I j)),(16,.d (I ((p.funs.map fuL).length:Nat))),(15,.d (.slice 3 (p.funs.map fuL) false)),(3,.ptr 2 0),(1,.ptr 0 0)],owH p (O j),3,[],0⟩) (fun _=>True) (by exact Uw.wM) (fun _=>?_) (fun j hj _=>?_)
 ·repeat refine aw ?_
  refine WT_break ?_
  refine WT_done ⟨rfl,?_⟩
  exact Uw.wM
 have he:=hel j hj
 have hs:=hstep j hj
 have hbj:=hb j hj
 clear hstep hel hO hb
 generalize p.funs[j]=f at *
 obtain ⟨fn,fa,fb⟩:=f
 have he:(p.funs.map fuL)[(j:Int).toNat]? = some [.str fn,strsC fa,I fb]:=he
 obtain ⟨c,g1,g2⟩:=hs
 simp only at *
 obtain ⟨b1,b2⟩:=hbj
 repeat refine aw ?_
 exact WT_next j trivial (by exact Uw.wM)
set_option maxRecDepth 4000 in
set_option maxHeartbeats 4000000 in
theorem ow_4 (p:Pg) (o:List (List Dat)):WT P0 (fun e s=>e = .normal∧Weak s ⟨[(30,.func n_slices_Backward_1 [] [.ptr 3 0]),(3,.ptr 2 0),(1,.ptr 0 0)],(3,.var [.d (nodesD p.nodes)])::owH p o,4,[],0⟩) (exec pc_check_owners_4 ⟨owR,owH p o,3,[],0⟩ Tree.done):=by
 repeat refine aw ?_
 refine WT_inl is_slices_Backward rfl ?_
 repeat refine aw ?_
 refine WT_iret rfl rfl ?_
 repeat refine aw ?_
 refine WT_done ⟨rfl,?_⟩
 exact Uw.wM
end Uw.Tryz
namespace Uw.Tryz
open Go Uw Go.RowKit
abbrev owS (p:Pg) (k:Nat):St:=⟨owR,owH p (rowI (owK p k)),3,[],0⟩
def owN (p:Pg) (k:Nat):Nd:=p.nodes.getD (p.nodes.length - 1 - k) default
abbrev owP (p:Pg) (k:Nat):Regs:=[(32,.d (.agg (ndL (owN p k)))),(31,.d (I ((p.nodes.length - 1 - k:Nat):Int)))]
set_option maxRecDepth 4000 in
set_option maxHeartbeats 4000000 in
theorem ow_5 (p:Pg) (hp:Lim p) (k:Nat) (hk:k<p.nodes.length) (hx:∀j∈(owN p k).of,0≤j∧j<((p.nodes.length - 1 - k:Nat):Int)) :
  WT P0 (fun e s=>e = .normal∧WT P0 (fun e s'=>e = .normal∧s'.defers=[]∧Weak ⟨owR,s'.heap,s'.next,[],0⟩ (owS p (k+1))) (exec pc_check_owners_6 s Tree.done)) (exec pc_check_owners_5 ⟨owP p k++owR,(owS p k).heap,(owS p k).next,[],(owS p k).next⟩ Tree.done):=by
 have hlim:=hp.of (owN p k) (by rw [owN];simp [List.getD,show p.nodes.length - 1 - k<p.nodes.length by omega])
 have hN:=hp.nodes
 obtain ⟨i,hi⟩:∃i,p.nodes.length - 1 - k=i:=⟨_,rfl⟩
 have hin:i<p.nodes.length:=by omega
 have hnext:owK p (k+1)=ownKids (owK p k) i (owN p k):=by
  rw [owK_succ p k hk,owN]
  simp [List.getD,hi,hin]
 rw [hi] at hx
 obtain ⟨B,hB⟩:∃B:Nat→List Int,∀j,B j=((owN p k).of.take j).foldl (fun o k=>o.set k.toNat (o.getD i 0)) (owK p k):=⟨_,fun _=>rfl⟩
 obtain ⟨O,hO⟩:∃O:Nat→List (List Dat),∀j,O j=rowI (B j):=⟨_,fun _=>rfl⟩
 have hBl:∀j,(B j).length=p.nodes.length:=fun j=>by rw [hB,foldl_len,owK_len]
 have e0:rowI (owK p k)=O 0:=by rw [hO,hB];rfl
 have e1:rowI (owK p (k+1))=O (owN p k).of.length:=by rw [hO,hB,List.take_length,hnext];rfl
 have hstep:∀(j:Nat) (h:j<(owN p k).of.length),∃u v:Int,(O j)[0+(i:Int).toNat]? = some [I u]∧(O j)[0+(owN p k).of[j].toNat]? = some [I v]∧(O j).set (0+(owN p k).of[j].toNat) (setAt [I v] 0 [I u])=O (j+1):=by
  intro j h
  have h1:=hx _ (List.getElem_mem h)
  obtain ⟨u,u1,u2⟩:=rowI_at (o:=B j) (k:=(i:Int)) (by rw [hBl];omega)
  obtain ⟨v,v1,v2⟩:=rowI_at (o:=B j) (k:=(owN p k).of[j]) (by rw [hBl];omega)
  refine ⟨u,v,by rw [hO];exact u1,by rw [hO];exact v1,?_⟩
  rw [hO,hO,rowI_set,hB (j+1),List.take_succ_eq_append_getElem h,List.foldl_append,← hB,u2]
  rfl
 have hel:∀(j:Nat) (h:j<(owN p k).of.length),((owN p k).of.map fun i=>[I i])[(j:Int).toNat]? = some [I (owN p k).of[j]]:=by intro j h;simp [h]
 have hol:((owN p k).of.map fun i=>[I i]).length=(owN p k).of.length:=by simp
 have hlt:∀(j:Nat) (h:j<(owN p k).of.length),0≤(owN p k).of[j]∧(owN p k).of[j]<(i:Int):=fun j h=>hx _ (List.getElem_mem h)
 have goal2:∀T0 T1:List (List Dat),rowI (owK p k)=T0→rowI (owK p (k+1))=T1→(WT P0 (fun e s=>e = .normal∧WT P0 (fun e s'=>e = .normal∧s'.defers=[]∧Weak ⟨owR,s'.heap,s'.next,[],0⟩ ⟨owR,owH p T1,3,[],0⟩) (exec pc_check_owners_6 s Tree.done)) (exec pc_check_owners_5 ⟨[(32,.d (.agg (ndL (owN p k)))),(31,.d (I (i:Int)))]++owR,owH p T0,3,[],3⟩ Tree.done))→
   WT P0 (fun e s=>e = .normal∧WT P0 (fun e s'=>e = .normal∧s'.defers=[]∧Weak ⟨owR,s'.heap,s'.next,[],0⟩ (owS p (k+1))) (exec pc_check_owners_6 s Tree.done)) (exec pc_check_owners_5 ⟨owP p k++owR,(owS p k).heap,(owS p k).next,[],(owS p k).next⟩ Tree.done):=by
  intro T0 T1 h0 h1 h
  rw [← h0,← h1,← hi] at h
  exact h
 refine goal2 _ _ e0 e1 ?_
 clear goal2 hB hO hBl hnext hx e0 e1
 generalize owN p k=x at *
 obtain ⟨xk,xn,xs,xt,xo⟩:=x
 simp only at *
 show WT P0 _ (exec pc_check_owners_5 ⟨[(32,.d (.agg [I xk,I xn,.str xs,.str xt,intsD xo])),(31,.d (I (i:Int)))]++owR,owH p (O 0),3,[],3⟩ Tree.done)
 repeat refine aw ?_
 refine WT_done ⟨rfl,?_⟩
 repeat refine aw ?_
 refine WT_for xo.length (fun j:Nat=>⟨[(36,.d (I j)),(35,.d (I ((xo.map fun i=>[I i]).length:Nat))),(34,.d (intsD xo)),(6,.d (I i)),(3,.ptr 2 0),(1,.ptr 0 0)],owH p (O j),3,[],3⟩) (fun _=>True) (by exact Uw.wM) (fun _=>?_) (fun j hj _=>?_)
 ·repeat refine aw ?_
  refine WT_break ?_
  refine WT_done ⟨rfl,rfl,?_⟩
  exact Uw.wM
 have he:=hel j hj
 have hs:=hstep j hj
 have hbj:=hlt j hj
 clear hstep hel hlt
 generalize xo[j]=y at *
 obtain ⟨u,v,g1,g2,g3⟩:=hs
 obtain ⟨b1,b2⟩:=hbj
 repeat refine aw ?_
 exact WT_next j trivial (by exact Uw.wM)
theorem ow_put {c:Cx} {R:Regs} {t:Array Value} {d:Nat} {v:V} {x:Value} (hr:RelRegs c R t) (hd:d<t.size) (hv:RelV c v x):RelRegs c ((d,v)::R) (t.setIfInBounds d x):=by
 intro i u hu
 rw [look_cons] at hu
 by_cases hi:d=i
 ·subst hi
  rw [if_pos rfl] at hu
  injection hu with hu;subst hu
  rw [Array.getD_eq_getD_getElem?,Array.getElem?_setIfInBounds_self_of_lt hd]
  exact hv
 ·rw [if_neg hi] at hu
  rw [Array.getD_eq_getD_getElem?,Array.getElem?_setIfInBounds_ne hi,← Array.getD_eq_getD_getElem?]
  exact hr i u hu
theorem ow_range (p:Pg) (hf:formedP p=true) (hp:Lim p) {c1:Cx} {w00:World} {a:Act} {gs:Fr} {Bs:Nat} {C:Nat→Value} {OK:World→Prop} (hg:a.eval (.tmp 30) = .func (.func n_slices_Backward_1) #[] #[.pointer (some ⟨Bs,0,none⟩)])
  (hgs:∀c:Cx,gs.p c→∀(i:Nat) (h:i<p.nodes.length),RelI c.w (Imm c) (.agg (ndL p.nodes[i])) (.agg #[C (i * 5),C (i * 5+1),C (i * 5+2),C (i * 5+3),C (i * 5+4)]))
  (hOK:∀c:Cx,gs.p c→(∀b,c1.J0.X b→c.w.heap[b]? = c1.w.heap[b]?)→OK c.w)
  (hit:Iter P0 n_slices_Backward_1 #[.pointer (some ⟨Bs,0,none⟩)] (fun k=>#[.int .i64 ((p.nodes.length - 1 - k:Nat):Int),.agg #[C ((p.nodes.length - 1 - k) * 5),C ((p.nodes.length - 1 - k) * 5+1),C ((p.nodes.length - 1 - k) * 5+2),C ((p.nodes.length - 1 - k) * 5+3),C ((p.nodes.length - 1 - k) * 5+4)]]) p.nodes.length OK)
  (r:Rel c1 w00 49 gs (owS p 0) a) {Q:Exit→Act→World→Prop} (hdone:∀(c:Cx),c.B=c1.B→c.J0=(c1.others fun b=>b=c1.w.heap.size∨b=c1.w.heap.size+1).J0→Rel c c.w 49 gs (owS p p.nodes.length) a→Below c1.B c1.w c.w→c.w.heap[c1.w.heap.size]? = some (.deferred (some []))→
   Q .normal { a with defers:={ target:=.collected c1.w.heap.size,args:=#[] }::a.defers } c.w):(Code.rangeFunc (.tmp 30) #[31,32] (cL (cL (cR (cL (cR (cR (cR (fnCode P0 n_check_owners)))))))) (cR (cL (cR (cL (cR (cR (cR (fnCode P0 n_check_owners))))))))).wp P0 Q a c1.w:=by
 have hN:=hp.nodes
 have hat:∀(k:Nat) (h:k<p.nodes.length),owN p k=p.nodes[p.nodes.length - 1 - k]'(by omega):=fun k h=>by rw [owN];simp [List.getD,show p.nodes.length - 1 - k<p.nodes.length by omega]
 refine range_wp hg (Go.Proofs.enters_of Go.Proofs.Tryz.func80 (by kernel_rfl) rfl) p.nodes.length _ (fun k=>rfl) owR 0 (owS p) (fun k=>⟨rfl,rfl,rfl⟩) r OK hOK hit cp_check_owners_5 cp_check_owners_6 (by kernel_rfl) (by kernel_rfl) (owP p) ?_ ?_ hdone
 ·intro k c hk hgp hr
  have hsz:a.tmps.size=49:=r.size
  have h1:RelV c (.d (I ((p.nodes.length - 1 - k:Nat):Int))) (.int .i64 ((p.nodes.length - 1 - k:Nat):Int)):=by
   show RelI _ _ _ _
   simp only [RelI]
  have h2:=hgs c hgp (p.nodes.length - 1 - k) (by omega)
  rw [← hat k hk] at h2
  have he:∀(x1 x2:Value),(#[31,32].zip #[x1,x2]).foldl (fun t ((p,v):Nat×Value)=>t.setIfInBounds p v) a.tmps=(a.tmps.setIfInBounds 31 x1).setIfInBounds 32 x2:=fun _ _=>by simp only [List.zip_toArray,List.foldl_toArray];rfl
  show RelRegs c (owP p k++owR) ((#[31,32].zip #[_,_]).foldl (fun t ((p,v):Nat×Value)=>t.setIfInBounds p v) a.tmps)
  rw [he]
  exact ow_put (ow_put hr (show 31<a.tmps.size by omega) h1) (show 32<(a.tmps.setIfInBounds 31 _).size by simp;omega) (v:=.d (.agg (ndL (owN p k)))) h2
 ·intro k hk
  refine ow_5 p hp k hk ?_
  rw [hat k hk]
  exact (formed_node hf _ (by omega)).1
theorem s_check_owners (p:Pg) (hf:formedP p=true) (hp:Lim p):Ret P0 n_check_owners [pgD p] (intsD (ownersP p)):=by
 have hN:=hp.nodes
 refine Ret_of_wp hc_check_owners (Nat.le_of_ble_eq_true rfl) ?_
 rintro fn w J c a hres hB hJ rfl hd r
 refine wp_step cp_check_owners_1 r _ (ow_1 p) ?_
 intro c2 a2 b2 j2 r2
 refine wp_step cp_check_owners_2 r2 _ (ow_2 p hN) ?_
 intro c3 a3 b3 j3 r3
 refine wp_step cp_check_owners_3 r3 _ (ow_3 p hp fun i h=>⟨(formed_body hf i h).1,(formed_body hf i h).2.1⟩) ?_
 intro c4 a4 b4 j4 r4
 refine wp_seq (wp_step cp_check_owners_4 r4 _ (ow_4 p _) ?_)
 intro c5 a5 b5 j5 r5
 have hB5:c5.B=c.w.heap.size:=b5.trans (b4.trans (b3.trans (b2.trans hB)))
 have hJ5:c5.J0=⟨J,fun _=>False⟩:=j5.trans (j4.trans (j3.trans (j2.trans hJ)))
 have hd5:a5.defers=[]:=r5.defers
 -- the iterator's value,and its box
 obtain ⟨us,vs,hfv,hus,hvs⟩:=r5.regs 30 (.func n_slices_Backward_1 [] [.ptr 3 0]) rfl
 obtain ⟨v,vs',rfl,⟨_,hv⟩,hvs'⟩:=hvs
 simp only [RelVL] at hus hvs'
 subst hus hvs' hv
 obtain ⟨ws,e,hbox,hbv⟩:=r5.hrel.blk 3 (.var [.d (nodesD p.nodes)]) (by rw [r5.heap];rfl)
 obtain ⟨sv,ws',hws,hsv,hws'⟩:=hbv
 simp only [RelVL] at hws'
 subst hws'
 have hws:ws = #[sv]:=by rw [← Array.toList_inj];exact hws
 subst hws
 -- the box is forgotten,and nobody's from here on
 have hwk:WeakR (renF []) ⟨[(30,.func n_slices_Backward_1 [] [.ptr 3 0]),(3,.ptr 2 0),(1,.ptr 0 0)],(3,.var [.d (nodesD p.nodes)])::owH p (rowI (owF p p.funs.length)),4,[],0⟩ (owS p 0):=by
  refine WeakR.of ?_ ?_ rfl rfl ?_ rfl rfl<;>repeat' first|exact trivial|refine ⟨⟨_,rfl,?_⟩,?_⟩|exact Or.inl ⟨rfl,rfl⟩|exact BSim_by rfl rfl|refine ⟨⟨Or.inl ⟨_,rfl,?_⟩,rfl⟩,?_⟩|refine And.intro ?_ ?_
 obtain ⟨r6,hgb⟩:=r5.forget hwk (id0:=3) rfl rfl
 have hBs:(c5.pl 3).gb<c5.w.heap.size:=(Array.getElem?_eq_some_iff.1 hbox).1
 have hBB:c5.B≤(c5.pl 3).gb:=by
  have:=r5.hrel.ge 3 (.var [.d (nodesD p.nodes)]) (by rw [r5.heap];rfl) trivial
  exact Nat.le_of_not_lt fun h=>this (.inl h)
 have r7:=r6.others (fun b=>b=(c5.pl 3).gb) (fun b hb=>by subst hb;exact hBs) (fun b hb id blk hl hp=>by subst hb;exact hgb id blk hl hp)
 generalize hBe:(c5.pl 3).gb=Bs at *
 obtain ⟨c7,hc7⟩:∃c7,c7=(c5.weak (renF []) (owS p 0).heap).others (fun b=>b=Bs):=⟨_,rfl⟩
 rw [← hc7] at r7
 have hw7:c7.w=c5.w:=by rw [hc7];rfl
 have hB7:c7.B=c.w.heap.size:=by rw [hc7];exact hB5
 have hJ7:c7.J0=⟨fun b o=>J b o∨b=Bs,fun b=>False∨b=Bs⟩:=by
  rw [hc7]
  show (⟨fun b o=>c5.J0.J b o∨b=Bs,fun b=>c5.J0.X b∨b=Bs⟩:JX)=_
  rw [hJ5]
 have hsv7:RelI c7.w (Imm c7) (nodesD p.nodes) sv:=by
  have h1:RelI c5.w (Imm c5) (nodesD p.nodes) sv:=hsv
  have hk:Keeps c5.w c7.w (Imm c5) (Imm c7):=by
   intro b o hi
   rw [hc7]
   have h2:=keeps_weak (c:=c5) (ρ:=renF []) (h':=(owS p 0).heap) (by rw [r5.heap];exact hwk.heap) b o hi
   exact (Evo.others (c:=c5.weak (renF []) (owS p 0).heap) (fun b=>b=Bs)).keeps b o h2.1
  exact RelI.keep hk _ _ h1
 have hbox7:c7.w.heap[Bs]? = some (.cells #[sv] e (0,0)):=by rw [hw7];exact hbox
 rw [← hw7]
 have hbel:Below c.w.heap.size c.w c7.w:=by
  have:=r5.hrel.below
  rw [hB5] at this
  rw [hw7];exact this
 have hfin:∀(gs:Fr) (cc:Cx),cc.B=c7.B→cc.J0=(c7.others fun b=>b=c7.w.heap.size∨b=c7.w.heap.size+1).J0→Rel cc cc.w 49 gs (owS p p.nodes.length) a5→Below c7.B c7.w cc.w→cc.w.heap[c7.w.heap.size]? = some (.deferred (some []))→
   Code.wp P0 (cR (cR (cR (cR (fnCode P0 n_check_owners))))) (bodyPostM Fence.wide 0 P0 fn (RetR c.w J (intsD (ownersP p)))) { a5 with defers:={ target:=.collected c7.w.heap.size,args:=#[] }::a5.defers } cc.w:=by
  intro gs cc e1 e2 r8 e3 e4
  have hX:∀b,cc.J0.X b→c.w.heap.size≤b:=by
   intro b hb
   rw [e2] at hb
   have hs7:=hbel.size
   rcases hb with hb|hb|hb
   ·rw [hJ7] at hb
    rcases hb with hb|hb
    ·exact hb.elim
    ·rw [hb,← hB5];exact hBB
   ·rw [hb];exact hs7
   ·rw [hb];omega
  refine wp_end hres cp_check_owners_7 r8 hd5 (e1.trans hB7) (by rw [e2];exact .inr (.inl rfl)) hX ?_ e4 (hbel.trans (by rw [hB7] at e3;exact e3)) ?_
  ·intro b o hb
   rw [e2] at hb ⊢
   rcases hb with hb|hb
   ·rw [hJ7] at hb
    rcases hb with hb|hb
    ·exact .inl hb
    ·exact .inr (.inl (by rw [hJ7];exact .inr hb))
   ·exact .inr (.inr hb)
  ·have hl:(List.drop 0 (rowI (ownersP p))).take p.nodes.length=rowI (ownersP p):=by
    rw [List.drop_zero,List.take_of_length_le (by rw [rowI,List.length_map,ownersP_len];exact Nat.le_refl _)]
   rw [← owK_all] at hl ⊢
   show WT P0 (RetQ _ (.slice 1 (rowI (owK p p.nodes.length)) false)) (exec pc_check_owners_7 ⟨owR,owH p (rowI (owK p p.nodes.length)),3,[],0⟩ Tree.done)
   generalize rowI (owK p p.nodes.length)=O at *
   repeat refine aw ?_
   refine WT_ret rfl rfl rfl rfl ?_
   exact congrArg (fun l=>Dat.slice 1 l false) hl
 have hg:a5.eval (.tmp 30) = .func (.func n_slices_Backward_1) #[] #[.pointer (some ⟨Bs,0,none⟩)]:=hfv
 refine wp_block ?_
 rcases hsv7 with ⟨⟨x,hx,_⟩,hnil⟩|⟨b,off,cap,hx,hcap,_,hel⟩
 ·-- no nodes
  have hn0:p.nodes=[]:=by simpa using hnil
  refine ow_range p hf hp (gs:=Fr.none) (C:=fun _=>undef) (OK:=fun W=>W.cell? ⟨Bs,0,none⟩=some (.slice x 0 0)) hg (fun c _ i h=>by rw [hn0] at h;simp at h) ?_ ?_ r7 ?_
  ·intro c' _ hX
   have:=hX Bs (by rw [hJ7];exact .inr rfl)
   rw [World.cell?_of_block this]
   unfold World.cell?
   rw [hbox7,hx];rfl
  ·intro l J' W hY hOK' h0
   rw [hn0]
   exact Go.Proofs.Tryz.backward0_in l Bs x J' hOK' W h0
  ·intro cc e1 e2 r8 e3 e4
   exact hfin _ cc e1 e2 r8 e3 e4
 ·have hlen:(p.nodes.map ndL).length=p.nodes.length:=by simp
  have hat:NodesAt p.nodes b off (fun m=>(c7.w.cell? ⟨b,off+m,none⟩).getD undef) c7:=NodesAt.of fun i h=>by
   have:=RelE_get hel i (by rw [hlen];exact h)
   simpa using this
  generalize (fun m=>(c7.w.cell? ⟨b,off+m,none⟩).getD undef)=C at hat
  have r8:Rel c7 c5.w 49 (nodesFr p.nodes b off C) (owS p 0) a5:=by
   rw [← hw7]
   exact ⟨r7.heap,by rw [hw7];exact r7.hrel,r7.size,r7.regs,hat,Nat.zero_le _,r7.base,r7.defers⟩
  refine ow_range p hf hp (gs:=nodesFr p.nodes b off C) (C:=C) (OK:=fun W=>W.cell? ⟨Bs,0,none⟩=some (.slice (some ⟨b,off,none⟩) p.nodes.length cap)∧∀m,m<p.nodes.length * 5→W.cell? ⟨b,off+m,none⟩=some (C m)) hg (fun c h i hi=>NodesAt.agg h i hi) ?_ ?_ r8 ?_
  ·intro c' hc' hX
   refine ⟨?_,fun m hm=>NodesAt.cell hc' m hm⟩
   have:=hX Bs (by rw [hJ7];exact .inr rfl)
   rw [World.cell?_of_block this]
   unfold World.cell?
   rw [hbox7,hx,hlen];rfl
  ·intro l J' W hY hOK' h0
   exact Go.Proofs.Tryz.backward_in l Bs b off p.nodes.length cap C (by omega) J' hY hOK' W h0
  ·intro cc e1 e2 r9 e3 e4
   exact hfin _ cc e1 e2 r9 e3 e4
end Uw.Tryz
namespace Uw
open Go
mutual
theorem ren_nil:∀v:V,v.ren (renF [])=v
 | .ptr id o=>rfl
 | .eptr id v i c=>rfl
 | .ref id v o l=>rfl
 | .agg cs=>by rw [V.ren,renL_nil cs]
 | .func f fs cs=>by rw [V.ren,renL_nil fs,renL_nil cs]
 | .tuple cs=>by rw [V.ren,renL_nil cs]
 | .d x=>rfl
 | .ro cs o=>rfl
 | .hnd id=>rfl
 | .row id len=>rfl
 | .undef=>rfl
theorem renL_nil:∀l:List V,renL (renF []) l=l
 | []=>rfl
 | v::r=>by rw [renL,ren_nil v,renL_nil r]
end
section
variable [Glob]
theorem Weak.looks {R R' : Regs} {H H' : Heap} {n n' b:Nat} (h1:subR (renF []) R H H' R') (h2:∀id x,look H' id=some x→look H id=some x∧x.closed H' = true∧id<n') (h3:b≤n') (h4:∀id,id<b→(look H id).isSome=true→(look H' id).isSome=true):Weak ⟨R,H,n,[],b⟩ ⟨R',H',n',[],b⟩:=by
 refine ⟨renF [],fun i v h=>subR_look h1 i v h,fun i x h=>.inl ⟨x,(h2 i x h).1,BSim_by ?_ (h2 i x h).2.1⟩,fun i x h=>(h2 i x h).2.2,rfl,h3,fun id hid=>⟨rfl,h4 id hid⟩,fun id id' _ _ he=>he,rfl,rfl⟩
 cases x with
 | var cs=>show Blk.var cs=Blk.var (renL (renF []) cs);rw [renL_nil]
 | _=>rfl
theorem f1 {P:Program} {Q:MExit→St→Prop} {t t' : Tree} (hgo' : WT P Q t') (h:WT P Q t'→WT P Q t:=by
  first
  | (show _→WT _ _ (Tree.vval _ _)
     first
     | exact WT_vval _ (by assumption)
     | exact WT_vval _ rfl)
  | (show _→WT _ _ (Tree.blk _ _)
     first
     | exact WT_blk _ (by assumption)
     | exact WT_blk _ rfl)):WT P Q t:=h hgo'
end
end Uw
namespace Uw.Tryz
open Go Uw
abbrev rowT (l:List Str):List (List Dat):=l.map fun s=>[.str s]
def famG (rid mid:Nat→Nat):Nat→List (List Str)→List MS→Heap
 | i,l::ls,m::ms=>(if l=[] then [] else [(rid i,Blk.arr 1 (rowT l))])++(mid i,Blk.map none m)::famG rid mid (i+1) ls ms
 | _,_,_=>[]
structure FamI (rid mid:Nat→Nat) (n:Nat):Prop where
 rr:∀i j,i<n→j<n→rid i=rid j→i=j
 mm:∀i j,i<n→j<n→mid i=mid j→i=j
 rm:∀i j,i<n→j<n→rid i≠mid j
theorem look_app {h g:Heap} {id:Nat}:look (h++g) id=match look h id with|some b=>some b|none=>look g id:=by
 induction h with
 | nil=>rfl
 | cons p h ih=>
  obtain ⟨j,x⟩:=p
  rw [List.cons_append,look_cons,look_cons]
  by_cases hj:j=id
  ·rw [if_pos hj,if_pos hj]
  ·rw [if_neg hj,if_neg hj,ih]
theorem fam_inv {rid mid:Nat→Nat}:∀{ls:List (List Str)} {ms:List MS} {i id:Nat} {b:Blk},look (famG rid mid i ls ms) id=some b→
  (∃k m,k<ls.length∧k<ms.length∧ms[k]? = some m∧id=mid (i+k)∧b = .map none m)∨(∃k l,k<ls.length∧k<ms.length∧ls[k]? = some l∧l≠[]∧id=rid (i+k)∧b = .arr 1 (rowT l))
 | [],_,i,id,b,h=>by simp [famG,look] at h
 | l::ls,[],i,id,b,h=>by simp [famG,look] at h
 | l::ls,m::ms,i,id,b,h=>by
  rw [famG] at h
  by_cases hl:l=[]
  ·rw [if_pos hl,List.nil_append] at h
   have h:look ((mid i,Blk.map none m)::famG rid mid (i+1) ls ms) id=some b:=h
   rw [look_cons] at h
   by_cases hm:mid i=id
   ·rw [if_pos hm] at h;injection h with h
    exact .inl ⟨0,m,by simp,by simp,rfl,hm.symm,h.symm⟩
   ·rw [if_neg hm] at h
    rcases fam_inv h with ⟨k,m',h1,h2,h3,h4,h5⟩|⟨k,l',h1,h2,h3,h4,h5,h6⟩
    ·exact .inl ⟨k+1,m',by simpa using h1,by simpa using h2,by simpa using h3,by rw [h4];congr 1;omega,h5⟩
    ·exact .inr ⟨k+1,l',by simpa using h1,by simpa using h2,by simpa using h3,h4,by rw [h5];congr 1;omega,h6⟩
  ·rw [if_neg hl,List.cons_append,List.nil_append,look_cons] at h
   by_cases hr:rid i=id
   ·rw [if_pos hr] at h;injection h with h
    exact .inr ⟨0,l,by simp,by simp,rfl,hl,hr.symm,h.symm⟩
   ·rw [if_neg hr] at h
    have h:look ((mid i,Blk.map none m)::famG rid mid (i+1) ls ms) id=some b:=h
    rw [look_cons] at h
    by_cases hm:mid i=id
    ·rw [if_pos hm] at h;injection h with h
     exact .inl ⟨0,m,by simp,by simp,rfl,hm.symm,h.symm⟩
    ·rw [if_neg hm] at h
     rcases fam_inv h with ⟨k,m',h1,h2,h3,h4,h5⟩|⟨k,l',h1,h2,h3,h4,h5,h6⟩
     ·exact .inl ⟨k+1,m',by simpa using h1,by simpa using h2,by simpa using h3,by rw [h4];congr 1;omega,h5⟩
     ·exact .inr ⟨k+1,l',by simpa using h1,by simpa using h2,by simpa using h3,h4,by rw [h5];congr 1;omega,h6⟩
theorem fam_mid {rid mid:Nat→Nat} {n:Nat} (hI:FamI rid mid n):∀{ls:List (List Str)} {ms:List MS} {i k:Nat} {m:MS},i+ls.length≤n→k<ls.length→ms[k]? = some m→look (famG rid mid i ls ms) (mid (i+k))=some (.map none m)
 | [],ms,i,k,m,_,hk,_=>by simp at hk
 | l::ls,[],i,k,m,_,_,h=>by simp at h
 | l::ls,m0::ms,i,k,m,hn,hk,h=>by
  simp at hn hk
  have h1:∀(y:Heap),look ((if l=[] then [] else [(rid i,Blk.arr 1 (rowT l))])++y) (mid (i+k))=look y (mid (i+k)):=by
   intro y
   split
   ·rfl
   ·rw [List.cons_append,look_cons,if_neg (hI.rm i (i+k) (by omega) (by omega))];rfl
  rw [famG,h1,look_cons]
  cases k with
  | zero=>rw [if_pos (show mid i=mid (i+0) from rfl)];simp at h;rw [h]
  | succ k=>
   rw [if_neg (fun e=>by have:=hI.mm _ _ (by omega) (by omega) e;omega),show i+(k+1)=i+1+k by omega]
   exact fam_mid hI (by omega) (by omega) (by simpa using h)
theorem fam_rid {rid mid:Nat→Nat} {n:Nat} (hI:FamI rid mid n):∀{ls:List (List Str)} {ms:List MS} {i k:Nat} {l:List Str},i+ls.length≤n→k<ms.length→ls[k]? = some l→l≠[]→look (famG rid mid i ls ms) (rid (i+k))=some (.arr 1 (rowT l))
 | [],ms,i,k,l,_,_,h,_=>by simp at h
 | l0::ls,[],i,k,l,_,hk,_,_=>by simp at hk
 | l0::ls,m0::ms,i,k,l,hn,hk,h,hl=>by
  simp at hn hk
  have hkl:k<(l0::ls).length:=by
   rcases Nat.lt_or_ge k (l0::ls).length with g|g
   ·exact g
   ·rw [List.getElem?_eq_none g] at h;cases h
  simp at hkl
  rw [famG]
  cases k with
  | zero=>
   simp at h;subst h
   rw [if_neg hl,List.cons_append,look_cons,if_pos (by simp)]
  | succ k=>
   have h1:∀(y:Heap),look ((if l0=[] then [] else [(rid i,Blk.arr 1 (rowT l0))])++y) (rid (i+(k+1)))=look y (rid (i+(k+1))):=by
    intro y
    split
    ·rfl
    ·rw [List.cons_append,look_cons,if_neg (fun e=>by have:=hI.rr _ _ (by omega) (by omega) e;omega)];rfl
   rw [h1,look_cons,if_neg (fun e=>hI.rm (i+(k+1)) i (by omega) (by omega) e.symm),show i+(k+1)=i+1+k by omega]
   exact fam_rid hI (by omega) (by omega) (by simpa using h) hl
def rowsV (rid:Nat→Nat):Nat→List (List Str)→List V
 | _,[]=>[]
 | i,l::ls=>(if l=[] then V.d (.slice 1 [] true) else .ref (rid i) 0 0 l.length)::rowsV rid (i+1) ls
def mapsV (mid:Nat→Nat):Nat→Nat→List V
 | _,0=>[]
 | i,n+1=>.hnd (mid i)::mapsV mid (i+1) n
theorem rowsV_len (rid:Nat→Nat):∀(ls:List (List Str)) (i:Nat),(rowsV rid i ls).length=ls.length
 | [],_=>rfl
 | l::ls,i=>by rw [rowsV,List.length_cons,rowsV_len rid ls,List.length_cons]
theorem mapsV_len (mid:Nat→Nat):∀(n i:Nat),(mapsV mid i n).length=n
 | 0,_=>rfl
 | n+1,i=>by rw [mapsV,List.length_cons,mapsV_len mid n]
theorem rowsV_get (rid:Nat→Nat):∀(ls:List (List Str)) (i k:Nat) (l:List Str),ls[k]? = some l→(rowsV rid i ls)[k]? = some (if l=[] then V.d (.slice 1 [] true) else .ref (rid (i+k)) 0 0 l.length)
 | [],i,k,l,h=>by simp at h
 | l0::ls,i,0,l,h=>by simp at h;subst h;rfl
 | l0::ls,i,k+1,l,h=>by
  rw [rowsV,List.getElem?_cons_succ,rowsV_get rid ls (i+1) k l (by simpa using h),show i+1+k=i+(k+1) by omega]
theorem mapsV_get (mid:Nat→Nat):∀(n i k:Nat),k<n→(mapsV mid i n)[k]? = some (.hnd (mid (i+k)))
 | 0,i,k,h=>by omega
 | n+1,i,0,h=>rfl
 | n+1,i,k+1,h=>by rw [mapsV,List.getElem?_cons_succ,mapsV_get mid n (i+1) k (by omega),show i+1+k=i+(k+1) by omega]
theorem rowsV_snoc (rid:Nat→Nat):∀(ls:List (List Str)) (l:List Str) (i:Nat),rowsV rid i (ls++[l])=rowsV rid i ls++[if l=[] then V.d (.slice 1 [] true) else .ref (rid (i+ls.length)) 0 0 l.length]
 | [],l,i=>rfl
 | l0::ls,l,i=>by rw [List.cons_append,rowsV,rowsV,rowsV_snoc rid ls,List.cons_append,List.length_cons,show i+1+ls.length=i+(ls.length+1) by omega]
theorem mapsV_snoc (mid:Nat→Nat):∀(n i:Nat),mapsV mid i (n+1)=mapsV mid i n++[.hnd (mid (i+n))]
 | 0,i=>rfl
 | n+1,i=>by rw [mapsV,mapsV_snoc mid n,mapsV,List.cons_append,show i+1+n=i+(n+1) by omega]
theorem rowsV_congr {rid rid' : Nat→Nat}:∀(ls:List (List Str)) (i:Nat),(∀k l,ls[k]? = some l→l≠[]→rid (i+k)=rid' (i+k))→rowsV rid i ls=rowsV rid' i ls
 | [],_,_=>rfl
 | l::ls,i,h=>by
  have ih:rowsV rid (i+1) ls=rowsV rid' (i+1) ls:=rowsV_congr ls (i+1) fun k l' hk hl=>by
   have:=h (k+1) l' (by simpa using hk) hl
   rwa [show i+(k+1)=i+1+k by omega] at this
  rw [rowsV,rowsV,ih]
  by_cases hl:l=[]
  ·rw [if_pos hl,if_pos hl]
  ·rw [if_neg hl,if_neg hl,show rid i=rid' i from h 0 l rfl hl]
theorem mapsV_congr {mid mid' : Nat→Nat}:∀(n i:Nat),(∀k,k<n→mid (i+k)=mid' (i+k))→mapsV mid i n=mapsV mid' i n
 | 0,_,_=>rfl
 | n+1,i,h=>by
  have ih:mapsV mid (i+1) n=mapsV mid' (i+1) n:=mapsV_congr n (i+1) fun k hk=>by
   have:=h (k+1) (by omega)
   rwa [show i+(k+1)=i+1+k by omega] at this
  rw [mapsV,mapsV,show mid i=mid' i from h 0 (by omega),ih]
end Uw.Tryz
namespace Uw
open Go
section
variable [Glob]
theorem Weak.looksR (ρ:Nat→Nat) {R R' : Regs} {H H' : Heap} {n n' : Nat} (h1:subR ρ R H H' R') (h2:∀id x,look H' id=some x→(∃y,look H (ρ id)=some y∧BSim ρ H H' y x)∧id<n')
  (h3:∀id id',(look H' id).isSome=true→(look H' id').isSome=true→ρ id=ρ id'→id=id'):Weak ⟨R,H,n,[],0⟩ ⟨R',H',n',[],0⟩:=
 ⟨ρ,fun i v h=>subR_look h1 i v h,fun i x h=>.inl (h2 i x h).1,fun i x h=>(h2 i x h).2,rfl,Nat.zero_le _,fun id hid=>absurd hid (Nat.not_lt_zero _),h3,rfl,rfl⟩
end
end Uw
namespace Uw.Tryz
open Go Uw
def seenE (l:List Str):MS:=l.foldl (fun es s=>mset es (.s s) (.bool true)) []
theorem seenE_snoc (l:List Str) (s:Str):seenE (l++[s])=mset (seenE l) (.s s) (.bool true):=by rw [seenE,List.foldl_append];rfl
theorem seen_get:∀(l:List Str) (es:MS) (s:Str),mget (l.foldl (fun es s=>mset es (.s s) (.bool true)) es) (.s s)=if s∈l then some (.bool true) else mget es (.s s)
 | [],es,s=>by simp
 | a::l,es,s=>by
  rw [List.foldl_cons,seen_get l,mget_mset]
  by_cases h:s∈l
  ·rw [if_pos h,if_pos (by simp [h])]
  ·rw [if_neg h]
   by_cases ha:s=a
   ·subst ha;simp
   ·simp [ha,h]
theorem seenE_get (l:List Str) (s:Str):mget (seenE l) (.s s)=if s∈l then some (.bool true) else none:=seen_get l [] s
def rid (i:Nat):Nat:=4+2 * i
def mid (i:Nat):Nat:=5+2 * i
theorem famI (n:Nat):FamI rid mid n:=⟨fun i j _ _ h=>by simp [rid] at h;omega,fun i j _ _ h=>by simp [mid] at h;omega,fun i j _ _ h=>by simp [rid,mid] at h;omega⟩
abbrev famF (ls:List (List Str)) (ms:List MS):Heap:=famG rid mid 0 ls ms
theorem famF_inv {ls:List (List Str)} {ms:List MS} {id:Nat} {b:Blk} (h:look (famF ls ms) id=some b):4≤id∧id<4+2 * ls.length∧(∀H:Heap,b.closed H=true)∧∀ρ:Nat→Nat,b.ren ρ=b:=by
 rcases fam_inv h with ⟨k,m,h1,_,_,rfl,rfl⟩|⟨k,l,h1,_,_,_,rfl,rfl⟩
 ·exact ⟨by simp [mid];omega,by simp [mid];omega,fun _=>rfl,fun _=>rfl⟩
 ·exact ⟨by simp [rid],by simp [rid];omega,fun _=>rfl,fun _=>rfl⟩
abbrev loH (p:Pg) (rv mv:List V) (fam:Heap):Heap:=(2,.var rv)::(3,.var mv)::(1,.map none (thE p.decls))::(0,pgV p)::fam
theorem loH_low {p:Pg} {rv mv:List V} {fam:Heap} {id:Nat} (h:4≤id):look (loH p rv mv fam) id=look fam id:=by
 rw [look_cons,if_neg (by omega),look_cons,if_neg (by omega),look_cons,if_neg (by omega),look_cons,if_neg (by omega)]
theorem loH_inv {p:Pg} {rv mv:List V} {fam:Heap} {id:Nat} {b:Blk} (h:look (loH p rv mv fam) id=some b):(id=2∧b = .var rv)∨(id=3∧b = .var mv)∨(id=1∧b = .map none (thE p.decls))∨(id=0∧b=pgV p)∨look fam id=some b:=by
 rw [look_cons] at h
 by_cases h2:2=id
 ·rw [if_pos h2] at h;injection h with h;exact .inl ⟨h2.symm,h.symm⟩
 rw [if_neg h2,look_cons] at h
 by_cases h3:3=id
 ·rw [if_pos h3] at h;injection h with h;exact .inr (.inl ⟨h3.symm,h.symm⟩)
 rw [if_neg h3,look_cons] at h
 by_cases h1:1=id
 ·rw [if_pos h1] at h;injection h with h;exact .inr (.inr (.inl ⟨h1.symm,h.symm⟩))
 rw [if_neg h1,look_cons] at h
 by_cases h0:0=id
 ·rw [if_pos h0] at h;injection h with h;exact .inr (.inr (.inr (.inl ⟨h0.symm,h.symm⟩)))
 rw [if_neg h0] at h
 exact .inr (.inr (.inr (.inr h)))
theorem closedL_iff {H:Heap}:∀{l:List V},closedL H l=true↔∀v∈l,v.closed H=true
 | []=>by simp [closedL]
 | v::l=>by simp [closedL,closedL_iff]
theorem rows_closed {p:Pg} {ls:List (List Str)} {ms:List MS} {rv mv:List V} {r:Nat} (hms:ms.length=ls.length):closedL (loH p rv mv (famF ls ms)) (rowsV rid 0 ls++List.replicate r (.d .nil))=true:=by
 rw [closedL_iff]
 intro v hv
 rcases List.mem_append.1 hv with hv|hv
 ·obtain ⟨k,hk⟩:=List.mem_iff_getElem?.1 hv
  have hkl:k<ls.length:=by
   rcases Nat.lt_or_ge k ls.length with h|h
   ·exact h
   ·rw [List.getElem?_eq_none (by rw [rowsV_len];exact h)] at hk;cases hk
  rw [rowsV_get rid ls 0 k ls[k] (by simp [hkl])] at hk
  injection hk with hk
  subst hk
  split
  ·rfl
  ·rename_i hne
   have:=fam_rid (rid:=rid) (mid:=mid) (famI ls.length) (ls:=ls) (ms:=ms) (i:=0) (k:=k) (l:=ls[k]) (by omega) (by omega) (by simp [hkl]) hne
   show (look _ _).isSome=true
   rw [loH_low (by simp [rid])]
   show (look (famG rid mid 0 ls ms) _).isSome=true
   rw [this];rfl
 ·rw [List.mem_replicate] at hv
  rw [hv.2];rfl
theorem maps_closed {p:Pg} {ls:List (List Str)} {ms:List MS} {rv mv:List V} {r n:Nat} (hms:ms.length=ls.length) (hn:n=ls.length):closedL (loH p rv mv (famF ls ms)) (mapsV mid 0 n++List.replicate r (.d .nilMap))=true:=by
 subst hn
 rw [closedL_iff]
 intro v hv
 rcases List.mem_append.1 hv with hv|hv
 ·obtain ⟨k,hk⟩:=List.mem_iff_getElem?.1 hv
  have hkl:k<ls.length:=by
   rcases Nat.lt_or_ge k ls.length with h|h
   ·exact h
   ·rw [List.getElem?_eq_none (by rw [mapsV_len];exact h)] at hk;cases hk
  rw [mapsV_get mid ls.length 0 k hkl] at hk
  injection hk with hk
  subst hk
  have:=fam_mid (rid:=rid) (mid:=mid) (famI ls.length) (ls:=ls) (ms:=ms) (i:=0) (k:=k) (m:=ms[k]) (by omega) (by omega) (by simp [show k<ms.length by omega])
  show (look _ _).isSome=true
  rw [loH_low (by simp [mid];omega)]
  show (look (famG rid mid 0 ls ms) _).isSome=true
  rw [this];rfl
 ·rw [List.mem_replicate] at hv
  rw [hv.2];rfl
theorem lo_same {p:Pg} {ls:List (List Str)} {ms:List MS} {R R' : Regs} {H:Heap} {r r' n:Nat} (hms:ms.length=ls.length) (hl:ls.length<100000) (h1:subR (renF []) R H (loH p (rowsV rid 0 ls++List.replicate r (.d .nil)) (mapsV mid 0 ls.length++List.replicate r' (.d .nilMap)) (famF ls ms)) R')
  (e2:look H 2=some (.var (rowsV rid 0 ls++List.replicate r (.d .nil)))) (e3:look H 3=some (.var (mapsV mid 0 ls.length++List.replicate r' (.d .nilMap)))) (e1:look H 1=some (.map none (thE p.decls))) (e0:look H 0=some (pgV p))
  (hf:∀id x,look (famF ls ms) id=some x→look H id=some x):Weak ⟨R,H,n,[],0⟩ ⟨R',loH p (rowsV rid 0 ls++List.replicate r (.d .nil)) (mapsV mid 0 ls.length++List.replicate r' (.d .nilMap)) (famF ls ms),1000000,[],0⟩:=by
 refine Weak.looks h1 ?_ (Nat.zero_le _) (fun id h=>absurd h (Nat.not_lt_zero _))
 intro id x hx
 rcases loH_inv hx with ⟨rfl,rfl⟩|⟨rfl,rfl⟩|⟨rfl,rfl⟩|⟨rfl,rfl⟩|hx
 ·exact ⟨e2,rows_closed hms,by omega⟩
 ·exact ⟨e3,maps_closed hms rfl,by omega⟩
 ·exact ⟨e1,rfl,by omega⟩
 ·exact ⟨e0,rfl,by omega⟩
 ·obtain ⟨g1,g2,g3,_⟩:=famF_inv hx
  exact ⟨hf _ _ hx,g3 _,by omega⟩
end Uw.Tryz
namespace Uw.Tryz
open Go Uw
theorem renL_app {ρ:Nat→Nat}:∀(a b:List V),renL ρ (a++b)=renL ρ a++renL ρ b
 | [],b=>rfl
 | v::a,b=>by rw [List.cons_append,renL,renL_app a,renL,List.cons_append]
theorem renL_rep {ρ:Nat→Nat} (x:Dat):∀r,renL ρ (List.replicate r (.d x))=List.replicate r (.d x)
 | 0=>rfl
 | r+1=>by rw [List.replicate_succ,renL,renL_rep x r];rfl
theorem renL_rows {ρ:Nat→Nat} (rid:Nat→Nat):∀(ls:List (List Str)) (i:Nat),renL ρ (rowsV rid i ls)=rowsV (fun k=>ρ (rid k)) i ls
 | [],i=>rfl
 | l::ls,i=>by
  rw [rowsV,renL,renL_rows rid ls,rowsV]
  congr 1
  split<;>rfl
theorem renL_maps {ρ:Nat→Nat} (mid:Nat→Nat):∀(n i:Nat),renL ρ (mapsV mid i n)=mapsV (fun k=>ρ (mid k)) i n
 | 0,i=>rfl
 | n+1,i=>by rw [mapsV,renL,renL_maps mid n,mapsV];rfl
theorem rep_set {α:Type} (xs:List α) (d v:α) (r:Nat):(xs++List.replicate (r+1) d).set xs.length v=xs++[v]++List.replicate r d:=by
 rw [List.set_append_right _ _ (Nat.le_refl _),Nat.sub_self,List.replicate_succ,List.set_cons_zero,List.append_assoc];rfl
theorem VWL_app {ρ:Nat→Nat} {h h' : Heap}:∀{a a' b b' : List V},VWL ρ h h' a a'→VWL ρ h h' b b'→VWL ρ h h' (a++b) (a'++b')
 | [],[],_,_,_,h2=>h2
 | v::a,v'::a',_,_,h1,h2=>⟨h1.1,VWL_app h1.2 h2⟩
 | [],_::_,_,_,h1,_=>h1.elim
 | _::_,[],_,_,h1,_=>h1.elim
def rhoN (j a b:Nat) (id:Nat):Nat:=if id=rid j then a else if id=mid j then b else id
def Over (fam H:Heap):Prop:=∀id,4≤id→id<1000000→look H id=look fam id
theorem over_refl {fam:Heap}:Over fam fam:=fun _ _ _=>rfl
theorem over_cons {fam H:Heap} {i:Nat} {b:Blk} (h:Over fam H) (hi:(Nat.blt i 4||Nat.ble 1000000 i)=true):Over fam ((i,b)::H):=fun id h1 h2=>by
 rw [look_cons,if_neg]
 ·exact h id h1 h2
 ·rintro rfl
  rw [Bool.or_eq_true] at hi
  rcases hi with hi|hi
  ·rw [Nat.blt_eq] at hi;omega
  ·have:=Nat.le_of_ble_eq_true hi;omega
theorem lo_next {p:Pg} {ls:List (List Str)} {ms:List MS} {l:List Str} {m:MS} {R R' : Regs} {H:Heap} {r r' n a b:Nat} {v0:V} {rv' mv' : List V} (hms:ms.length=ls.length) (hl:ls.length<99999) (ha:1000000≤a) (hb:1000000≤b) (hab:a≠b)
  (h1:subR (rhoN ls.length a b) R H (loH p (rowsV rid 0 (ls++[l])++List.replicate r (.d .nil)) (mapsV mid 0 (ls.length+1)++List.replicate r' (.d .nilMap)) (famF (ls++[l]) (ms++[m]))) R')
  (e2:look H 2=some (.var rv')) (hrv:rv' = rowsV rid 0 ls++[v0]++List.replicate r (.d .nil)) (hv0:v0=(if l=[] then V.d (.slice 1 [] true) else .ref a 0 0 l.length)∨(l=[]∧v0 = .d .nil)) (e3:look H 3=some (.var mv')) (hmv:mv' = mapsV mid 0 ls.length++[.hnd b]++List.replicate r' (.d .nilMap))
  (e1:look H 1=some (.map none (thE p.decls))) (e0:look H 0=some (pgV p)) (ea:l≠[]→look H a=some (.arr 1 (rowT l))) (eb:look H b=some (.map none m))
  (ho:Over (famF ls ms) H) :
  Weak ⟨R,H,n,[],0⟩ ⟨R',loH p (rowsV rid 0 (ls++[l])++List.replicate r (.d .nil)) (mapsV mid 0 (ls.length+1)++List.replicate r' (.d .nilMap)) (famF (ls++[l]) (ms++[m])),1000000,[],0⟩:=by
 subst hrv hmv
 have hf:∀id x,look (famF ls ms) id=some x→look H id=some x:=fun id x h=>by
  have:=famF_inv h
  rw [ho id this.1 (by omega)];exact h
 have hr:∀k,k<ls.length→rhoN ls.length a b (rid k)=rid k:=fun k hk=>by
  unfold rhoN
  rw [if_neg (by simp only [rid];omega),if_neg (by simp only [rid,mid];omega)]
 have hm:∀k,k<ls.length→rhoN ls.length a b (mid k)=mid k:=fun k hk=>by
  unfold rhoN
  rw [if_neg (by simp only [rid,mid];omega),if_neg (by simp only [mid];omega)]
 have hrj:rhoN ls.length a b (rid ls.length)=a:=by unfold rhoN;rw [if_pos rfl]
 have hmj:rhoN ls.length a b (mid ls.length)=b:=by unfold rhoN;rw [if_neg (by simp only [rid,mid];omega),if_pos rfl]
 have hlow:∀k,k<4→rhoN ls.length a b k=k:=fun k hk=>by unfold rhoN;rw [if_neg (by simp only [rid];omega),if_neg (by simp only [mid];omega)]
 have hlen:(ls++[l]).length=ls.length+1:=by simp
 refine Weak.looksR (rhoN ls.length a b) h1 ?_ ?_
 ·intro id x hx
  rcases loH_inv hx with ⟨rfl,rfl⟩|⟨rfl,rfl⟩|⟨rfl,rfl⟩|⟨rfl,rfl⟩|hx
  ·refine ⟨⟨_,by rw [hlow 2 (by omega)];exact e2,?_⟩,by omega⟩
   have hcl:=rows_closed (p:=p) (ls:=ls++[l]) (ms:=ms++[m]) (rv:=rowsV rid 0 (ls++[l])++List.replicate r (.d .nil)) (mv:=mapsV mid 0 (ls.length+1)++List.replicate r' (.d .nilMap)) (r:=r) (by simp [hms])
   have hc:rowsV (fun k=>rhoN ls.length a b (rid k)) 0 ls=rowsV rid 0 ls:=rowsV_congr ls 0 fun k l' hk _=>by
    have hkl:k<ls.length:=by
     rcases Nat.lt_or_ge k ls.length with h|h
     ·exact h
     ·rw [List.getElem?_eq_none h] at hk;cases hk
    simp only [Nat.zero_add];exact hr k hkl
   have hren:renL (rhoN ls.length a b) (rowsV rid 0 (ls++[l])++List.replicate r (.d .nil))=rowsV rid 0 ls++[if l=[] then V.d (.slice 1 [] true) else .ref a 0 0 l.length]++List.replicate r (.d .nil):=by
    rw [renL_app,renL_rep,renL_rows,rowsV_snoc,hc]
    simp only [Nat.zero_add]
    rw [hrj]
   rcases hv0 with rfl|⟨rfl,rfl⟩
   ·show VWL _ _ _ _ _
    rw [← hren]
    exact VWL_ren hcl
   ·have h3:=VWL_ren (ρ:=rhoN ls.length a b) (h:=H) hcl
    rw [hren] at h3
    show VWL _ _ _ (rowsV rid 0 ls++[V.d .nil]++List.replicate r (.d .nil)) (rowsV rid 0 (ls++[[]])++List.replicate r (.d .nil))
    rw [rowsV_snoc] at hcl ⊢
    rw [if_pos rfl] at hcl ⊢
    rw [closedL_iff] at hcl
    refine VWL_app (VWL_app ?_ ⟨.inr (.inr (.inr (.inr (.inr ⟨rfl,1,true,rfl⟩)))),trivial⟩) ?_
    ·have:=VWL_ren (ρ:=rhoN ls.length a b) (h:=H) (cs:=rowsV rid 0 ls) (closedL_iff.2 fun v hv=>hcl v (by simp [hv]))
     rw [renL_rows,hc] at this
     exact this
    ·have:=VWL_ren (ρ:=rhoN ls.length a b) (h:=H) (cs:=List.replicate r (V.d .nil)) (closedL_iff.2 fun v hv=>hcl v (by simp [List.mem_replicate] at hv ⊢;exact .inr (.inr hv)))
     rw [renL_rep] at this
     exact this
  ·refine ⟨⟨_,by rw [hlow 3 (by omega)];exact e3,BSim_by ?_ ?_⟩,by omega⟩
   ·show _=Blk.var (renL _ _)
    have hc:mapsV (fun k=>rhoN ls.length a b (mid k)) 0 ls.length=mapsV mid 0 ls.length:=mapsV_congr ls.length 0 fun k hk=>by simp only [Nat.zero_add];exact hm k hk
    rw [renL_app,renL_rep,renL_maps,mapsV_snoc,hc]
    simp only [Nat.zero_add]
    rw [hmj]
   ·show closedL _ _=true
    exact maps_closed (by simp [hms]) (by simp)
  ·exact ⟨⟨_,by rw [hlow 1 (by omega)];exact e1,BSim_by rfl rfl⟩,by omega⟩
  ·exact ⟨⟨_,by rw [hlow 0 (by omega)];exact e0,BSim_by rfl rfl⟩,by omega⟩
  ·obtain ⟨g1,g2,g3,g4⟩:=famF_inv hx
   refine ⟨⟨x,?_,BSim_by (g4 _).symm (g3 _)⟩,by rw [hlen] at g2;omega⟩
   rcases fam_inv hx with ⟨k,m',k1,k2,k3,rfl,rfl⟩|⟨k,l',k1,k2,k3,k4,rfl,rfl⟩
   ·rw [Nat.zero_add]
    by_cases hk:k<ls.length
    ·rw [hm k hk]
     refine hf _ _ ?_
     have:=fam_mid (famI ls.length) (ls:=ls) (ms:=ms) (i:=0) (k:=k) (m:=m') (by omega) hk (by rwa [List.getElem?_append_left (by omega)] at k3)
     rwa [Nat.zero_add] at this
    ·rw [hlen] at k1
     obtain rfl:k=ls.length:=by omega
     rw [List.getElem?_append_right (by omega),hms,Nat.sub_self] at k3
     injection k3 with k3
     rw [hmj,← k3];exact eb
   ·rw [Nat.zero_add]
    by_cases hk:k<ls.length
    ·rw [hr k hk]
     refine hf _ _ ?_
     have:=fam_rid (famI ls.length) (ls:=ls) (ms:=ms) (i:=0) (k:=k) (l:=l') (by omega) (by omega) (by rwa [List.getElem?_append_left hk] at k3) k4
     rwa [Nat.zero_add] at this
    ·rw [hlen] at k1
     obtain rfl:k=ls.length:=by omega
     rw [List.getElem?_append_right (by omega),Nat.sub_self] at k3
     injection k3 with k3
     rw [hrj]
     rw [← k3] at k4 ⊢
     exact ea k4
 ·intro id id' h h' he
  have bd:∀i,(look (loH p (rowsV rid 0 (ls++[l])++List.replicate r (.d .nil)) (mapsV mid 0 (ls.length+1)++List.replicate r' (.d .nilMap)) (famF (ls++[l]) (ms++[m]))) i).isSome=true→i<1000000:=by
   intro i hi
   obtain ⟨x,hx⟩:=Option.isSome_iff_exists.1 hi
   rcases loH_inv hx with ⟨rfl,rfl⟩|⟨rfl,rfl⟩|⟨rfl,rfl⟩|⟨rfl,rfl⟩|hx
   ·omega
   ·omega
   ·omega
   ·omega
   ·have:=(famF_inv hx).2.1
    rw [hlen] at this;omega
  have b1:=bd id h
  have b2:=bd id' h'
  unfold rhoN at he
  split at he
  ·split at he
   ·omega
   ·split at he<;>omega
  ·split at he
   ·split at he
    ·omega
    ·split at he<;>omega
   ·split at he
    ·omega
    ·split at he<;>omega
theorem lo_in {p:Pg} {ls:List (List Str)} {ms:List MS} {m m' : MS} {rows:List (List Dat)} {R R' : Regs} {H:Heap} {r r' n k:Nat} {rv' mv' : List V} (hms:ms.length=ls.length) (hl:ls.length<99999) (hrv:rv' = rowsV rid 0 ls++[V.ref 1000001 0 0 k]++List.replicate r (.d .nil)) (hmv:mv' = mapsV mid 0 ls.length++[.hnd 1000002]++List.replicate r' (.d .nilMap))
  (h1:subR (renF []) R H ((1000002,.map none m')::(1000001,.arr 1 rows)::loH p rv' mv' (famF ls ms)) R') (e2:look H 2=some (.var rv')) (e3:look H 3=some (.var mv')) (e1:look H 1=some (.map none (thE p.decls))) (e0:look H 0=some (pgV p)) (ea:look H 1000001=some (.arr 1 rows)) (eb:look H 1000002=some (.map none m)) (hm:m=m')
  (ho:Over (famF ls ms) H):Weak ⟨R,H,n,[],0⟩ ⟨R',(1000002,.map none m')::(1000001,.arr 1 rows)::loH p rv' mv' (famF ls ms),1000003,[],0⟩:=by
 subst hm
 have hup:∀(v:V),v.closed (loH p rv' mv' (famF ls ms))=true→∀(i:Nat),(v = .hnd i∨∃o l w,v = .ref i o l w)∨(∃x,v = .d x)→v.closed ((1000002,.map none m)::(1000001,.arr 1 rows)::loH p rv' mv' (famF ls ms))=true:=by
  intro v hv i hi
  have hlk:∀i,(look (loH p rv' mv' (famF ls ms)) i).isSome=true→(look ((1000002,.map none m)::(1000001,.arr 1 rows)::loH p rv' mv' (famF ls ms)) i).isSome=true:=by
   intro i h
   rw [look_cons]
   split
   ·rfl
   ·rw [look_cons]
    split
    ·rfl
    ·exact h
  rcases hi with (rfl|⟨o,l,w,rfl⟩)|⟨x,rfl⟩
  ·exact hlk i hv
  ·exact hlk i hv
  ·rfl
 refine Weak.looks h1 ?_ (Nat.zero_le _) (fun id h=>absurd h (Nat.not_lt_zero _))
 intro id x hx
 rw [look_cons] at hx
 by_cases h2:1000002=id
 ·rw [if_pos h2] at hx;injection hx with hx;subst h2 hx;exact ⟨eb,rfl,by omega⟩
 rw [if_neg h2,look_cons] at hx
 by_cases h3:1000001=id
 ·rw [if_pos h3] at hx;injection hx with hx;subst h3 hx;exact ⟨ea,rfl,by omega⟩
 rw [if_neg h3] at hx
 rcases loH_inv hx with ⟨rfl,rfl⟩|⟨rfl,rfl⟩|⟨rfl,rfl⟩|⟨rfl,rfl⟩|hx
 ·refine ⟨e2,?_,by omega⟩
  show closedL _ _=true
  have hc:=rows_closed (p:=p) (ls:=ls) (ms:=ms) (rv:=rv') (mv:=mv') (r:=r) hms
  rw [closedL_iff] at hc ⊢
  intro v hv
  rw [hrv] at hv
  rcases List.mem_append.1 hv with hv|hv
  ·rcases List.mem_append.1 hv with hv|hv
   ·obtain ⟨q,hq⟩:=List.mem_iff_getElem?.1 hv
    have hql:q<ls.length:=by
     rcases Nat.lt_or_ge q ls.length with h|h
     ·exact h
     ·rw [List.getElem?_eq_none (by rw [rowsV_len];exact h)] at hq;cases hq
    have hg:=rowsV_get rid ls 0 q ls[q] (by simp [hql])
    rw [hq] at hg
    injection hg with hg
    refine hup v (hc v (List.mem_append_left _ hv)) (rid (0+q)) ?_
    rw [hg]
    split
    ·exact .inr ⟨_,rfl⟩
    ·exact .inl (.inr ⟨_,_,_,rfl⟩)
   ·simp at hv;subst hv;rfl
  ·exact hup v (hc v (List.mem_append_right _ hv)) 0 (.inr ⟨.nil,(List.mem_replicate.1 hv).2⟩)
 ·refine ⟨e3,?_,by omega⟩
  show closedL _ _=true
  have hc:=maps_closed (p:=p) (ls:=ls) (ms:=ms) (rv:=rv') (mv:=mv') (r:=r') hms rfl
  rw [closedL_iff] at hc ⊢
  intro v hv
  rw [hmv] at hv
  rcases List.mem_append.1 hv with hv|hv
  ·rcases List.mem_append.1 hv with hv|hv
   ·obtain ⟨q,hq⟩:=List.mem_iff_getElem?.1 hv
    have hql:q<ls.length:=by
     rcases Nat.lt_or_ge q ls.length with h|h
     ·exact h
     ·rw [List.getElem?_eq_none (by rw [mapsV_len];exact h)] at hq;cases hq
    have hg:=mapsV_get mid ls.length 0 q hql
    rw [hq] at hg
    injection hg with hg
    exact hup v (hc v (List.mem_append_left _ hv)) (mid (0+q)) (.inl (.inl hg))
   ·simp at hv;subst hv;rfl
  ·exact hup v (hc v (List.mem_append_right _ hv)) 0 (.inr ⟨.nilMap,(List.mem_replicate.1 hv).2⟩)
 ·exact ⟨e1,rfl,by omega⟩
 ·exact ⟨e0,rfl,by omega⟩
 ·obtain ⟨g1,g2,g3,_⟩:=famF_inv hx
  exact ⟨by rw [ho id g1 (by omega)];exact hx,g3 _,by omega⟩
end Uw.Tryz
namespace Uw.Tryz
open Go Uw
abbrev nF (p:Pg):Nat:=(p.funs.map fuL).length
abbrev loR (p:Pg):Regs:=[(6,.row 3 (nF p)),(5,.row 2 (nF p)),(4,.d (intsD (ownersP p))),(3,.hnd 1),(1,.ptr 0 0)]
abbrev argsL (p:Pg):List (List Str):=p.funs.map (·.args)
abbrev loRv (ls:List (List Str)) (r:Nat):List V:=rowsV rid 0 ls++List.replicate r (.d .nil)
abbrev loMv (n r:Nat):List V:=mapsV mid 0 n++List.replicate r (.d .nilMap)
abbrev loS1 (p:Pg) (j:Nat):St:=⟨(31,.d (I j))::(30,.d (I ((p.funs.map fuL).length:Nat)))::(29,.d (.slice 3 (p.funs.map fuL) false))::loR p,loH p (loRv ((argsL p).take j) (nF p - j)) (loMv j (nF p - j)) (famF ((argsL p).take j) (((argsL p).take j).map seenE)),1000000,[],0⟩
set_option maxRecDepth 4000 in
set_option maxHeartbeats 4000000 in
theorem lo_nil (p:Pg) (hf:formedP p=true) (hp:Lim p) (hn0:p.funs=[]):localsP p=[]∧Ret P0 n_check_locals [pgD p] (.slice 1 [] true):=by
 have hth:=s_check_things p hp.decls
 have how:=s_check_owners p hf hp
 have hfl:(p.funs.map fuL).length=p.funs.length:=by simp
 have hmk1:(decide (((p.funs.map fuL).length:Int)=((p.funs.map fuL).length:Nat))&&decide ((0:Int)≤((p.funs.map fuL).length:Nat))&&decide ((((p.funs.map fuL).length:Nat):Int) * ((24:Nat):Int)≤70368744177664))=true:=by rw [hn0];rfl
 have hmk2:(decide (((p.funs.map fuL).length:Int)=((p.funs.map fuL).length:Nat))&&decide ((0:Int)≤((p.funs.map fuL).length:Nat))&&decide ((((p.funs.map fuL).length:Nat):Int) * ((8:Nat):Int)≤70368744177664))=true:=by rw [hn0];rfl
 have hf0:(p.funs.map fuL).length=0:=by rw [hn0];rfl
 have hns:p.nodes=[]:=by
  refine Classical.byContradiction fun hne=>?_
  have hpos:0<p.nodes.length:=List.length_pos_iff.2 hne
  have:=own_in hf _ 0 hpos (Nat.le_refl _)
  rw [hn0] at this;simp at this;omega
 have hn1:(p.nodes.map ndL).length=0:=by rw [hns];rfl
 refine ⟨by rw [localsP,hns,hn0];rfl,?_⟩
 refine Ret_by is_check_locals rfl ?_
 repeat refine aw ?_
 refine WT_frE 1 [] hth ?_
 repeat (first|refine aw ?_|refine f1 ?_)
 refine WT_rounds 1 ?_
 repeat (first|refine aw ?_|refine f1 ?_)
 refine WT_rbreak ?_
 repeat (first|refine aw ?_|refine f1 ?_)
 refine WT_rounds 1 ?_
 repeat (first|refine aw ?_|refine f1 ?_)
 refine WT_rbreak ?_
 repeat (first|refine aw ?_|refine f1 ?_)
 exact WT_ret rfl rfl rfl rfl rfl
theorem heq_dup (a:Nat) (x y:Blk) (rest:Heap) (i:Nat):look ((a,x)::rest) i=look ((a,x)::(a,y)::rest) i:=by
 rw [look_cons,look_cons,look_cons]
 split<;>rfl
theorem wk_eq {st S S' : St} [Glob] (h:S=S') (hw:Weak st S'):Weak st S:=by rw [h];exact hw
theorem rhoN_low {j a b k:Nat} (hk:k<4):rhoN j a b k=k:=by unfold rhoN;rw [if_neg (by simp only [rid];omega),if_neg (by simp only [mid];omega)]
theorem VW_lrow {j a b k n:Nat} {h h' : Heap} (hk:k<4) (hc:(look h' k).isSome=true):VW (rhoN j a b) h h' (.row k n) (.row k n):=.inl ⟨by rw [V.ren,rhoN_low hk],hc⟩
theorem VW_lhnd {j a b k:Nat} {h h' : Heap} (hk:k<4) (hc:(look h' k).isSome=true):VW (rhoN j a b) h h' (.hnd k) (.hnd k):=.inl ⟨by rw [V.ren,rhoN_low hk],hc⟩
theorem VW_lptr {j a b k o:Nat} {h h' : Heap} (hk:k<4) (hc:(look h' k).isSome=true):VW (rhoN j a b) h h' (.ptr k o) (.ptr k o):=.inl ⟨by rw [V.ren,rhoN_low hk],hc⟩
theorem lo_regs {p:Pg} {j a b:Nat} {R:Regs} {H:Heap} {rv mv:List V} {fam:Heap} (h6:look R 6=some (.row 3 (nF p))) (h5:look R 5=some (.row 2 (nF p))) (h4:look R 4=some (.d (intsD (ownersP p)))) (h3:look R 3=some (.hnd 1)) (h1:look R 1=some (.ptr 0 0)) :
  subR (rhoN j a b) R H (loH p rv mv fam) (loR p):=
 ⟨⟨_,h6,VW_lrow (by omega) rfl⟩,⟨_,h5,VW_lrow (by omega) rfl⟩,⟨_,h4,.inl ⟨rfl,rfl⟩⟩,⟨_,h3,VW_lhnd (by omega) rfl⟩,⟨_,h1,VW_lptr (by omega) rfl⟩,trivial⟩
def rowQ (l:List Str):List Dat:=[if l=[] then .slice 1 [] true else .slice 1 (rowT l) false]
def qL:MCode→MCode
 | .seq x _=>x
 | .block _ x=>x
 | .loop x=>x
 | c=>c
def qR:MCode→MCode
 | .seq _ y=>y
 | c=>c
def loB1:MCode:=qL (qL (qR (qL (qR (qR (qR (qR (qR m_check_locals.code))))))))
set_option maxRecDepth 20000 in
set_option maxHeartbeats 4000000 in
theorem lo_round1 (p:Pg) (hp:Lim p) (j:Nat) (hj:j<nF p) (hpre:∀i,i<j→True) {QQ:MExit→St→Prop}:WT P0 (LoopQ (loS1 p) (ForI (nF p) fun _=>True) (forM (nF p)) j QQ) (exec loB1 (loS1 p j) Tree.done):=by
 have hfl:nF p=p.funs.length:=by simp
 have hfl2:(p.funs.map fuL).length=p.funs.length:=by simp
 have hF:=hp.funs
 have hal:(argsL p).length=p.funs.length:=by simp
 have hel:∀(j:Nat) (h:j<p.funs.length),(p.funs.map fuL)[(j:Int).toNat]? = some (fuL p.funs[j]):=by intro j h;simp [h]
 have hlt:∀j,j≤p.funs.length→((argsL p).take j).length=j:=fun j h=>by rw [List.length_take,hal];omega
 have hj2:j<p.funs.length:=by rw [← hfl];exact hj
 have he:=hel j hj2
 have hal2:(loRv ((argsL p).take j) (nF p - j)).length=nF p:=by rw [List.length_append,rowsV_len,hlt j (by omega),List.length_replicate];omega
 have hml2:(loMv j (nF p - j)).length=nF p:=by rw [List.length_append,mapsV_len,List.length_replicate];omega
 generalize hfe:p.funs[j]=f at *
 obtain ⟨fn,fa,fb⟩:=f
 have he:(p.funs.map fuL)[(j:Int).toNat]? = some [.str fn,strsC fa,I fb]:=he
 have hrl:(fa.map fun s=>[Dat.str s]).length=fa.length:=by simp
 have hfaL:fa.length<100000:=by have:=hp.args _ (List.getElem_mem hj2);rw [hfe] at this;exact this
 have hby:decide ((fa.map fun s=>[Dat.str s]).length * 16≤70368744177664)=true:=by simp;omega
 have hsr:∀v,(loRv ((argsL p).take j) (nF p - j)).set ((j:Int).toNat * 1) v=rowsV rid 0 ((argsL p).take j)++[v]++List.replicate (nF p - (j+1)) (.d .nil):=fun v=>by
  have:=rep_set (rowsV rid 0 ((argsL p).take j)) (V.d .nil) v (nF p - (j+1))
  rw [rowsV_len,hlt j (by omega),show nF p - (j+1)+1=nF p - j by omega] at this
  rw [show (j:Int).toNat * 1=j by omega];exact this
 have hsm:∀v,(loMv j (nF p - j)).set ((j:Int).toNat * 1) v=mapsV mid 0 j++[v]++List.replicate (nF p - (j+1)) (.d .nilMap):=fun v=>by
  have:=rep_set (mapsV mid 0 j) (V.d .nilMap) v (nF p - (j+1))
  rw [mapsV_len,show nF p - (j+1)+1=nF p - j by omega] at this
  rw [show (j:Int).toNat * 1=j by omega];exact this
 have hsm2:∀v,(loMv j (nF p - j)).set ((j:Int).toNat * 1) v=mapsV mid 0 ((argsL p).take j).length++[v]++List.replicate (nF p - (j+1)) (.d .nilMap):=fun v=>by rw [hsm,hlt j (by omega)]
 have htk:(argsL p).take (j+1)=(argsL p).take j++[fa]:=by
  rw [List.take_succ_eq_append_getElem (by rw [hal];exact hj2)]
  simp [argsL,hfe]
 have hS:loS1 p (j+1)=⟨(31,.d (I ((j+1:Nat):Int)))::(30,.d (I ((p.funs.map fuL).length:Nat)))::(29,.d (.slice 3 (p.funs.map fuL) false))::loR p,loH p (rowsV rid 0 ((argsL p).take j++[fa])++List.replicate (nF p - (j+1)) (.d .nil)) (mapsV mid 0 (((argsL p).take j).length+1)++List.replicate (nF p - (j+1)) (.d .nilMap)) (famF ((argsL p).take j++[fa]) (((argsL p).take j).map seenE++[seenE fa])),1000000,[],0⟩:=by
  rw [loS1,htk,hlt j (by omega),List.map_append];rfl
 have hms:(((argsL p).take j).map seenE).length=((argsL p).take j).length:=by simp
 have hl5:((argsL p).take j).length<99999:=by rw [hlt j (by omega)];omega
 obtain ⟨E,hE⟩:∃E:Nat→MS,∀i,E i=seenE (fa.take i):=⟨_,fun _=>rfl⟩
 have hE0:([]:MS)=E 0:=by rw [hE];rfl
 have hEn:E fa.length=seenE fa:=by rw [hE,List.take_length]
 have hEs:∀(i:Nat) (h:i<fa.length),mset (E i) (.s fa[i]) (.bool true)=E (i+1):=fun i h=>by rw [hE,hE,List.take_succ_eq_append_getElem h,seenE_snoc]
 have hge:∀(i:Nat) (h:i<fa.length),(fa.map fun s=>[Dat.str s])[(i:Int).toNat]? = some [.str fa[i]]:=fun i h=>by simp [h]
 obtain ⟨rv',hrv⟩:∃rv',rv' = rowsV rid 0 ((argsL p).take j)++[V.ref 1000001 0 0 fa.length]++List.replicate (nF p - (j+1)) (.d .nil):=⟨_,rfl⟩
 obtain ⟨mv',hmv⟩:∃mv',mv' = mapsV mid 0 ((argsL p).take j).length++[V.hnd 1000002]++List.replicate (nF p - (j+1)) (.d .nilMap):=⟨_,rfl⟩
 have hmg:mv'[(j:Int).toNat * 1]? = some (.hnd 1000002):=by
  rw [hmv,hlt j (by omega),List.append_assoc,List.getElem?_append_right (by rw [mapsV_len];omega),mapsV_len]
  simp
 have hrv2:(loRv ((argsL p).take j) (nF p - j)).set ((j:Int).toNat * 1) (V.ref 1000001 0 0 (fa.map fun s=>[Dat.str s]).length)=rv':=by rw [hsr,hrv,hrl]
 have hmv2:(loMv j (nF p - j)).set ((j:Int).toNat * 1) (V.hnd 1000002)=mv':=by rw [hsm2,hmv]
 have hml3:mv'.length=nF p:=by rw [← hmv2,List.length_set];exact hml2
 by_cases hfa:fa=[]
 ·subst hfa
  have hemp:(([]:List Str).map fun s=>[Dat.str s]).isEmpty=true:=rfl
  repeat (first|refine aw ?_|refine f1 ?_)
  refine WT_inl is_slices_Clone rfl ?_
  repeat (first|refine aw ?_|refine f1 ?_)
  refine WT_both ?_ ?_
  ·repeat (first|refine aw ?_|refine f1 ?_)
   refine WT_iret rfl rfl ?_
   repeat (first|refine aw ?_|refine f1 ?_)
   refine WT_rounds 1 ?_
   refine aw ?_
   refine WT_rbreak ?_
   repeat (first|refine aw ?_|refine f1 ?_)
   refine WT_next j trivial (wk_eq hS ?_)
   exact lo_next (a:=1000005) (b:=1000001) (v0:=.d .nil) hms hl5 (by omega) (by omega) (by omega) ⟨⟨_,rfl,VW_int rfl⟩,⟨_,rfl,.inl ⟨rfl,rfl⟩⟩,⟨_,rfl,.inl ⟨rfl,rfl⟩⟩,lo_regs rfl rfl rfl rfl rfl⟩ rfl (hsr _) (.inr ⟨rfl,rfl⟩) rfl (hsm2 _) rfl rfl (fun h=>absurd rfl h) rfl (by (repeat refine over_cons ?_ rfl);exact over_refl)
  ·repeat (first|refine aw ?_|refine f1 ?_)
   refine WT_iret rfl rfl ?_
   repeat (first|refine aw ?_|refine f1 ?_)
   refine WT_rounds 1 ?_
   refine aw ?_
   refine WT_rbreak ?_
   repeat (first|refine aw ?_|refine f1 ?_)
   refine WT_next j trivial (wk_eq hS ?_)
   exact lo_next (a:=1000005) (b:=1000001) (v0:=.d (.slice 1 [] true)) hms hl5 (by omega) (by omega) (by omega) ⟨⟨_,rfl,VW_int rfl⟩,⟨_,rfl,.inl ⟨rfl,rfl⟩⟩,⟨_,rfl,.inl ⟨rfl,rfl⟩⟩,lo_regs rfl rfl rfl rfl rfl⟩ rfl (hsr _) (.inl rfl) rfl (hsm2 _) rfl rfl (fun h=>absurd rfl h) rfl (by (repeat refine over_cons ?_ rfl);exact over_refl)
 have hemp:(fa.map fun s=>[Dat.str s]).isEmpty=false:=by cases fa<;>first|rfl|exact absurd rfl hfa
 repeat (first|refine aw ?_|refine f1 ?_)
 refine WT_inl is_slices_Clone rfl ?_
 repeat (first|refine aw ?_|refine f1 ?_)
 refine WT_iret rfl rfl ?_
 repeat (first|refine aw ?_|refine f1 ?_)
 refine WT_for fa.length (fun i:Nat=>⟨(49,.d (I i))::(48,.d (I ((fa.map fun s=>[Dat.str s]).length:Nat)))::(47,.d (strsC fa))::(7,.d (I j))::(31,.d (I j))::(30,.d (I ((p.funs.map fuL).length:Nat)))::(29,.d (.slice 3 (p.funs.map fuL) false))::loR p,(1000002,.map none (E i))::(1000001,.arr 1 (rowT fa))::loH p rv' mv' (famF ((argsL p).take j) (((argsL p).take j).map seenE)),1000003,[],0⟩) (fun _=>True) ?_ (fun _=>?_) (fun i hi _=>?_)
 ·refine lo_in hms hl5 hrv hmv ?_ (by rw [← hrv2];rfl) (by rw [← hmv2];rfl) rfl rfl rfl rfl hE0 (by (repeat refine over_cons ?_ rfl);exact over_refl)
  repeat' first|exact trivial|refine ⟨⟨_,rfl,?_⟩,?_⟩|exact VW_int (by first|with_reducible rfl|omega)|exact Or.inl ⟨rfl,rfl⟩
 ·refine aw ?_
  refine WT_break ?_
  refine aw ?_
  refine WT_next j trivial (wk_eq hS ?_)
  exact lo_next (a:=1000001) (b:=1000002) (v0:=.ref 1000001 0 0 fa.length) hms hl5 (by omega) (by omega) (by omega) ⟨⟨_,rfl,VW_int rfl⟩,⟨_,rfl,.inl ⟨rfl,rfl⟩⟩,⟨_,rfl,.inl ⟨rfl,rfl⟩⟩,lo_regs rfl rfl rfl rfl rfl⟩ rfl hrv (.inl (by rw [if_neg hfa])) rfl hmv rfl rfl (fun _=>rfl) (by rw [← hEn];rfl) (by (repeat refine over_cons ?_ rfl);exact over_refl)
 have hg:=hge i hi
 have hs:=hEs i hi
 generalize fa[i]=nm at *
 repeat (first|refine aw ?_|refine f1 ?_)
 refine WT_heq ((1000002,.map none (mset (E i) (.s nm) (.bool true)))::(1000001,.arr 1 (rowT fa))::loH p rv' mv' (famF ((argsL p).take j) (((argsL p).take j).map seenE))) (heq_dup _ _ _ _) ?_
 repeat (first|refine aw ?_|refine f1 ?_)
 refine WT_next i trivial ?_
 refine lo_in hms hl5 hrv hmv ?_ rfl rfl rfl rfl rfl rfl hs (by (repeat refine over_cons ?_ rfl);exact over_refl)
 repeat' first|exact trivial|refine ⟨⟨_,rfl,?_⟩,?_⟩|exact VW_int (by first|with_reducible rfl|omega)|exact Or.inl ⟨rfl,rfl⟩
end Uw.Tryz
namespace Uw.Tryz
open Go Uw
theorem fam_setM {rid mid:Nat→Nat} {n:Nat} (hI:FamI rid mid n) (m:MS) (id:Nat):∀(ls:List (List Str)) (ms:List MS) (i k:Nat),i+ls.length≤n→k<ls.length→k<ms.length→look (famG rid mid i ls (ms.set k m)) id=if id=mid (i+k) then some (.map none m) else look (famG rid mid i ls ms) id
 | [],_,i,k,_,h,_=>by simp at h
 | l::ls,[],i,k,_,_,h=>by simp at h
 | l::ls,m0::ms,i,0,hn,_,_=>by
  simp only [List.length_cons] at hn
  rw [List.set_cons_zero,famG,famG,look_app,look_app]
  by_cases he:id=mid (i+0)
  ·rw [if_pos he]
   have h1:look (if l=[] then [] else [(rid i,Blk.arr 1 (rowT l))]) id=none:=by
    split
    ·rfl
    ·rw [look_cons,if_neg (fun e=>hI.rm i i (by omega) (by omega) (e.trans he))];rfl
   rw [h1,look_cons,if_pos (show mid i=id from he.symm)]
  ·rw [if_neg he,look_cons,look_cons,if_neg (show ¬mid i=id from fun e=>he e.symm)]
   simp only [if_neg (show ¬mid i=id from fun e=>he e.symm)]
 | l::ls,m0::ms,i,k+1,hn,hk,hm=>by
  simp only [List.length_cons] at hn hk hm
  rw [List.set_cons_succ,famG,famG,look_app,look_app,look_cons,look_cons,fam_setM hI m id ls ms (i+1) k (by omega) (by omega) (by omega),show i+1+k=i+(k+1) by omega]
  by_cases he:id=mid (i+(k+1))
  ·rw [if_pos he,if_pos he]
   have h1:look (if l=[] then [] else [(rid i,Blk.arr 1 (rowT l))]) id=none:=by
    split
    ·rfl
    ·rw [look_cons,if_neg (fun e=>hI.rm i (i+(k+1)) (by omega) (by omega) (e.trans he))];rfl
   rw [h1,if_neg (fun e=>by have:=hI.mm i (i+(k+1)) (by omega) (by omega) (e.trans he);omega)]
  ·rw [if_neg he,if_neg he]
theorem fam_setR {rid mid:Nat→Nat} {n:Nat} (hI:FamI rid mid n) {l' : List Str} (hl' : l'≠[]) (id:Nat):∀(ls:List (List Str)) (ms:List MS) (i k:Nat),i+ls.length≤n→k<ls.length→k<ms.length→look (famG rid mid i (ls.set k l') ms) id=if id=rid (i+k) then some (.arr 1 (rowT l')) else look (famG rid mid i ls ms) id
 | [],_,i,k,_,h,_=>by simp at h
 | l::ls,[],i,k,_,_,h=>by simp at h
 | l::ls,m0::ms,i,0,hn,_,_=>by
  simp only [List.length_cons] at hn
  rw [List.set_cons_zero,famG,famG,if_neg hl',List.cons_append,look_cons]
  by_cases he:id=rid (i+0)
  ·rw [if_pos he,if_pos (show rid i=id from he.symm)]
  ·rw [if_neg he,if_neg (show ¬rid i=id from fun e=>he e.symm)]
   split
   ·rfl
   ·rw [List.cons_append,look_cons,if_neg (show ¬rid i=id from fun e=>he e.symm)]
 | l::ls,m0::ms,i,k+1,hn,hk,hm=>by
  simp only [List.length_cons] at hn hk hm
  rw [List.set_cons_succ,famG,famG,look_app,look_app,look_cons,look_cons,fam_setR hI hl' id ls ms (i+1) k (by omega) (by omega) (by omega),show i+1+k=i+(k+1) by omega]
  by_cases he:id=rid (i+(k+1))
  ·rw [if_pos he,if_pos he]
   have h1:look (if l=[] then [] else [(rid i,Blk.arr 1 (rowT l))]) id=none:=by
    split
    ·rfl
    ·rw [look_cons,if_neg (fun e=>by have:=hI.rr i (i+(k+1)) (by omega) (by omega) (e.trans he);omega)];rfl
   rw [h1,if_neg (fun e=>hI.rm (i+(k+1)) i (by omega) (by omega) (e.trans he).symm)]
  ·rw [if_neg he,if_neg he]
theorem rowsV_set (rid:Nat→Nat):∀(ls:List (List Str)) (i k:Nat) (l' : List Str),k<ls.length→(rowsV rid i ls).set k (if l' = [] then V.d (.slice 1 [] true) else .ref (rid (i+k)) 0 0 l'.length)=rowsV rid i (ls.set k l')
 | [],i,k,l',h=>by simp at h
 | l::ls,i,0,l',h=>rfl
 | l::ls,i,k+1,l',h=>by
  have:=rowsV_set rid ls (i+1) k l' (by simpa using h)
  rw [rowsV,List.set_cons_succ,List.set_cons_succ,rowsV,← this,show i+1+k=i+(k+1) by omega]
theorem heq_fam {c fam fam' : Heap} {a:Nat} {x:Blk} (hc:∀q∈c,q.1≠a) (hf:∀id,look fam' id=if id=a then some x else look fam id) (id:Nat):look (c++fam') id=look ((a,x)::(c++fam)) id:=by
 rw [look_cons,look_app,look_app,hf id]
 by_cases he:id=a
 ·subst he
  have:look c id=none:=by
   cases h:look c id with
   | none=>rfl
   | some b=>exact absurd rfl (hc _ (look_mem h))
  rw [if_pos rfl,if_pos rfl,this]
 ·rw [if_neg he,if_neg (fun e=>he e.symm)]
theorem lo_same2 {p:Pg} {ls:List (List Str)} {ms:List MS} {R R' : Regs} {H:Heap} {r r' n:Nat} {rv' : List V} (hms:ms.length=ls.length) (hl:ls.length<100000) (h1:subR (renF []) R H (loH p (rowsV rid 0 ls++List.replicate r (.d .nil)) (mapsV mid 0 ls.length++List.replicate r' (.d .nilMap)) (famF ls ms)) R')
  (e2:look H 2=some (.var rv')) (hrv:rv' = rowsV rid 0 ls++List.replicate r (.d .nil)) (e3:look H 3=some (.var (mapsV mid 0 ls.length++List.replicate r' (.d .nilMap)))) (e1:look H 1=some (.map none (thE p.decls))) (e0:look H 0=some (pgV p))
  (ho:Over (famF ls ms) H):Weak ⟨R,H,n,[],0⟩ ⟨R',loH p (rowsV rid 0 ls++List.replicate r (.d .nil)) (mapsV mid 0 ls.length++List.replicate r' (.d .nilMap)) (famF ls ms),1000000,[],0⟩:=by
 subst hrv
 exact lo_same hms hl h1 e2 e3 e1 e0 (fun id x h=>by have:=famF_inv h;rw [ho id this.1 (by omega)];exact h)
def rhoR (j a:Nat) (id:Nat):Nat:=if id=rid j then a else id
theorem lo_new {p:Pg} {ls:List (List Str)} {ms:List MS} {l:List Str} {R R' : Regs} {H:Heap} {n k:Nat} {rv' : List V} (hms:ms.length=ls.length) (hl:ls.length<100000) (hk:k<ls.length) (hne:l≠[])
  (h1:subR (rhoR k 1000001) R H (loH p (loRv (ls.set k l) 0) (loMv (ls.set k l).length 0) (famF (ls.set k l) ms)) R')
  (e2:look H 2=some (.var rv')) (hrv:rv' = (loRv ls 0).set k (.ref 1000001 0 0 l.length)) (e3:look H 3=some (.var (loMv ls.length 0))) (e1:look H 1=some (.map none (thE p.decls))) (e0:look H 0=some (pgV p)) (ea:look H 1000001=some (.arr 1 (rowT l)))
  (ho:Over (famF ls ms) H):Weak ⟨R,H,n,[],0⟩ ⟨R',loH p (loRv (ls.set k l) 0) (loMv (ls.set k l).length 0) (famF (ls.set k l) ms),1000000,[],0⟩:=by
 subst hrv
 have hlen:(ls.set k l).length=ls.length:=by simp
 rw [hlen] at h1 ⊢
 have hlow:∀i,i<4→rhoR k 1000001 i=i:=fun i h=>by unfold rhoR;rw [if_neg (by simp only [rid];omega)]
 have hm:∀i,rhoR k 1000001 (mid i)=mid i:=fun i=>by unfold rhoR;rw [if_neg (by simp only [rid,mid];omega)]
 have hr:∀i,i≠k→rhoR k 1000001 (rid i)=rid i:=fun i h=>by unfold rhoR;rw [if_neg (by simp only [rid];omega)]
 have hrk:rhoR k 1000001 (rid k)=1000001:=by unfold rhoR;rw [if_pos rfl]
 refine Weak.looksR (rhoR k 1000001) h1 ?_ ?_
 ·intro id x hx
  rcases loH_inv hx with ⟨rfl,rfl⟩|⟨rfl,rfl⟩|⟨rfl,rfl⟩|⟨rfl,rfl⟩|hx
  ·refine ⟨⟨_,by rw [hlow 2 (by omega)];exact e2,BSim_by ?_ (rows_closed (by simp [hms]))⟩,by omega⟩
   show Blk.var _=Blk.var (renL _ _)
   congr 1
   rw [renL_app,renL_rep,renL_rows,List.set_append_left _ _ (by rw [rowsV_len];exact hk)]
   congr 1
   apply List.ext_getElem?
   intro i
   by_cases hik:i=k
   ·subst hik
    rw [List.getElem?_set_self (by rw [rowsV_len];exact hk),rowsV_get _ _ 0 i l (by simp [hk]),if_neg hne]
    simp only [Nat.zero_add];rw [hrk]
   ·rw [List.getElem?_set_ne (Ne.symm hik)]
    rcases Nat.lt_or_ge i ls.length with h|h
    ·rw [rowsV_get rid ls 0 i ls[i] (by simp [h]),rowsV_get _ _ 0 i ls[i] (by rw [List.getElem?_set_ne (Ne.symm hik)];simp [h])]
     simp only [Nat.zero_add];rw [hr i hik]
    ·rw [List.getElem?_eq_none (by rw [rowsV_len];exact h),List.getElem?_eq_none (by rw [rowsV_len,hlen];exact h)]
  ·refine ⟨⟨_,by rw [hlow 3 (by omega)];exact e3,BSim_by ?_ (maps_closed (by simp [hms]) hlen.symm)⟩,by omega⟩
   show Blk.var _=Blk.var (renL _ _)
   rw [renL_app,renL_rep,renL_maps,mapsV_congr (mid:=fun i=>rhoR k 1000001 (mid i)) (mid':=mid) ls.length 0 fun i _=>hm _]
  ·exact ⟨⟨_,by rw [hlow 1 (by omega)];exact e1,BSim_by rfl rfl⟩,by omega⟩
  ·exact ⟨⟨_,by rw [hlow 0 (by omega)];exact e0,BSim_by rfl rfl⟩,by omega⟩
  ·obtain ⟨g1,g2,g3,g4⟩:=famF_inv hx
   refine ⟨⟨x,?_,BSim_by (g4 _).symm (g3 _)⟩,by rw [hlen] at g2;omega⟩
   have hs:=fam_setR (famI ls.length) hne id ls ms 0 k (by omega) hk (by omega)
   rw [show look (famG rid mid 0 (ls.set k l) ms) id=some x from hx,Nat.zero_add] at hs
   by_cases he:id=rid k
   ·rw [if_pos he] at hs
    injection hs with hs
    rw [he,hrk,hs];exact ea
   ·rw [if_neg he] at hs
    unfold rhoR
    rw [if_neg he,ho id g1 (by rw [hlen] at g2;omega)]
    exact hs.symm
 ·intro id id' h h' he
  have bd:∀i,(look (loH p (loRv (ls.set k l) 0) (loMv ls.length 0) (famF (ls.set k l) ms)) i).isSome=true→i<1000000:=by
   intro i hi
   obtain ⟨x,hx⟩:=Option.isSome_iff_exists.1 hi
   rcases loH_inv hx with ⟨rfl,rfl⟩|⟨rfl,rfl⟩|⟨rfl,rfl⟩|⟨rfl,rfl⟩|hx
   ·omega
   ·omega
   ·omega
   ·omega
   ·have:=(famF_inv hx).2.1
    rw [hlen] at this;omega
  have b1:=bd id h
  have b2:=bd id' h'
  unfold rhoR at he
  split at he<;>split at he<;>omega
theorem rhoR_low {j a k:Nat} (hk:k<4):rhoR j a k=k:=by unfold rhoR;rw [if_neg (by simp only [rid];omega)]
theorem VW_rrow {j a k n:Nat} {h h' : Heap} (hk:k<4) (hc:(look h' k).isSome=true):VW (rhoR j a) h h' (.row k n) (.row k n):=.inl ⟨by rw [V.ren,rhoR_low hk],hc⟩
theorem VW_rhnd {j a k:Nat} {h h' : Heap} (hk:k<4) (hc:(look h' k).isSome=true):VW (rhoR j a) h h' (.hnd k) (.hnd k):=.inl ⟨by rw [V.ren,rhoR_low hk],hc⟩
theorem VW_rptr {j a k o:Nat} {h h' : Heap} (hk:k<4) (hc:(look h' k).isSome=true):VW (rhoR j a) h h' (.ptr k o) (.ptr k o):=.inl ⟨by rw [V.ren,rhoR_low hk],hc⟩
theorem lo_regsR {p:Pg} {j a:Nat} {R:Regs} {H:Heap} {rv mv:List V} {fam:Heap} (h6:look R 6=some (.row 3 (nF p))) (h5:look R 5=some (.row 2 (nF p))) (h4:look R 4=some (.d (intsD (ownersP p)))) (h3:look R 3=some (.hnd 1)) (h1:look R 1=some (.ptr 0 0)) :
  subR (rhoR j a) R H (loH p rv mv fam) (loR p):=
 ⟨⟨_,h6,VW_rrow (by omega) rfl⟩,⟨_,h5,VW_rrow (by omega) rfl⟩,⟨_,h4,.inl ⟨rfl,rfl⟩⟩,⟨_,h3,VW_rhnd (by omega) rfl⟩,⟨_,h1,VW_rptr (by omega) rfl⟩,trivial⟩
def loB2:MCode:=qL (qL (qR (qL (qR (qR (qR (qR (qR (qR m_check_locals.code)))))))))
def lsAt (p:Pg) (k:Nat):List (List Str):=localsGo p ((p.nodes.zip (ownersP p)).take k) (argsL p)
theorem localsGo_snoc (p:Pg):∀(r:List (Nd×Int)) (y:Nd×Int) (ls:List (List Str)),localsGo p (r++[y]) ls=(if localN p y.1 then addLocal (localsGo p r ls) y.2.toNat y.1.name else localsGo p r ls)
 | [],y,ls=>rfl
 | (x,o)::r,y,ls=>by rw [List.cons_append,localsGo,localsGo_snoc p r,localsGo]
theorem lsAt_succ (p:Pg) (k:Nat) (h:k<p.nodes.length):lsAt p (k+1)=(if localN p p.nodes[k] then addLocal (lsAt p k) ((ownersP p).getD k 0).toNat p.nodes[k].name else lsAt p k):=by
 have h2:k<(ownersP p).length:=by rw [ownersP_len];exact h
 have hz:k<(p.nodes.zip (ownersP p)).length:=by rw [List.length_zip];omega
 rw [lsAt,lsAt,List.take_succ_eq_append_getElem hz,localsGo_snoc,List.getElem_zip]
 simp [List.getD,h2]
theorem lsAt_len (p:Pg) (k:Nat):(lsAt p k).length=p.funs.length:=by
 have:∀(r:List (Nd×Int)) (ls:List (List Str)),(localsGo p r ls).length=ls.length:=by
  intro r
  induction r with
  | nil=>intro ls;rfl
  | cons y r ih=>
   intro ls
   obtain ⟨x,o⟩:=y
   rw [localsGo,ih]
   split
   ·rw [addLocal_len]
   ·rfl
 rw [lsAt,this];simp
theorem lsAt_all (p:Pg):lsAt p p.nodes.length=localsP p:=by
 rw [lsAt,localsP,List.take_of_length_le (by rw [List.length_zip];omega)]
theorem lsAt_bound (p:Pg) (hp:Lim p) (k f:Nat) (l:List Str) (h:(lsAt p k)[f]? = some l):l.length≤100000+k:=by
 have key:∀(r:List (Nd×Int)) (ls:List (List Str)) (b:Nat),(∀l∈ls,l.length≤b)→∀l∈localsGo p r ls,l.length≤b+r.length:=by
  intro r
  induction r with
  | nil=>intro ls b h l hl;exact h l hl
  | cons y r ih=>
   intro ls b h l hl
   obtain ⟨x,o⟩:=y
   rw [localsGo] at hl
   have:=ih _ (b+1) ?_ l hl
   ·simp;omega
   ·intro l' hl'
    split at hl'
    ·unfold addLocal at hl'
     split at hl'
     ·have:=h l' hl';omega
     ·rcases List.mem_or_eq_of_mem_set hl' with hl' | rfl
      ·have:=h l' hl';omega
      ·have hg:(ls.getD o.toNat []).length≤b:=by
        rw [List.getD]
        cases hq:ls[o.toNat]? with
        | none=>simp
        | some v=>exact h v (List.mem_of_getElem? hq)
       rw [List.length_append]
       show (ls.getD o.toNat []).length+1≤b+1
       omega
    ·have:=h l' hl';omega
 have:=key ((p.nodes.zip (ownersP p)).take k) (argsL p) 100000 (fun l hl=>by
  obtain ⟨f,hf,rfl⟩:=List.mem_map.1 hl
  exact Nat.le_of_lt (hp.args f hf)) l (List.mem_of_getElem? h)
 have hl2:((p.nodes.zip (ownersP p)).take k).length≤k:=by simp;omega
 omega
abbrev loS2 (p:Pg) (k:Nat):St:=⟨(63,.d (I k))::(62,.d (I ((p.nodes.map ndL).length:Nat)))::(61,.d (nodesD p.nodes))::loR p,loH p (loRv (lsAt p k) 0) (loMv (lsAt p k).length 0) (famF (lsAt p k) ((lsAt p k).map seenE)),1000000,[],0⟩
end Uw.Tryz
