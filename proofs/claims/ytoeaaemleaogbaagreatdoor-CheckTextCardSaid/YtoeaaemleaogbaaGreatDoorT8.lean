/- T8: Pb Pc Pd Pe Pf Pg Ph Pi Pj Pk Pl Pm Pn Pn2 Pp Po Xb Xc Xd Xe Xf Xg Xh Xi Xj Pq Ps Px Dq Dk Cc (merged by merge2.py from the working texts). -/
import Derived.Test.YtoeaaemleaogbaaGreatDoorT1
import Derived.Test.YtoeaaemleaogbaaGreatDoorT2
import Derived.Test.YtoeaaemleaogbaaGreatDoorN3
import Derived.Test.YtoeaaemleaogbaaGreatDoorShelf
import Derived.Lib.AtoiErrMem
import Derived.Test.YtoeaaemleaogbaaGreatDoorT7
import Derived.Test.YtoeaaemleaogbaaGreatDoorT3
set_option maxRecDepth 4000
set_option maxHeartbeats 2000000
set_option linter.unusedSimpArgs false
set_option linter.unnecessarySimpa false
set_option linter.unusedVariables false
set_option linter.unusedSectionVars false
namespace Uw.Tryz
open Go Uw
def rd (l:List Tok) (k:Nat) (xs:List (List Dat)):List Blk:=[.var [.d (toksD l),.d (I k),.ref 1 0 0 xs.length],.arr 5 xs]
theorem s_parse_reader_peek (l:List Tok) (k:Nat) (xs:List (List Dat)) (hk:k≤l.length):SatE P0 n_parse_reader_peek [.ptr 0 0] (rd l k xs) (.d (.str (hd (l.drop k)))) (rd l k xs):=by
 have e1:(l.map tokL).length=l.length:=by simp
 by_cases h:k<l.length
 ·have e:hd (l.drop k)=l[k].text:=by rw [List.drop_eq_getElem_cons h];rfl
  rw [e]
  refine SatE_by is_parse_reader_peek rfl ?_
  ((repeat' first|refine aw ?_|refine bw (fun _=>?_) fun _=>?_))
  exact WT_eret 2 rfl rfl (by exact Uw.wW)
 ·have e:hd (l.drop k)=[]:=by rw [List.drop_eq_nil_of_le (by omega)];rfl
  rw [e]
  refine SatE_by is_parse_reader_peek rfl ?_
  ((repeat' first|refine aw ?_|refine bw (fun _=>?_) fun _=>?_))
  exact WT_eret 2 rfl rfl (by exact Uw.wW)
abbrev wrongD:Dat:=.iface t_parse_wrong (.agg [])
theorem s_parse_reader_have (l:List Tok) (k:Nat) (xs:List (List Dat)) (hk:k≤l.length) (hl:l.length<1000000) (s:Str) (hs:s≠[]):SatE P0 n_parse_reader_have [.ptr 0 0,.d (.str s)] (rd l k xs) (.d (.bool (decide (hd (l.drop k)=s)))) (rd l (if hd (l.drop k)=s then k+1 else k) xs):=by
 have pk:=s_parse_reader_peek l k xs hk
 by_cases h:hd (l.drop k)=s
 ·rw [if_pos h,decide_eq_true h]
  rw [h] at pk
  have hkl:k<l.length:=by
   rcases Nat.lt_or_ge k l.length with h1|h1
   ·exact h1
   ·rw [List.drop_eq_nil_of_le h1] at h;exact absurd h.symm hs
  clear h
  refine SatE_by is_parse_reader_have rfl ?_
  ((repeat' first|refine aw ?_|refine bw (fun _=>?_) fun _=>?_))
  refine WT_frE 2 [0,1] pk ?_
  ((repeat' first|refine aw ?_|refine bw (fun _=>?_) fun _=>?_))
  exact WT_eret 2 rfl rfl (by exact Uw.wW)
 ·rw [if_neg h,decide_eq_false h]
  generalize hd (l.drop k)=p at *
  refine SatE_by is_parse_reader_have rfl ?_
  ((repeat' first|refine aw ?_|refine bw (fun _=>?_) fun _=>?_))
  refine WT_frE 2 [0,1] pk ?_
  ((repeat' first|refine aw ?_|refine bw (fun _=>?_) fun _=>?_))
  exact WT_eret 2 rfl rfl (by exact Uw.wW)
theorem s_parse_reader_want (l:List Tok) (k:Nat) (xs:List (List Dat)) (hk:k≤l.length) (hl:l.length<1000000) (s:Str) (hs:s≠[]) (h:hd (l.drop k)=s):SatE P0 n_parse_reader_want [.ptr 0 0,.d (.str s)] (rd l k xs) (.tuple []) (rd l (k+1) xs):=by
 have hv:=s_parse_reader_have l k xs hk hl s hs
 rw [if_pos h,decide_eq_true h] at hv
 refine SatE_by is_parse_reader_want rfl ?_
 ((repeat' first|refine aw ?_|refine bw (fun _=>?_) fun _=>?_))
 refine WT_frE 2 [0,1] hv ?_
 ((repeat' first|refine aw ?_|refine bw (fun _=>?_) fun _=>?_))
 exact WT_eend 2 rfl rfl (by exact Uw.wW)
theorem p_parse_reader_want (l:List Tok) (k:Nat) (xs:List (List Dat)) (hk:k≤l.length) (hl:l.length<1000000) (s:Str) (hs:s≠[]) (h:hd (l.drop k)≠s):SatP P0 n_parse_reader_want [.ptr 0 0,.d (.str s)] (rd l k xs) wrongD:=by
 have hv:=s_parse_reader_have l k xs hk hl s hs
 rw [if_neg h,decide_eq_false h] at hv
 refine SatP_by is_parse_reader_want rfl ?_
 ((repeat' first|refine aw ?_|refine bw (fun _=>?_) fun _=>?_))
 refine WT_frE 2 [0,1] hv ?_
 ((repeat' first|refine aw ?_|refine bw (fun _=>?_) fun _=>?_))
 exact WT_epan rfl
theorem s_parse_reader_word (l:List Tok) (k:Nat) (xs:List (List Dat)) (hk:k≤l.length) (hl:l.length<1000000) (K:Int) (h:k<l.length) (hK:l[k].kind=K):SatE P0 n_parse_reader_word [.ptr 0 0,.d (I K)] (rd l k xs) (.agg ((tokL l[k]).map V.d)) (rd l (k+1) xs):=by
 have e1:(l.map tokL).length=l.length:=by simp
 have he:(l.map tokL)[((k:Int)+1 - 1).toNat]? = some (tokL l[k]):=by
  rw [show ((k:Int)+1 - 1).toNat=k by omega];exact map_get _ _ _ h
 refine SatE_by is_parse_reader_word rfl ?_
 ((repeat' first|refine aw ?_|refine bw (fun _=>?_) fun _=>?_))
 exact WT_eret 2 rfl rfl (by exact Uw.wW)
theorem p_parse_reader_word (l:List Tok) (k:Nat) (xs:List (List Dat)) (hk:k≤l.length) (hl:l.length<1000000) (K:Int) (h:∀(h:k<l.length),l[k].kind≠K):SatP P0 n_parse_reader_word [.ptr 0 0,.d (I K)] (rd l k xs) wrongD:=by
 have e1:(l.map tokL).length=l.length:=by simp
 by_cases h1:k<l.length
 ·have h2:=h h1
  clear h
  refine SatP_by is_parse_reader_word rfl ?_
  ((repeat' first|refine aw ?_|refine bw (fun _=>?_) fun _=>?_))
  exact WT_epan rfl
 ·clear h
  refine SatP_by is_parse_reader_word rfl ?_
  ((repeat' first|refine aw ?_|refine bw (fun _=>?_) fun _=>?_))
  exact WT_epan rfl
theorem s_parse_reader_name (l:List Tok) (k:Nat) (xs:List (List Dat)) (hk:k≤l.length) (hl:l.length<1000000) (h:k<l.length) (hK:l[k].kind=1) (hw:keyw l[k].text=false):SatE P0 n_parse_reader_name [.ptr 0 0] (rd l k xs) (.d (.str l[k].text)) (rd l (k+1) xs):=by
 have wd:=s_parse_reader_word l k xs hk hl 1 h hK
 simp only [keyw,Bool.or_eq_false_iff,decide_eq_false_iff_not,sCell,sMap,sStack,sChan,sFunc,sSpawn,sPar,sSync,sIf,sElse,sWhile,sReturn,sAssert] at hw
 obtain ⟨⟨⟨⟨⟨⟨⟨⟨⟨⟨⟨⟨w1,w2⟩,w3⟩,w4⟩,w5⟩,w6⟩,w7⟩,w8⟩,w9⟩,w10⟩,w11⟩,w12⟩,w13⟩:=hw
 refine SatE_by is_parse_reader_name rfl ?_
 ((repeat' first|refine aw ?_|refine bw (fun _=>?_) fun _=>?_))
 refine WT_frE 2 [0,1] wd ?_
 ((repeat' first|refine aw ?_|refine bw (fun _=>?_) fun _=>?_))
 exact WT_eret 2 rfl rfl (by exact Uw.wW)
theorem p_parse_reader_name (l:List Tok) (k:Nat) (xs:List (List Dat)) (hk:k≤l.length) (hl:l.length<1000000) (h:∀(h:k<l.length),l[k].kind≠1∨keyw l[k].text=true):SatP P0 n_parse_reader_name [.ptr 0 0] (rd l k xs) wrongD:=by
 by_cases h1:∃h1:k<l.length,l[k].kind=1
 ·obtain ⟨h1,h2⟩:=h1
  have h3:=(h h1).resolve_left (fun e=>e h2)
  clear h
  have wd:=s_parse_reader_word l k xs hk hl 1 h1 h2
  generalize l[k]=t at *
  simp only [keyw,Bool.or_eq_true,decide_eq_true_eq,or_assoc] at h3
  rcases h3 with h3|h3|h3|h3|h3|h3|h3|h3|h3|h3|h3|h3|h3
  all_goals
   rw [tokL,h3] at wd
   refine SatP_by is_parse_reader_name rfl ?_
   ((repeat' first|refine aw ?_|refine bw (fun _=>?_) fun _=>?_))
   refine WT_frE 2 [0,1] wd ?_
   ((repeat' first|refine aw ?_|refine bw (fun _=>?_) fun _=>?_))
   exact WT_epan rfl
 ·have wd:=p_parse_reader_word l k xs hk hl 1 (fun h h2=>h1 ⟨h,h2⟩)
  refine SatP_by is_parse_reader_name rfl ?_
  ((repeat' first|refine aw ?_|refine bw (fun _=>?_) fun _=>?_))
  refine WT_frP 2 [0,1] wd ?_
  intro h n
  ((repeat' first|refine aw ?_|refine bw (fun _=>?_) fun _=>?_))
  exact WT_epan rfl
def ofD (kind:Int) (of:List Nat):Dat:=
 if kind=1∨kind=2∨kind=12 then .nil
 else if kind=8∨kind=10∨kind=11 then (if of=[] then .nil else .slice 1 (of.map fun (i:Nat)=>[I i]) false)
 else if kind=13∨kind=18 then .slice 1 (of.map fun (i:Nat)=>[I i]) false
 else .slice 1 (of.map fun (i:Nat)=>[I i]) true
def nodL (x:Nod):List Dat:=[I x.kind,I x.n,.str x.name,.str x.name2,ofD x.kind x.of]
theorem s_parse_reader_put (l:List Tok) (k:Nat) (xs:List (List Dat)) (hx:xs.length<1000000) (a b:Int) (c d:Str) (o:Dat) (ho:o = .nil∨∃ys z,o = .slice 1 ys z):SatE P0 n_parse_reader_put [.ptr 0 0,.agg [.d (I a),.d (I b),.d (.str c),.d (.str d),.d o]] (rd l k xs) (.d (I xs.length)) (rd l k (xs++[[I a,I b,.str c,.str d,o]])):=by
 have e0:((xs.length+1:Nat):Int) - 1=(xs.length:Nat):=by omega
 rcases ho with rfl|⟨ys,z,rfl⟩
 ·refine SatE_by is_parse_reader_put rfl ?_
  ((repeat' first|refine aw ?_|refine bw (fun _=>?_) fun _=>?_))
  refine WT_draw ⟨[(0,.ptr 0 0)],[(0,.var [.d (toksD l),.d (I k),.ref 1 0 0 (xs.length+1)]),(1,.arr 5 (xs++[[I a,I b,.str c,.str d,.nil]]))],3,[],2⟩ ?_ ?_
  ·((repeat' first|refine aw ?_|refine bw (fun _=>?_) fun _=>?_))
   exact WT_done (.inl ⟨rfl,by exact Uw.wW⟩)
  ·((repeat' first|refine aw ?_|refine bw (fun _=>?_) fun _=>?_))
   exact WT_eret 2 rfl rfl (by exact Uw.wW)
 ·refine SatE_by is_parse_reader_put rfl ?_
  ((repeat' first|refine aw ?_|refine bw (fun _=>?_) fun _=>?_))
  refine WT_draw ⟨[(0,.ptr 0 0)],[(0,.var [.d (toksD l),.d (I k),.ref 1 0 0 (xs.length+1)]),(1,.arr 5 (xs++[[I a,I b,.str c,.str d,.slice 1 ys z]]))],3,[],2⟩ ?_ ?_
  ·((repeat' first|refine aw ?_|refine bw (fun _=>?_) fun _=>?_))
   exact WT_done (.inl ⟨rfl,by exact Uw.wW⟩)
  ·((repeat' first|refine aw ?_|refine bw (fun _=>?_) fun _=>?_))
   exact WT_eret 2 rfl rfl (by exact Uw.wW)
end Uw.Tryz
namespace Uw.Tryz
open Go Uw
def rdN (l:List Tok) (k:Nat) (ns:List Nod):List Blk:=rd l k (ns.map nodL)
inductive Out where
 | ok (v:V) (bs:List Blk)
 | bad
 | out
def SatO (f:FuncId) (vs:List V) (bs:List Blk) (x:Out):Prop:=
 match x with
 | .ok v bs'=>SatE P0 f vs bs v bs'
 | .bad=>SatP P0 f vs bs wrongD
 | .out=>True
def OQ (b:Nat) (res:List MRes) (x:Out):MExit→St→Prop:=
 match x with
 | .ok v bs'=>EQ b res v bs'
 | .bad=>PQ res wrongD
 | .out=>fun _ _=>True
theorem SatO_by {f:FuncId} {m:MFun} {vs:List V} {bs:List Blk} {x:Out} (hf:IsFun P0 f m) (hn:Nat.ble vs.length m.n=true) (hx:x≠.out) (hw:WT P0 (OQ bs.length m.res x) (exec m.code ⟨initRegs 0 vs,heapOf 0 bs,bs.length,[],bs.length⟩ Tree.done)):SatO f vs bs x:=by
 cases x with
 | ok v bs'=>exact SatE_by hf hn hw
 | bad=>exact SatP_by hf hn hw
 | out=>exact absurd rfl hx
theorem WT_oret (b:Nat) {res:List MRes} {x:Out} {v:V} {bs' : List Blk} {vs' : List V} {st:St} (hx:x = .ok v bs') (hd:st.defers=[]) (hr:resV st res=some vs') (hw:Weak ⟨[(0,packV vs')],st.heap,st.next,[],b⟩ ⟨[(0,v)],heapOf 0 bs',bs'.length,[],b⟩):WT P0 (OQ b res x) (.done .ret st):=by
 subst hx;exact WT_eret b hd hr hw
theorem WT_opan (b:Nat) {res:List MRes} {x:Out} {st:St} (hx:x = .bad) (hd:st.defers=[]):WT P0 (OQ b res x) (.done (.panic wrongD) st):=by
 subst hx;exact WT_epan hd
def outE (l:List Tok) (ns:List Nod) (x:R Ex):Out:=
 match x with
 | .ok e r=>.ok (.d (I ((ns.length+e.sz - 1:Nat)))) (rdN l (l.length - r.length) (ns++e.flat ns.length))
 | .bad=>.bad
 | .out=>.out
abbrev OkE (f:FuncId) (l:List Tok) (k:Nat) (ns:List Nod) (x:R Ex):Prop:=SatO f [.ptr 0 0] (rdN l k ns) (outE l ns x)
theorem outE_ne {l:List Tok} {ns:List Nod} {x:R Ex} (h:x≠.out):outE l ns x≠.out:=by cases x<;>first|exact absurd rfl h|(intro h;cases h)
theorem ofD_form (k:Int) (of:List Nat):ofD k of = .nil∨∃ys z,ofD k of = .slice 1 ys z:=by
 unfold ofD
 repeat' split
 all_goals first|exact .inl rfl|exact .inr ⟨_,_,rfl⟩
theorem put_ok (l:List Tok) (k:Nat) (ns ms:List Nod) (nd:Nod) (hms:ms=ns++[nd]) (p:Nat) (hp:p=ns.length) (hx:ns.length<1000000) :
  SatE P0 n_parse_reader_put [.ptr 0 0,.agg [.d (I nd.kind),.d (I nd.n),.d (.str nd.name),.d (.str nd.name2),.d (ofD nd.kind nd.of)]] (rdN l k ns) (.d (I p)) (rdN l k ms):=by
 subst hms hp
 have:=s_parse_reader_put l k (ns.map nodL) (by simpa using hx) nd.kind nd.n nd.name nd.name2 (ofD nd.kind nd.of) (ofD_form _ _)
 have e:(ns++[nd]).map nodL=ns.map nodL++[[I nd.kind,I nd.n,.str nd.name,.str nd.name2,ofD nd.kind nd.of]]:=by simp [nodL]
 rw [rdN,rdN,e]
 simpa using this
theorem hd_lt {l:List Tok} {k:Nat} {s:Str} (h:hd (l.drop k)=s) (hs:s≠[]):k<l.length:=by
 rcases Nat.lt_or_ge k l.length with h1|h1
 ·exact h1
 ·rw [List.drop_eq_nil_of_le h1] at h;exact absurd h.symm hs
theorem len_drop {l:List Tok} {k:Nat} (h:k≤l.length):l.length - (l.drop k).length=k:=by simp;omega
theorem suf_at {l r:List Tok} {k s:Nat} (h:Suf (l.drop k) r s) (hk:k≤l.length):∃k',k'≤l.length∧r=l.drop k'∧k+s≤k':=by
 obtain ⟨j,h1,rfl,h3⟩:=h
 simp at h1
 exact ⟨k+j,by omega,by rw [List.drop_drop],by omega⟩
def Exs.argD (es:Exs) (b:Nat):Dat:=ofD 8 (es.places b)
def outA (l:List Tok) (ns:List Nod) (x:R Exs):Out:=
 match x with
 | .ok es r=>.ok (.d (es.argD ns.length)) (rdN l (l.length - r.length) (ns++es.flat ns.length))
 | .bad=>.bad
 | .out=>.out
def outC (l:List Tok) (ns:List Nod) (s:Str) (x:R (Str×Exs)):Out:=
 match x with
 | .ok y r=>.ok (.d (I ((ns.length+(Ex.call s y.1 y.2).sz - 1:Nat)))) (rdN l (l.length - r.length) (ns++(Ex.call s y.1 y.2).flat ns.length))
 | .bad=>.bad
 | .out=>.out
structure CE (l:List Tok) (n:Nat):Prop where
 args:∀k ns,k≤l.length→ns.length≤k→SatO n_parse_reader_arguments [.ptr 0 0] (rdN l k ns) (outA l ns (pArgs n (l.drop k)))
 call:∀s k ns,k≤l.length→ns.length≤k→SatO n_parse_reader_call [.ptr 0 0,.d (.str s)] (rdN l k ns) (outC l ns s (pCall n s (l.drop k)))
 prim:∀k ns,k≤l.length→ns.length≤k→OkE n_parse_reader_primary l k ns (pPrim n (l.drop k))
 prod:∀k ns,k≤l.length→ns.length≤k→OkE n_parse_reader_product l k ns (pProd n (l.drop k))
 sum:∀k ns,k≤l.length→ns.length≤k→OkE n_parse_reader_sum l k ns (pSum n (l.drop k))
 expr:∀k ns,k≤l.length→ns.length≤k→OkE n_parse_reader_expression l k ns (pExpr n (l.drop k))
theorem useE {f:FuncId} {l:List Tok} {k:Nat} {ns:List Nod} {x:R Ex} (h:OkE f l k ns x) (hk:k≤l.length) (hs:∀e r,x = .ok e r→Suf (l.drop k) r e.sz) :
  x = .out∨(x = .bad∧SatP P0 f [.ptr 0 0] (rdN l k ns) wrongD)∨∃e k',x = .ok e (l.drop k')∧k'≤l.length∧k+e.sz≤k'∧SatE P0 f [.ptr 0 0] (rdN l k ns) (.d (I ((ns.length+e.sz - 1:Nat)))) (rdN l k' (ns++e.flat ns.length)):=by
 cases x with
 | out=>exact .inl rfl
 | bad=>exact .inr (.inl ⟨rfl,h⟩)
 | ok e r=>
  obtain ⟨k',h1,rfl,h2⟩:=suf_at (hs e r rfl) hk
  refine .inr (.inr ⟨e,k',rfl,h1,h2,?_⟩)
  have h:SatE P0 f [.ptr 0 0] (rdN l k ns) (.d (I ((ns.length+e.sz - 1:Nat)))) (rdN l (l.length - (l.drop k').length) (ns++e.flat ns.length)):=h
  rw [len_drop h1] at h
  exact h
theorem bin_flat (ns:List Nod) (k:Int) (x y:Ex):ns++(Ex.bin k x y).flat ns.length=ns++x.flat ns.length++y.flat (ns++x.flat ns.length).length++[⟨k,0,[],[],[ns.length+x.sz - 1,(ns++x.flat ns.length).length+y.sz - 1]⟩]:=by
 simp [Ex.flat,Ex.flat_len]
theorem put_bin (l:List Tok) (k:Nat) (ns:List Nod) (K:Int) (x y:Ex) (hx:(ns++x.flat ns.length++y.flat (ns++x.flat ns.length).length).length<1000000) (hK:3≤K∧K≤7) :
  SatE P0 n_parse_reader_put [.ptr 0 0,.agg [.d (I K),.d (I 0),.d (.str []),.d (.str []),.d (.slice 1 [[I ((ns.length+x.sz - 1:Nat))],[I (((ns++x.flat ns.length).length+y.sz - 1:Nat))]] true)]] (rdN l k (ns++x.flat ns.length++y.flat (ns++x.flat ns.length).length)) (.d (I ((ns.length+(Ex.bin K x y).sz - 1:Nat)))) (rdN l k (ns++(Ex.bin K x y).flat ns.length)):=by
 have:=put_ok l k _ _ _ (bin_flat ns K x y) (ns.length+(Ex.bin K x y).sz - 1) (by simp [Ex.sz,Ex.flat_len];try omega) hx
 have e:ofD K [ns.length+x.sz - 1,(ns++x.flat ns.length).length+y.sz - 1] = .slice 1 [[I ((ns.length+x.sz - 1:Nat))],[I (((ns++x.flat ns.length).length+y.sz - 1:Nat))]] true:=by
  unfold ofD
  rw [if_neg (by omega),if_neg (by omega),if_neg (by omega)]
  rfl
 simp only [e] at this
 exact this
theorem c_prod (l:List Tok) (hl:l.length<1000000) (n:Nat) (ih:∀m,m≤n→CE l m) (k:Nat) (ns:List Nod) (hk:k≤l.length) (hn:ns.length≤k):OkE n_parse_reader_product l k ns (pProd (n+1) (l.drop k)):=by
 rw [pProd]
 rcases useE ((ih n (Nat.le_refl _)).prim k ns hk hn) hk (fun e r h=>(suf_e n).prim _ _ _ h) with h0|⟨h0,h1⟩|⟨e,k1,h0,hk1,hk1',h1⟩
 ·rw [h0];exact trivial
 ·rw [h0]
  refine SatP_by is_parse_reader_product rfl ?_
  ((repeat' first|refine aw ?_|refine bw (fun _=>?_) fun _=>?_))
  refine WT_frP 2 [0,1] h1 ?_
  intro h m
  ((repeat' first|refine aw ?_|refine bw (fun _=>?_) fun _=>?_))
  exact WT_epan rfl
 ·rw [h0]
  show OkE _ _ _ _ (pProdT n e (l.drop k1))
  by_cases hout:pProdT n e (l.drop k1) = .out
  ·rw [hout];exact trivial
  generalize hR:pProdT n e (l.drop k1)=R at hout
  refine SatO_by is_parse_reader_product rfl (outE_ne hout) ?_
  ((repeat' first|refine aw ?_|refine bw (fun _=>?_) fun _=>?_))
  refine WT_frE 2 [0,1] h1 ?_
  ((repeat' first|refine aw ?_|refine bw (fun _=>?_) fun _=>?_))
  refine WT_loop (fun ((e,k1,m):Ex×Nat×Nat)=>⟨[(3,.d (I ↑(ns.length+e.sz - 1))),(0,.ptr 0 0)],heapOf 0 (rdN l k1 (ns++e.flat ns.length)),2,[],2⟩) (fun (e,k1,m)=>pProdT m e (l.drop k1)=R∧m≤n∧k1≤l.length∧k+e.sz≤k1) (fun (_,_,m)=>m) (e,k1,n) (by exact Uw.wW) ⟨hR,Nat.le_refl _,hk1,hk1'⟩ ?_
  clear hR h0 h1 hk1 hk1'
  rintro ⟨e,k1,m⟩ ⟨hR,hm,hk1,hk2⟩
  cases m with
  | zero=>rw [pProdT] at hR;exact absurd hR.symm hout
  | succ m=>
   rw [pProdT] at hR
   have pk:=s_parse_reader_peek l k1 ((ns++e.flat ns.length).map nodL) hk1
   have hfl:(ns++e.flat ns.length).length=ns.length+e.sz:=by simp [Ex.flat_len]
   by_cases hs:hd (l.drop k1)=[42]
   ·have hlt:=hd_lt hs (by simp)
    rw [if_pos hs,List.tail_drop] at hR
    rw [hs] at pk
    rcases useE ((ih m (by omega)).prim (k1+1) (ns++e.flat ns.length) (by omega) (by omega)) (by omega) (fun e r h=>(suf_e m).prim _ _ _ h) with h0|⟨h0,h1⟩|⟨y,k2,h0,hk3,hk3',h1⟩
    ·rw [h0] at hR;exact absurd hR.symm hout
    ·rw [h0] at hR
     have hb:outE l ns R = .bad:=by rw [← hR];rfl
     clear ih hR hout hs
     ((repeat' first|refine aw ?_|refine bw (fun _=>?_) fun _=>?_))
     refine WT_frE 2 [0,1] pk ?_
     ((repeat' first|refine aw ?_|refine bw (fun _=>?_) fun _=>?_))
     refine WT_inl is_parse_reader_pair rfl ?_
     ((repeat' first|refine aw ?_|refine bw (fun _=>?_) fun _=>?_))
     refine WT_frP 2 [0,1] h1 ?_
     intro h q
     ((repeat' first|refine aw ?_|refine bw (fun _=>?_) fun _=>?_))
     refine WT_ipan rfl ?_
     ((repeat' first|refine aw ?_|refine bw (fun _=>?_) fun _=>?_))
     exact WT_throw (WT_opan 2 hb rfl)
    ·rw [h0] at hR
     have hR:pProdT m (.bin 5 e y) (l.drop k2)=R:=hR
     have hp:=put_bin l k2 ns 5 e y (by simp [Ex.flat_len];omega) (by omega)
     clear ih hout hs
     ((repeat' first|refine aw ?_|refine bw (fun _=>?_) fun _=>?_))
     refine WT_frE 2 [0,1] pk ?_
     ((repeat' first|refine aw ?_|refine bw (fun _=>?_) fun _=>?_))
     refine WT_inl is_parse_reader_pair rfl ?_
     ((repeat' first|refine aw ?_|refine bw (fun _=>?_) fun _=>?_))
     refine WT_frE 2 [0,1] h1 ?_
     ((repeat' first|refine aw ?_|refine bw (fun _=>?_) fun _=>?_))
     refine WT_frE 2 [0,1] hp ?_
     ((repeat' first|refine aw ?_|refine bw (fun _=>?_) fun _=>?_))
     refine WT_iret rfl rfl ?_
     ((repeat' first|refine aw ?_|refine bw (fun _=>?_) fun _=>?_))
     exact WT_again (.bin 5 e y,k2,m) ⟨hR,by omega,hk3,by rw [Ex.sz];omega⟩ (by simp only;omega) (by exact Uw.wW)
   ·rw [if_neg hs] at hR
    have hb:outE l ns R = .ok (.d (I ((ns.length+e.sz - 1:Nat)))) (rdN l k1 (ns++e.flat ns.length)):=by rw [← hR];show Out.ok _ (rdN l (l.length - (l.drop k1).length) _)=_;rw [len_drop hk1]
    generalize hd (l.drop k1)=p at *
    clear ih hR hout
    ((repeat' first|refine aw ?_|refine bw (fun _=>?_) fun _=>?_))
    refine WT_frE 2 [0,1] pk ?_
    ((repeat' first|refine aw ?_|refine bw (fun _=>?_) fun _=>?_))
    exact WT_oret 2 hb rfl rfl (by exact Uw.wW)
end Uw.Tryz
namespace Uw.Tryz
open Go Uw
theorem c_sum (l:List Tok) (hl:l.length<1000000) (n:Nat) (ih:∀m,m≤n→CE l m) (k:Nat) (ns:List Nod) (hk:k≤l.length) (hn:ns.length≤k):OkE n_parse_reader_sum l k ns (pSum (n+1) (l.drop k)):=by
 rw [pSum]
 rcases useE ((ih n (Nat.le_refl _)).prod k ns hk hn) hk (fun e r h=>(suf_e n).prod _ _ _ h) with h0|⟨h0,h1⟩|⟨e,k1,h0,hk1,hk1',h1⟩
 ·rw [h0];exact trivial
 ·rw [h0]
  refine SatP_by is_parse_reader_sum rfl ?_
  ((repeat' first|refine aw ?_|refine bw (fun _=>?_) fun _=>?_))
  refine WT_frP 2 [0,1] h1 ?_
  intro h m
  ((repeat' first|refine aw ?_|refine bw (fun _=>?_) fun _=>?_))
  exact WT_epan rfl
 ·rw [h0]
  show OkE _ _ _ _ (pSumT n e (l.drop k1))
  by_cases hout:pSumT n e (l.drop k1) = .out
  ·rw [hout];exact trivial
  generalize hR:pSumT n e (l.drop k1)=R at hout
  refine SatO_by is_parse_reader_sum rfl (outE_ne hout) ?_
  ((repeat' first|refine aw ?_|refine bw (fun _=>?_) fun _=>?_))
  refine WT_frE 2 [0,1] h1 ?_
  ((repeat' first|refine aw ?_|refine bw (fun _=>?_) fun _=>?_))
  refine WT_loop (fun ((e,k1,m):Ex×Nat×Nat)=>⟨[(3,.d (I ↑(ns.length+e.sz - 1))),(0,.ptr 0 0)],heapOf 0 (rdN l k1 (ns++e.flat ns.length)),2,[],2⟩) (fun (e,k1,m)=>pSumT m e (l.drop k1)=R∧m≤n∧k1≤l.length∧k+e.sz≤k1) (fun (_,_,m)=>m) (e,k1,n) (by exact Uw.wW) ⟨hR,Nat.le_refl _,hk1,hk1'⟩ ?_
  clear hR h0 h1 hk1 hk1'
  rintro ⟨e,k1,m⟩ ⟨hR,hm,hk1,hk2⟩
  cases m with
  | zero=>rw [pSumT] at hR;exact absurd hR.symm hout
  | succ m=>
   rw [pSumT] at hR
   have pk:=s_parse_reader_peek l k1 ((ns++e.flat ns.length).map nodL) hk1
   have hfl:(ns++e.flat ns.length).length=ns.length+e.sz:=by simp [Ex.flat_len]
   by_cases hs:hd (l.drop k1)=[43]∨hd (l.drop k1)=[45]
   ·have hlt:k1<l.length:=by rcases hs with hs|hs<;>exact hd_lt hs (by simp)
    rcases useE ((ih m (by omega)).prod (k1+1) (ns++e.flat ns.length) (by omega) (by omega)) (by omega) (fun e r h=>(suf_e m).prod _ _ _ h) with h0|⟨h0,h1⟩|⟨y,k2,h0,hk3,hk3',h1⟩
    ·exfalso
     rcases hs with hs|hs
     ·rw [if_pos hs,List.tail_drop,h0] at hR;exact hout hR.symm
     ·rw [if_neg (by rw [hs];decide),if_pos hs,List.tail_drop,h0] at hR;exact hout hR.symm
    ·have hb:outE l ns R = .bad:=by
      rcases hs with hs|hs
      ·rw [if_pos hs,List.tail_drop,h0] at hR;rw [← hR];rfl
      ·rw [if_neg (by rw [hs];decide),if_pos hs,List.tail_drop,h0] at hR;rw [← hR];rfl
     clear ih hR hout
     rcases hs with hs|hs
     all_goals
      rw [hs] at pk
      clear hs
      ((repeat' first|refine aw ?_|refine bw (fun _=>?_) fun _=>?_))
      refine WT_frE 2 [0,1] pk ?_
      ((repeat' first|refine aw ?_|refine bw (fun _=>?_) fun _=>?_))
      refine WT_inl is_parse_reader_pair rfl ?_
      ((repeat' first|refine aw ?_|refine bw (fun _=>?_) fun _=>?_))
      refine WT_frP 2 [0,1] h1 ?_
      intro h q
      ((repeat' first|refine aw ?_|refine bw (fun _=>?_) fun _=>?_))
      refine WT_ipan rfl ?_
      ((repeat' first|refine aw ?_|refine bw (fun _=>?_) fun _=>?_))
      exact WT_throw (WT_opan 2 hb rfl)
    ·rcases hs with hs|hs
     ·have hR:pSumT m (.bin 3 e y) (l.drop k2)=R:=by rw [if_pos hs,List.tail_drop,h0] at hR;exact hR
      have hp:=put_bin l k2 ns 3 e y (by simp [Ex.flat_len];omega) (by omega)
      rw [hs] at pk
      clear ih hout hs
      ((repeat' first|refine aw ?_|refine bw (fun _=>?_) fun _=>?_))
      refine WT_frE 2 [0,1] pk ?_
      ((repeat' first|refine aw ?_|refine bw (fun _=>?_) fun _=>?_))
      refine WT_inl is_parse_reader_pair rfl ?_
      ((repeat' first|refine aw ?_|refine bw (fun _=>?_) fun _=>?_))
      refine WT_frE 2 [0,1] h1 ?_
      ((repeat' first|refine aw ?_|refine bw (fun _=>?_) fun _=>?_))
      refine WT_frE 2 [0,1] hp ?_
      ((repeat' first|refine aw ?_|refine bw (fun _=>?_) fun _=>?_))
      refine WT_iret rfl rfl ?_
      ((repeat' first|refine aw ?_|refine bw (fun _=>?_) fun _=>?_))
      exact WT_again (.bin 3 e y,k2,m) ⟨hR,by omega,hk3,by rw [Ex.sz];omega⟩ (by simp only;omega) (by exact Uw.wW)
     ·have hR:pSumT m (.bin 4 e y) (l.drop k2)=R:=by rw [if_neg (by rw [hs];decide),if_pos hs,List.tail_drop,h0] at hR;exact hR
      have hp:=put_bin l k2 ns 4 e y (by simp [Ex.flat_len];omega) (by omega)
      rw [hs] at pk
      clear ih hout hs
      ((repeat' first|refine aw ?_|refine bw (fun _=>?_) fun _=>?_))
      refine WT_frE 2 [0,1] pk ?_
      ((repeat' first|refine aw ?_|refine bw (fun _=>?_) fun _=>?_))
      refine WT_inl is_parse_reader_pair rfl ?_
      ((repeat' first|refine aw ?_|refine bw (fun _=>?_) fun _=>?_))
      refine WT_frE 2 [0,1] h1 ?_
      ((repeat' first|refine aw ?_|refine bw (fun _=>?_) fun _=>?_))
      refine WT_frE 2 [0,1] hp ?_
      ((repeat' first|refine aw ?_|refine bw (fun _=>?_) fun _=>?_))
      refine WT_iret rfl rfl ?_
      ((repeat' first|refine aw ?_|refine bw (fun _=>?_) fun _=>?_))
      exact WT_again (.bin 4 e y,k2,m) ⟨hR,by omega,hk3,by rw [Ex.sz];omega⟩ (by simp only;omega) (by exact Uw.wW)
   ·rw [if_neg (fun h=>hs (.inl h)),if_neg (fun h=>hs (.inr h))] at hR
    have hb:outE l ns R = .ok (.d (I ((ns.length+e.sz - 1:Nat)))) (rdN l k1 (ns++e.flat ns.length)):=by rw [← hR];show Out.ok _ (rdN l (l.length - (l.drop k1).length) _)=_;rw [len_drop hk1]
    generalize hd (l.drop k1)=p at *
    have hs1:¬p=[43]:=fun h=>hs (.inl h)
    have hs2:¬p=[45]:=fun h=>hs (.inr h)
    clear ih hR hout hs
    ((repeat' first|refine aw ?_|refine bw (fun _=>?_) fun _=>?_))
    refine WT_frE 2 [0,1] pk ?_
    ((repeat' first|refine aw ?_|refine bw (fun _=>?_) fun _=>?_))
    exact WT_leave (WT_oret 2 hb rfl rfl (by exact Uw.wW))
theorem c_expr (l:List Tok) (hl:l.length<1000000) (n:Nat) (ih:∀m,m≤n→CE l m) (k:Nat) (ns:List Nod) (hk:k≤l.length) (hn:ns.length≤k):OkE n_parse_reader_expression l k ns (pExpr (n+1) (l.drop k)):=by
 rw [pExpr]
 rcases useE ((ih n (Nat.le_refl _)).sum k ns hk hn) hk (fun e r h=>(suf_e n).sum _ _ _ h) with h0|⟨h0,h1⟩|⟨e,k1,h0,hk1,hk1',h1⟩
 ·rw [h0];exact trivial
 ·rw [h0]
  refine SatP_by is_parse_reader_expression rfl ?_
  ((repeat' first|refine aw ?_|refine bw (fun _=>?_) fun _=>?_))
  refine WT_frP 2 [0,1] h1 ?_
  intro h m
  ((repeat' first|refine aw ?_|refine bw (fun _=>?_) fun _=>?_))
  exact WT_epan rfl
 ·rw [h0]
  have pk:=s_parse_reader_peek l k1 ((ns++e.flat ns.length).map nodL) hk1
  have hfl:(ns++e.flat ns.length).length=ns.length+e.sz:=by simp [Ex.flat_len]
  show OkE _ _ _ _ (if hd (l.drop k1)=[60] then _ else _)
  by_cases hs:hd (l.drop k1)=[60]∨hd (l.drop k1)=[61,61]
  ·have hlt:k1<l.length:=by rcases hs with hs|hs<;>exact hd_lt hs (by simp)
   rcases useE ((ih n (Nat.le_refl _)).sum (k1+1) (ns++e.flat ns.length) (by omega) (by omega)) (by omega) (fun e r h=>(suf_e n).sum _ _ _ h) with h2|⟨h2,h3⟩|⟨y,k2,h2,hk3,hk3',h3⟩
   ·rcases hs with hs|hs
    ·rw [if_pos hs,List.tail_drop,h2];exact trivial
    ·rw [if_neg (by rw [hs];decide),if_pos hs,List.tail_drop,h2];exact trivial
   ·rcases hs with hs|hs
    ·rw [if_pos hs,List.tail_drop,h2]
     rw [hs] at pk
     clear hs ih
     refine SatP_by is_parse_reader_expression rfl ?_
     ((repeat' first|refine aw ?_|refine bw (fun _=>?_) fun _=>?_))
     refine WT_frE 2 [0,1] h1 ?_
     ((repeat' first|refine aw ?_|refine bw (fun _=>?_) fun _=>?_))
     refine WT_frE 2 [0,1] pk ?_
     ((repeat' first|refine aw ?_|refine bw (fun _=>?_) fun _=>?_))
     refine WT_inl is_parse_reader_pair rfl ?_
     ((repeat' first|refine aw ?_|refine bw (fun _=>?_) fun _=>?_))
     refine WT_frP 2 [0,1] h3 ?_
     intro h q
     ((repeat' first|refine aw ?_|refine bw (fun _=>?_) fun _=>?_))
     refine WT_ipan rfl ?_
     ((repeat' first|refine aw ?_|refine bw (fun _=>?_) fun _=>?_))
     exact WT_epan rfl
    ·rw [if_neg (by rw [hs];decide),if_pos hs,List.tail_drop,h2]
     rw [hs] at pk
     clear hs ih
     refine SatP_by is_parse_reader_expression rfl ?_
     ((repeat' first|refine aw ?_|refine bw (fun _=>?_) fun _=>?_))
     refine WT_frE 2 [0,1] h1 ?_
     ((repeat' first|refine aw ?_|refine bw (fun _=>?_) fun _=>?_))
     refine WT_frE 2 [0,1] pk ?_
     ((repeat' first|refine aw ?_|refine bw (fun _=>?_) fun _=>?_))
     refine WT_inl is_parse_reader_pair rfl ?_
     ((repeat' first|refine aw ?_|refine bw (fun _=>?_) fun _=>?_))
     refine WT_frP 2 [0,1] h3 ?_
     intro h q
     ((repeat' first|refine aw ?_|refine bw (fun _=>?_) fun _=>?_))
     refine WT_ipan rfl ?_
     ((repeat' first|refine aw ?_|refine bw (fun _=>?_) fun _=>?_))
     exact WT_epan rfl
   ·rcases hs with hs|hs
    ·rw [if_pos hs,List.tail_drop,h2]
     have hp:=put_bin l k2 ns 6 e y (by simp [Ex.flat_len];omega) (by omega)
     rw [hs] at pk
     show SatE _ _ _ _ _ (rdN l (l.length - (l.drop k2).length) _)
     rw [len_drop hk3]
     clear hs ih
     refine SatE_by is_parse_reader_expression rfl ?_
     ((repeat' first|refine aw ?_|refine bw (fun _=>?_) fun _=>?_))
     refine WT_frE 2 [0,1] h1 ?_
     ((repeat' first|refine aw ?_|refine bw (fun _=>?_) fun _=>?_))
     refine WT_frE 2 [0,1] pk ?_
     ((repeat' first|refine aw ?_|refine bw (fun _=>?_) fun _=>?_))
     refine WT_inl is_parse_reader_pair rfl ?_
     ((repeat' first|refine aw ?_|refine bw (fun _=>?_) fun _=>?_))
     refine WT_frE 2 [0,1] h3 ?_
     ((repeat' first|refine aw ?_|refine bw (fun _=>?_) fun _=>?_))
     refine WT_frE 2 [0,1] hp ?_
     ((repeat' first|refine aw ?_|refine bw (fun _=>?_) fun _=>?_))
     refine WT_iret rfl rfl ?_
     ((repeat' first|refine aw ?_|refine bw (fun _=>?_) fun _=>?_))
     exact WT_eret 2 rfl rfl (by exact Uw.wW)
    ·rw [if_neg (by rw [hs];decide),if_pos hs,List.tail_drop,h2]
     have hp:=put_bin l k2 ns 7 e y (by simp [Ex.flat_len];omega) (by omega)
     rw [hs] at pk
     show SatE _ _ _ _ _ (rdN l (l.length - (l.drop k2).length) _)
     rw [len_drop hk3]
     clear hs ih
     refine SatE_by is_parse_reader_expression rfl ?_
     ((repeat' first|refine aw ?_|refine bw (fun _=>?_) fun _=>?_))
     refine WT_frE 2 [0,1] h1 ?_
     ((repeat' first|refine aw ?_|refine bw (fun _=>?_) fun _=>?_))
     refine WT_frE 2 [0,1] pk ?_
     ((repeat' first|refine aw ?_|refine bw (fun _=>?_) fun _=>?_))
     refine WT_inl is_parse_reader_pair rfl ?_
     ((repeat' first|refine aw ?_|refine bw (fun _=>?_) fun _=>?_))
     refine WT_frE 2 [0,1] h3 ?_
     ((repeat' first|refine aw ?_|refine bw (fun _=>?_) fun _=>?_))
     refine WT_frE 2 [0,1] hp ?_
     ((repeat' first|refine aw ?_|refine bw (fun _=>?_) fun _=>?_))
     refine WT_iret rfl rfl ?_
     ((repeat' first|refine aw ?_|refine bw (fun _=>?_) fun _=>?_))
     exact WT_eret 2 rfl rfl (by exact Uw.wW)
  ·rw [if_neg (fun h=>hs (.inl h)),if_neg (fun h=>hs (.inr h))]
   show SatE _ _ _ _ _ (rdN l (l.length - (l.drop k1).length) _)
   rw [len_drop hk1]
   generalize hd (l.drop k1)=p at *
   have hs1:¬p=[60]:=fun h=>hs (.inl h)
   have hs2:¬p=[61,61]:=fun h=>hs (.inr h)
   clear ih hs
   refine SatE_by is_parse_reader_expression rfl ?_
   ((repeat' first|refine aw ?_|refine bw (fun _=>?_) fun _=>?_))
   refine WT_frE 2 [0,1] h1 ?_
   ((repeat' first|refine aw ?_|refine bw (fun _=>?_) fun _=>?_))
   refine WT_frE 2 [0,1] pk ?_
   ((repeat' first|refine aw ?_|refine bw (fun _=>?_) fun _=>?_))
   exact WT_eret 2 rfl rfl (by exact Uw.wW)
end Uw.Tryz
namespace Uw.Tryz
open Go Uw
def Exs.app:Exs→Exs→Exs
 | .nil,b=>b
 | .cons e r,b=>.cons e (r.app b)
theorem Exs.app_sz:∀(a b:Exs),(a.app b).sz=a.sz+b.sz
 | .nil,b=>by simp [Exs.app,Exs.sz]
 | .cons e r,b=>by rw [Exs.app,Exs.sz,Exs.sz,Exs.app_sz r b];omega
theorem Exs.app_flat:∀(a b:Exs) (n:Nat),(a.app b).flat n=a.flat n++b.flat (n+a.sz)
 | .nil,b,n=>by simp [Exs.app,Exs.flat,Exs.sz]
 | .cons e r,b,n=>by rw [Exs.app,Exs.flat,Exs.flat,Exs.app_flat r b,Exs.sz,List.append_assoc,Nat.add_assoc]
theorem Exs.app_places:∀(a b:Exs) (n:Nat),(a.app b).places n=a.places n++b.places (n+a.sz)
 | .nil,b,n=>by simp [Exs.app,Exs.places,Exs.sz]
 | .cons e r,b,n=>by rw [Exs.app,Exs.places,Exs.places,Exs.app_places r b,Exs.sz,List.cons_append,Nat.add_assoc]
theorem Exs.app_nil:∀(a:Exs),a.app .nil=a
 | .nil=>rfl
 | .cons e r=>by rw [Exs.app,Exs.app_nil r]
theorem Exs.app_assoc:∀(a b c:Exs),(a.app b).app c=a.app (b.app c)
 | .nil,b,c=>rfl
 | .cons e r,b,c=>by rw [Exs.app,Exs.app,Exs.app,Exs.app_assoc r b c]
def rowN (ys:List Nat):List (List Dat):=ys.map fun (i:Nat)=>[I i]
theorem s_args1_first (l:List Tok) (k k' : Nat) (ns ms:List Nod) (p:Nat) (h:SatE P0 n_parse_reader_expression [.ptr 0 0] (rdN l k ns) (.d (I p)) (rdN l k' ms)) :
  SatE P0 n_parse_reader_arguments_1 [.ptr 3 0,.ptr 2 0] (rdN l k ns++[.var [.ptr 0 0],.var [.d .nil]]) (.tuple []) (rdN l k' ms++[.var [.ptr 0 0],.var [.ref 4 0 0 (rowN [p]).length],.arr 1 (rowN [p])]):=by
 refine SatE_by is_parse_reader_arguments_1 rfl ?_
 refine WT_draw ⟨[],heapOf 0 (rdN l k' ms++[.var [.ptr 0 0],.var [.ref 4 0 0 (rowN [p]).length],.arr 1 (rowN [p])]),5,[],4⟩ ?_ ?_
 ·((repeat' first|refine aw ?_|refine bw (fun _=>?_) fun _=>?_))
  refine WT_frE 4 [0,1] h ?_
  ((repeat' first|refine aw ?_|refine bw (fun _=>?_) fun _=>?_))
  exact WT_done (.inl ⟨rfl,by exact Uw.wW⟩)
 ·((repeat' first|refine aw ?_|refine bw (fun _=>?_) fun _=>?_))
  exact WT_eend 4 rfl rfl (by exact Uw.wW)
theorem s_args1_next (l:List Tok) (k k' : Nat) (ns ms:List Nod) (ys:List Nat) (p:Nat) (hy:ys.length<1000000) (h:SatE P0 n_parse_reader_expression [.ptr 0 0] (rdN l k ns) (.d (I p)) (rdN l k' ms)) :
  SatE P0 n_parse_reader_arguments_1 [.ptr 3 0,.ptr 2 0] (rdN l k ns++[.var [.ptr 0 0],.var [.ref 4 0 0 (rowN ys).length],.arr 1 (rowN ys)]) (.tuple []) (rdN l k' ms++[.var [.ptr 0 0],.var [.ref 4 0 0 (rowN (ys++[p])).length],.arr 1 (rowN (ys++[p]))]):=by
 have e:rowN (ys++[p])=rowN ys++[[I p]]:=by simp [rowN]
 have hy' : (rowN ys).length<1000000:=by simpa [rowN] using hy
 rw [e]
 generalize rowN ys=zs at *
 refine SatE_by is_parse_reader_arguments_1 rfl ?_
 refine WT_draw ⟨[],heapOf 0 (rdN l k' ms++[.var [.ptr 0 0],.var [.ref 4 0 0 (zs++[[I p]]).length],.arr 1 (zs++[[I p]])]),5,[],5⟩ ?_ ?_
 ·((repeat' first|refine aw ?_|refine bw (fun _=>?_) fun _=>?_))
  refine WT_frE 5 [0,1] h ?_
  ((repeat' first|refine aw ?_|refine bw (fun _=>?_) fun _=>?_))
  exact WT_done (.inl ⟨rfl,by exact Uw.wW⟩)
 ·((repeat' first|refine aw ?_|refine bw (fun _=>?_) fun _=>?_))
  exact WT_eend 5 rfl rfl (by exact Uw.wW)
theorem p_args1_first (l:List Tok) (k:Nat) (ns:List Nod) (h:SatP P0 n_parse_reader_expression [.ptr 0 0] (rdN l k ns) wrongD) :
  SatP P0 n_parse_reader_arguments_1 [.ptr 3 0,.ptr 2 0] (rdN l k ns++[.var [.ptr 0 0],.var [.d .nil]]) wrongD:=by
 refine SatP_by is_parse_reader_arguments_1 rfl ?_
 refine WT_drawP ?_
 ((repeat' first|refine aw ?_|refine bw (fun _=>?_) fun _=>?_))
 refine WT_frP 4 [0,1] h ?_
 intro H n
 ((repeat' first|refine aw ?_|refine bw (fun _=>?_) fun _=>?_))
 exact WT_done ⟨wrongD,rfl,WT_epan rfl⟩
theorem p_args1_next (l:List Tok) (k:Nat) (ns:List Nod) (ys:List Nat) (h:SatP P0 n_parse_reader_expression [.ptr 0 0] (rdN l k ns) wrongD) :
  SatP P0 n_parse_reader_arguments_1 [.ptr 3 0,.ptr 2 0] (rdN l k ns++[.var [.ptr 0 0],.var [.ref 4 0 0 (rowN ys).length],.arr 1 (rowN ys)]) wrongD:=by
 generalize rowN ys=zs at *
 refine SatP_by is_parse_reader_arguments_1 rfl ?_
 refine WT_drawP ?_
 ((repeat' first|refine aw ?_|refine bw (fun _=>?_) fun _=>?_))
 refine WT_frP 5 [0,1] h ?_
 intro H n
 ((repeat' first|refine aw ?_|refine bw (fun _=>?_) fun _=>?_))
 exact WT_done ⟨wrongD,rfl,WT_epan rfl⟩
theorem useA {l:List Tok} {k:Nat} {ns:List Nod} {f:FuncId} {x:R Exs} (h:SatO f [.ptr 0 0] (rdN l k ns) (outA l ns x)) (hk:k≤l.length) (hs:∀e r,x = .ok e r→Suf (l.drop k) r (e.sz+1)) :
  x = .out∨(x = .bad∧SatP P0 f [.ptr 0 0] (rdN l k ns) wrongD)∨∃e k',x = .ok e (l.drop k')∧k'≤l.length∧k+(e.sz+1)≤k'∧SatE P0 f [.ptr 0 0] (rdN l k ns) (.d (e.argD ns.length)) (rdN l k' (ns++e.flat ns.length)):=by
 cases x with
 | out=>exact .inl rfl
 | bad=>exact .inr (.inl ⟨rfl,h⟩)
 | ok e r=>
  obtain ⟨k',h1,rfl,h2⟩:=suf_at (hs e r rfl) hk
  refine .inr (.inr ⟨e,k',rfl,h1,h2,?_⟩)
  have h:SatE P0 f [.ptr 0 0] (rdN l k ns) (.d (e.argD ns.length)) (rdN l (l.length - (l.drop k').length) (ns++e.flat ns.length)):=h
  rw [len_drop h1] at h
  exact h
theorem outA_ne {l:List Tok} {ns:List Nod} {x:R Exs} (h:x≠.out):outA l ns x≠.out:=by cases x<;>first|exact absurd rfl h|(intro h;cases h)
theorem c_args (l:List Tok) (hl:l.length<1000000) (n:Nat) (ih:∀m,m≤n→CE l m) (k:Nat) (ns:List Nod) (hk:k≤l.length) (hn:ns.length≤k):SatO n_parse_reader_arguments [.ptr 0 0] (rdN l k ns) (outA l ns (pArgs (n+1) (l.drop k))):=by
 rw [pArgs]
 by_cases h0:hd (l.drop k)=[40]
 ·have hlt:=hd_lt h0 (by simp)
  have w0:=s_parse_reader_want l k (ns.map nodL) hk hl [40] (by simp) h0
  have hv:=s_parse_reader_have l (k+1) (ns.map nodL) hlt hl [41] (by simp)
  rw [want,if_pos h0,List.tail_drop]
  show SatO _ _ _ (outA l ns (if hd (l.drop (k+1))=[41] then _ else _))
  by_cases h1:hd (l.drop (k+1))=[41]
  ·have hlt1:=hd_lt h1 (by simp)
   rw [if_pos h1,List.tail_drop]
   rw [if_pos h1,decide_eq_true h1] at hv
   show SatE _ _ _ _ (.d .nil) (rdN l (l.length - (l.drop (k+1+1)).length) (ns++[]))
   rw [len_drop (by omega),List.append_nil]
   clear ih h0 h1
   refine SatE_by is_parse_reader_arguments rfl ?_
   ((repeat' first|refine aw ?_|refine bw (fun _=>?_) fun _=>?_))
   refine WT_inl is_parse_reader_row rfl ?_
   ((repeat' first|refine aw ?_|refine bw (fun _=>?_) fun _=>?_))
   refine WT_frE 4 [0,1] w0 ?_
   ((repeat' first|refine aw ?_|refine bw (fun _=>?_) fun _=>?_))
   refine WT_frE 4 [0,1] hv ?_
   ((repeat' first|refine aw ?_|refine bw (fun _=>?_) fun _=>?_))
   refine WT_iret rfl rfl ?_
   ((repeat' first|refine aw ?_|refine bw (fun _=>?_) fun _=>?_))
   exact WT_eret 2 rfl rfl (by exact Uw.wW)
  ·rw [if_neg h1]
   rw [if_neg h1,decide_eq_false h1] at hv
   rcases useE ((ih n (Nat.le_refl _)).expr (k+1) ns hlt (by omega)) hlt (fun e r h=>(suf_e n).expr _ _ _ h) with h2|⟨h2,h3⟩|⟨e,k1,h2,hk1,hk1',h3⟩
   ·rw [h2];exact trivial
   ·rw [h2]
    have a1:=p_args1_first l (k+1) ns h3
    clear ih h0 h1
    refine SatP_by is_parse_reader_arguments rfl ?_
    ((repeat' first|refine aw ?_|refine bw (fun _=>?_) fun _=>?_))
    refine WT_inl is_parse_reader_row rfl ?_
    ((repeat' first|refine aw ?_|refine bw (fun _=>?_) fun _=>?_))
    refine WT_frE 4 [0,1] w0 ?_
    ((repeat' first|refine aw ?_|refine bw (fun _=>?_) fun _=>?_))
    refine WT_frE 4 [0,1] hv ?_
    ((repeat' first|refine aw ?_|refine bw (fun _=>?_) fun _=>?_))
    refine WT_frP 4 [0,1,2,3] a1 ?_
    intro H q
    ((repeat' first|refine aw ?_|refine bw (fun _=>?_) fun _=>?_))
    refine WT_ipan rfl ?_
    ((repeat' first|refine aw ?_|refine bw (fun _=>?_) fun _=>?_))
    exact WT_epan rfl
   ·rw [h2]
    show SatO _ _ _ (outA l ns ((pArgsT n (l.drop k1)).bind fun es r=>.ok (.cons e es) r))
    have hf1:ns++e.flat ns.length=ns++(Exs.cons e .nil).flat ns.length:=by simp [Exs.flat]
    have a1:=s_args1_first l (k+1) k1 ns (ns++e.flat ns.length) _ h3
    rw [hf1] at a1
    have hz1:(Exs.cons e .nil).sz=e.sz:=rfl
    generalize hR:(pArgsT n (l.drop k1)).bind (fun es r=>R.ok (Exs.cons e es) r)=Rr
    by_cases hout:Rr = .out
    ·rw [hout];exact trivial
    refine SatO_by is_parse_reader_arguments rfl (outA_ne hout) ?_
    ((repeat' first|refine aw ?_|refine bw (fun _=>?_) fun _=>?_))
    refine WT_inl is_parse_reader_row rfl ?_
    ((repeat' first|refine aw ?_|refine bw (fun _=>?_) fun _=>?_))
    refine WT_frE 4 [0,1] w0 ?_
    ((repeat' first|refine aw ?_|refine bw (fun _=>?_) fun _=>?_))
    refine WT_frE 4 [0,1] hv ?_
    ((repeat' first|refine aw ?_|refine bw (fun _=>?_) fun _=>?_))
    refine WT_frE 4 [0,1,2,3] a1 ?_
    ((repeat' first|refine aw ?_|refine bw (fun _=>?_) fun _=>?_))
    refine WT_loop (fun ((d,k1,m):Exs×Nat×Nat)=>⟨[(0,.ptr 0 0),(1,V.func n_parse_reader_arguments_1 [] [V.ptr 3 0,V.ptr 2 0])],heapOf 0 (rdN l k1 (ns++d.flat ns.length)++[.var [.ptr 0 0],.var [.ref 4 0 0 (rowN (d.places ns.length)).length],.arr 1 (rowN (d.places ns.length))]),5,[],4⟩)
     (fun (d,k1,m)=>(pArgsT m (l.drop k1)).bind (fun es r=>R.ok (d.app es) r)=Rr∧m≤n∧k1≤l.length∧k+d.sz+1≤k1∧d.places ns.length≠[]) (fun (_,_,m)=>m) (.cons e .nil,k1,n) (by exact Uw.wW) ⟨hR,Nat.le_refl _,hk1,by omega,by simp [Exs.places]⟩ ?_
    clear hR h0 h1 h2 h3 hk1 hk1' a1 hf1 hz1 w0 hv
    rintro ⟨d,k1,m⟩ ⟨hR,hm,hk1,hk2,hd0⟩
    cases m with
    | zero=>rw [pArgsT] at hR;exact absurd hR.symm hout
    | succ m=>
     rw [pArgsT] at hR
     have hfl:(ns++d.flat ns.length).length=ns.length+d.sz:=by simp [Exs.flat_len]
     have hv:=s_parse_reader_have l k1 ((ns++d.flat ns.length).map nodL) hk1 hl [44] (by simp)
     by_cases hs:hd (l.drop k1)=[44]
     ·have hlt:=hd_lt hs (by simp)
      rw [if_pos hs,List.tail_drop] at hR
      rw [if_pos hs,decide_eq_true hs] at hv
      rcases useE ((ih m (by omega)).expr (k1+1) (ns++d.flat ns.length) (by omega) (by omega)) (by omega) (fun e r h=>(suf_e m).expr _ _ _ h) with h0|⟨h0,h1⟩|⟨y,k2,h0,hk3,hk3',h1⟩
      ·rw [h0] at hR;exact absurd hR.symm hout
      ·rw [h0] at hR
       have hb:outA l ns Rr = .bad:=by rw [← hR];rfl
       have a1:=p_args1_next l (k1+1) _ (d.places ns.length) h1
       clear ih hR hout hs h0 h1 hd0
       ((repeat' first|refine aw ?_|refine bw (fun _=>?_) fun _=>?_))
       refine WT_frE 5 [0,1] hv ?_
       ((repeat' first|refine aw ?_|refine bw (fun _=>?_) fun _=>?_))
       refine WT_frP 5 [0,1,2,3,4] a1 ?_
       intro h q
       ((repeat' first|refine aw ?_|refine bw (fun _=>?_) fun _=>?_))
       refine WT_throw (WT_ipan rfl ?_)
       ((repeat' first|refine aw ?_|refine bw (fun _=>?_) fun _=>?_))
       exact WT_opan 2 hb rfl
      ·rw [h0] at hR
       have hR:(pArgsT m (l.drop k2)).bind (fun es r=>R.ok ((d.app (.cons y .nil)).app es) r)=Rr:=by
        rw [← hR]
        show _=((pArgsT m (l.drop k2)).bind fun es r=>R.ok (Exs.cons y es) r).bind fun es r=>R.ok (d.app es) r
        cases pArgsT m (l.drop k2) with
        | ok es r=>show R.ok _ _=R.ok _ _;rw [Exs.app_assoc];rfl
        | bad=>rfl
        | out=>rfl
       have a1:=s_args1_next l (k1+1) k2 _ _ (d.places ns.length) _ (by
        have:∀(d:Exs) (b:Nat),(d.places b).length≤d.sz:=by
         intro d
         induction d using Exs.rec (motive_1:=fun _=>True) with
         | nil=>simp [Exs.places]
         | cons e r _ ih=>intro b;have:=ih (b+e.sz);have:=e.sz_pos;simp [Exs.places,Exs.sz];omega
         | _=>trivial
        have:=this d ns.length;omega) h1
       have hpl:d.places ns.length++[(ns++d.flat ns.length).length+y.sz - 1]=(d.app (.cons y .nil)).places ns.length:=by rw [Exs.app_places,hfl];rfl
       have hff:ns++d.flat ns.length++y.flat (ns++d.flat ns.length).length=ns++(d.app (.cons y .nil)).flat ns.length:=by rw [Exs.app_flat,hfl];simp [Exs.flat]
       have hsz:(d.app (.cons y .nil)).sz=d.sz+y.sz:=by rw [Exs.app_sz];rfl
       have hd1:(d.app (.cons y .nil)).places ns.length≠[]:=by rw [← hpl];simp
       rw [hpl,hff] at a1
       clear ih hout hs h0 h1 hd0 hpl hff
       ((repeat' first|refine aw ?_|refine bw (fun _=>?_) fun _=>?_))
       refine WT_frE 5 [0,1] hv ?_
       ((repeat' first|refine aw ?_|refine bw (fun _=>?_) fun _=>?_))
       refine WT_frE 5 [0,1,2,3,4] a1 ?_
       ((repeat' first|refine aw ?_|refine bw (fun _=>?_) fun _=>?_))
       exact WT_again (d.app (.cons y .nil),k2,m) ⟨hR,by omega,hk3,by omega,hd1⟩ (by simp only;omega) (by exact Uw.wW)
     ·rw [if_neg hs] at hR
      rw [if_neg hs,decide_eq_false hs] at hv
      by_cases hw:hd (l.drop k1)=[41]
      ·have hlt:=hd_lt hw (by simp)
       have w1:=s_parse_reader_want l k1 ((ns++d.flat ns.length).map nodL) hk1 hl [41] (by simp) hw
       have hb:outA l ns Rr = .ok (.d (.slice 1 (rowN (d.places ns.length)) false)) (rdN l (k1+1) (ns++d.flat ns.length)):=by
        rw [want,if_pos hw,List.tail_drop] at hR
        have hR:R.ok (d.app .nil) (l.drop (k1+1))=Rr:=hR
        rw [← hR,Exs.app_nil]
        show Out.ok (.d (ofD 8 (d.places ns.length))) (rdN l (l.length - (l.drop (k1+1)).length) _)=_
        rw [len_drop (by omega)]
        have:ofD 8 (d.places ns.length) = .slice 1 (rowN (d.places ns.length)) false:=by
         unfold ofD
         rw [if_neg (by omega),if_pos (by omega),if_neg hd0];rfl
        rw [this]
       have hfz:((rowN (d.places ns.length)).drop 0).take (rowN (d.places ns.length)).length=rowN (d.places ns.length):=by simp
       clear ih hR hout hs hw hd0
       ((repeat' first|refine aw ?_|refine bw (fun _=>?_) fun _=>?_))
       refine WT_frE 5 [0,1] hv ?_
       ((repeat' first|refine aw ?_|refine bw (fun _=>?_) fun _=>?_))
       refine WT_break ?_
       refine WT_frE 5 [0,1] w1 ?_
       ((repeat' first|refine aw ?_|refine bw (fun _=>?_) fun _=>?_))
       refine WT_iend rfl rfl ?_
       ((repeat' first|refine aw ?_|refine bw (fun _=>?_) fun _=>?_))
       exact WT_oret 2 hb rfl rfl (by exact Uw.wW)
      ·have w1:=p_parse_reader_want l k1 ((ns++d.flat ns.length).map nodL) hk1 hl [41] (by simp) hw
       have hb:outA l ns Rr = .bad:=by
        rw [want,if_neg hw] at hR;rw [← hR];rfl
       clear ih hR hout hs hw hd0
       ((repeat' first|refine aw ?_|refine bw (fun _=>?_) fun _=>?_))
       refine WT_frE 5 [0,1] hv ?_
       ((repeat' first|refine aw ?_|refine bw (fun _=>?_) fun _=>?_))
       refine WT_break ?_
       refine WT_frP 5 [0,1] w1 ?_
       intro h q
       ((repeat' first|refine aw ?_|refine bw (fun _=>?_) fun _=>?_))
       refine WT_ipan rfl ?_
       ((repeat' first|refine aw ?_|refine bw (fun _=>?_) fun _=>?_))
       exact WT_opan 2 hb rfl
 ·rw [want,if_neg h0]
  have w0:=p_parse_reader_want l k (ns.map nodL) hk hl [40] (by simp) h0
  clear ih h0
  refine SatP_by is_parse_reader_arguments rfl ?_
  ((repeat' first|refine aw ?_|refine bw (fun _=>?_) fun _=>?_))
  refine WT_inl is_parse_reader_row rfl ?_
  ((repeat' first|refine aw ?_|refine bw (fun _=>?_) fun _=>?_))
  refine WT_frP 4 [0,1] w0 ?_
  intro H q
  ((repeat' first|refine aw ?_|refine bw (fun _=>?_) fun _=>?_))
  refine WT_ipan rfl ?_
  ((repeat' first|refine aw ?_|refine bw (fun _=>?_) fun _=>?_))
  exact WT_epan rfl
end Uw.Tryz
namespace Uw.Tryz
open Go Uw
theorem name_cases (l:List Tok) (k:Nat) (xs:List (List Dat)) (hk:k≤l.length) (hl:l.length<1000000) :
  (pName (l.drop k) = .bad∧SatP P0 n_parse_reader_name [.ptr 0 0] (rd l k xs) wrongD)∨∃s,pName (l.drop k) = .ok s (l.drop (k+1))∧k<l.length∧SatE P0 n_parse_reader_name [.ptr 0 0] (rd l k xs) (.d (.str s)) (rd l (k+1) xs):=by
 by_cases h:k<l.length
 ·have hd:l.drop k=l[k]::l.drop (k+1):=List.drop_eq_getElem_cons h
  by_cases h1:l[k].kind=1
  ·have hw:pWord 1 (l.drop k) = .ok l[k] (l.drop (k+1)):=by rw [hd,pWord,if_pos h1]
   cases h2:keyw l[k].text with
   | true=>
    refine .inl ⟨?_,p_parse_reader_name l k xs hk hl (fun _=>.inr h2)⟩
    rw [pName,hw];show (if keyw l[k].text=true then _ else _)=_;rw [if_pos h2]
   | false=>
    refine .inr ⟨l[k].text,?_,h,s_parse_reader_name l k xs hk hl h h1 h2⟩
    rw [pName,hw];show (if keyw l[k].text=true then _ else _)=_;rw [if_neg (by rw [h2];decide)]
  ·refine .inl ⟨?_,p_parse_reader_name l k xs hk hl (fun _=>.inl h1)⟩
   rw [pName,hd,pWord,if_neg h1];rfl
 ·refine .inl ⟨?_,p_parse_reader_name l k xs hk hl (fun h'=>absurd h' h)⟩
  rw [pName,List.drop_eq_nil_of_le (by omega),pWord];rfl
theorem argD_form (es:Exs) (b:Nat):es.argD b = .nil∨es.argD b = .slice 1 (rowN (es.places b)) false:=by
 unfold Exs.argD ofD
 rw [if_neg (by omega),if_pos (by omega)]
 split
 ·exact .inl rfl
 ·exact .inr rfl
theorem c_call (l:List Tok) (hl:l.length<1000000) (n:Nat) (ih:∀m,m≤n→CE l m) (s:Str) (k:Nat) (ns:List Nod) (hk:k≤l.length) (hn:ns.length≤k):SatO n_parse_reader_call [.ptr 0 0,.d (.str s)] (rdN l k ns) (outC l ns s (pCall (n+1) s (l.drop k))):=by
 rw [pCall]
 by_cases h0:hd (l.drop k)=[46]
 ·have hlt:=hd_lt h0 (by simp)
  have w0:=s_parse_reader_want l k (ns.map nodL) hk hl [46] (by simp) h0
  rw [want,if_pos h0,List.tail_drop]
  show SatO _ _ _ (outC l ns s ((pName (l.drop (k+1))).bind _))
  rcases name_cases l (k+1) (ns.map nodL) hlt hl with ⟨h1,h2⟩|⟨v,h1,hlt1,h2⟩
  ·rw [h1]
   clear ih h0
   refine SatP_by is_parse_reader_call rfl ?_
   ((repeat' first|refine aw ?_|refine bw (fun _=>?_) fun _=>?_))
   refine WT_frE 2 [0,1] w0 ?_
   ((repeat' first|refine aw ?_|refine bw (fun _=>?_) fun _=>?_))
   refine WT_frP 2 [0,1] h2 ?_
   intro H q
   ((repeat' first|refine aw ?_|refine bw (fun _=>?_) fun _=>?_))
   exact WT_epan rfl
  ·rw [h1]
   show SatO _ _ _ (outC l ns s ((pArgs n (l.drop (k+1+1))).bind _))
   rcases useA ((ih n (Nat.le_refl _)).args (k+1+1) ns (by omega) (by omega)) (by omega) (fun e r h=>(suf_e n).args _ _ _ h) with h3|⟨h3,h4⟩|⟨es,k1,h3,hk1,hk1',h4⟩
   ·rw [h3];exact trivial
   ·rw [h3]
    clear ih h0
    refine SatP_by is_parse_reader_call rfl ?_
    ((repeat' first|refine aw ?_|refine bw (fun _=>?_) fun _=>?_))
    refine WT_frE 2 [0,1] w0 ?_
    ((repeat' first|refine aw ?_|refine bw (fun _=>?_) fun _=>?_))
    refine WT_frE 2 [0,1] h2 ?_
    ((repeat' first|refine aw ?_|refine bw (fun _=>?_) fun _=>?_))
    refine WT_frP 3 [0,1] h4 ?_
    intro H q
    ((repeat' first|refine aw ?_|refine bw (fun _=>?_) fun _=>?_))
    exact WT_epan rfl
   ·rw [h3]
    show SatE _ _ _ _ (.d (I ((ns.length+(Ex.call s v es).sz - 1:Nat)))) (rdN l (l.length - (l.drop k1).length) (ns++(Ex.call s v es).flat ns.length))
    rw [len_drop hk1]
    have hp:=put_ok l k1 (ns++es.flat ns.length) (ns++(Ex.call s v es).flat ns.length) ⟨8,0,s,v,es.places ns.length⟩ (by simp [Ex.flat]) (ns.length+(Ex.call s v es).sz - 1) (by simp [Ex.sz,Exs.flat_len];try omega) (by simp [Exs.flat_len];omega)
    have hp:SatE P0 n_parse_reader_put [.ptr 0 0,.agg [.d (I 8),.d (I 0),.d (.str s),.d (.str v),.d (es.argD ns.length)]] (rdN l k1 (ns++es.flat ns.length)) (.d (I ((ns.length+(Ex.call s v es).sz - 1:Nat)))) (rdN l k1 (ns++(Ex.call s v es).flat ns.length)):=hp
    clear ih h0
    rcases argD_form es ns.length with e|e
    all_goals
     rw [e] at hp h4
     refine SatE_by is_parse_reader_call rfl ?_
     ((repeat' first|refine aw ?_|refine bw (fun _=>?_) fun _=>?_))
     refine WT_frE 2 [0,1] w0 ?_
     ((repeat' first|refine aw ?_|refine bw (fun _=>?_) fun _=>?_))
     refine WT_frE 2 [0,1] h2 ?_
     ((repeat' first|refine aw ?_|refine bw (fun _=>?_) fun _=>?_))
     refine WT_frE 3 [0,1] h4 ?_
     ((repeat' first|refine aw ?_|refine bw (fun _=>?_) fun _=>?_))
     refine WT_frE 3 [0,1] hp ?_
     ((repeat' first|refine aw ?_|refine bw (fun _=>?_) fun _=>?_))
     exact WT_eret 2 rfl rfl (by exact Uw.wW)
 ·rw [want,if_neg h0]
  have w0:=p_parse_reader_want l k (ns.map nodL) hk hl [46] (by simp) h0
  clear ih h0
  refine SatP_by is_parse_reader_call rfl ?_
  ((repeat' first|refine aw ?_|refine bw (fun _=>?_) fun _=>?_))
  refine WT_frP 2 [0,1] w0 ?_
  intro H q
  ((repeat' first|refine aw ?_|refine bw (fun _=>?_) fun _=>?_))
  exact WT_epan rfl
theorem useC {l:List Tok} {k:Nat} {ns:List Nod} {s:Str} {x:R (Str×Exs)} (h:SatO n_parse_reader_call [.ptr 0 0,.d (.str s)] (rdN l k ns) (outC l ns s x)) (hk:k≤l.length) (hs:∀e r,x = .ok e r→Suf (l.drop k) r (e.2.sz+1)) :
  x = .out∨(x = .bad∧SatP P0 n_parse_reader_call [.ptr 0 0,.d (.str s)] (rdN l k ns) wrongD)∨∃v e k',x = .ok (v,e) (l.drop k')∧k'≤l.length∧k+(e.sz+1)≤k'∧SatE P0 n_parse_reader_call [.ptr 0 0,.d (.str s)] (rdN l k ns) (.d (I ((ns.length+(Ex.call s v e).sz - 1:Nat)))) (rdN l k' (ns++(Ex.call s v e).flat ns.length)):=by
 cases x with
 | out=>exact .inl rfl
 | bad=>exact .inr (.inl ⟨rfl,h⟩)
 | ok e r=>
  obtain ⟨v,e⟩:=e
  obtain ⟨k',h1,rfl,h2⟩:=suf_at (hs _ r rfl) hk
  refine .inr (.inr ⟨v,e,k',rfl,h1,h2,?_⟩)
  have h:SatE P0 n_parse_reader_call [.ptr 0 0,.d (.str s)] (rdN l k ns) (.d (I ((ns.length+(Ex.call s v e).sz - 1:Nat)))) (rdN l (l.length - (l.drop k').length) (ns++(Ex.call s v e).flat ns.length)):=h
  rw [len_drop h1] at h
  exact h
theorem isNum_lt {l:List Tok} {k:Nat} (h:isNum (l.drop k)=true):∃h:k<l.length,l[k].kind=2∧numOf (l.drop k)=l[k].n:=by
 rcases Nat.lt_or_ge k l.length with h1|h1
 ·rw [List.drop_eq_getElem_cons h1] at h ⊢
  exact ⟨h1,by simpa [isNum] using h,rfl⟩
 ·rw [List.drop_eq_nil_of_le h1] at h;cases h
theorem c_prim (l:List Tok) (hl:l.length<1000000) (n:Nat) (ih:∀m,m≤n→CE l m) (k:Nat) (ns:List Nod) (hk:k≤l.length) (hn:ns.length≤k):OkE n_parse_reader_primary l k ns (pPrim (n+1) (l.drop k)):=by
 have e1:(l.map tokL).length=l.length:=by simp
 rw [pPrim]
 have hv:=s_parse_reader_have l k (ns.map nodL) hk hl [40] (by simp)
 by_cases h0:hd (l.drop k)=[40]
 ·have hlt:=hd_lt h0 (by simp)
  rw [if_pos h0,decide_eq_true h0] at hv
  rw [if_pos h0,List.tail_drop]
  rcases useE ((ih n (Nat.le_refl _)).expr (k+1) ns hlt (by omega)) hlt (fun e r h=>(suf_e n).expr _ _ _ h) with h2|⟨h2,h3⟩|⟨e,k1,h2,hk1,hk1',h3⟩
  ·rw [h2];exact trivial
  ·rw [h2]
   clear ih h0
   refine SatP_by is_parse_reader_primary rfl ?_
   ((repeat' first|refine aw ?_|refine bw (fun _=>?_) fun _=>?_))
   refine WT_frE 2 [0,1] hv ?_
   ((repeat' first|refine aw ?_|refine bw (fun _=>?_) fun _=>?_))
   refine WT_frP 2 [0,1] h3 ?_
   intro H q
   ((repeat' first|refine aw ?_|refine bw (fun _=>?_) fun _=>?_))
   exact WT_epan rfl
  ·rw [h2]
   show SatO _ _ _ (outE l ns ((want [41] (l.drop k1)).bind _))
   by_cases h4:hd (l.drop k1)=[41]
   ·have hlt1:=hd_lt h4 (by simp)
    have w1:=s_parse_reader_want l k1 ((ns++e.flat ns.length).map nodL) hk1 hl [41] (by simp) h4
    rw [want,if_pos h4,List.tail_drop]
    show SatE _ _ _ _ (.d (I ((ns.length+e.sz - 1:Nat)))) (rdN l (l.length - (l.drop (k1+1)).length) _)
    rw [len_drop hlt1]
    clear ih h0 h4
    refine SatE_by is_parse_reader_primary rfl ?_
    ((repeat' first|refine aw ?_|refine bw (fun _=>?_) fun _=>?_))
    refine WT_frE 2 [0,1] hv ?_
    ((repeat' first|refine aw ?_|refine bw (fun _=>?_) fun _=>?_))
    refine WT_frE 2 [0,1] h3 ?_
    ((repeat' first|refine aw ?_|refine bw (fun _=>?_) fun _=>?_))
    refine WT_frE 2 [0,1] w1 ?_
    ((repeat' first|refine aw ?_|refine bw (fun _=>?_) fun _=>?_))
    exact WT_eret 2 rfl rfl (by exact Uw.wW)
   ·have w1:=p_parse_reader_want l k1 ((ns++e.flat ns.length).map nodL) hk1 hl [41] (by simp) h4
    rw [want,if_neg h4]
    clear ih h0 h4
    refine SatP_by is_parse_reader_primary rfl ?_
    ((repeat' first|refine aw ?_|refine bw (fun _=>?_) fun _=>?_))
    refine WT_frE 2 [0,1] hv ?_
    ((repeat' first|refine aw ?_|refine bw (fun _=>?_) fun _=>?_))
    refine WT_frE 2 [0,1] h3 ?_
    ((repeat' first|refine aw ?_|refine bw (fun _=>?_) fun _=>?_))
    refine WT_frP 2 [0,1] w1 ?_
    intro H q
    ((repeat' first|refine aw ?_|refine bw (fun _=>?_) fun _=>?_))
    exact WT_epan rfl
 ·rw [if_neg h0,decide_eq_false h0] at hv
  rw [if_neg h0]
  cases hnum:isNum (l.drop k) with
  | true=>
   rw [if_pos rfl,List.tail_drop]
   obtain ⟨hlt,hkd,hno⟩:=isNum_lt hnum
   rw [hno]
   have wd:=s_parse_reader_word l k (ns.map nodL) hk hl 2 hlt hkd
   have hp:=put_ok l (k+1) ns (ns++(Ex.num l[k].n).flat ns.length) ⟨1,l[k].n,[],[],[]⟩ rfl (ns.length+(Ex.num l[k].n).sz - 1) (by simp [Ex.sz]) (by omega)
   have hp:SatE P0 n_parse_reader_put [.ptr 0 0,.agg [.d (I 1),.d (I l[k].n),.d (.str []),.d (.str []),.d .nil]] (rdN l (k+1) ns) (.d (I ((ns.length+(Ex.num l[k].n).sz - 1:Nat)))) (rdN l (k+1) (ns++(Ex.num l[k].n).flat ns.length)):=hp
   show SatE _ _ _ _ (.d (I ((ns.length+(Ex.num l[k].n).sz - 1:Nat)))) (rdN l (l.length - (l.drop (k+1)).length) _)
   rw [len_drop hlt]
   clear ih h0 hnum hno
   refine SatE_by is_parse_reader_primary rfl ?_
   ((repeat' first|refine aw ?_|refine bw (fun _=>?_) fun _=>?_))
   refine WT_frE 2 [0,1] hv ?_
   ((repeat' first|refine aw ?_|refine bw (fun _=>?_) fun _=>?_))
   refine WT_frE 2 [0,1] wd ?_
   ((repeat' first|refine aw ?_|refine bw (fun _=>?_) fun _=>?_))
   refine WT_frE 2 [0,1] hp ?_
   ((repeat' first|refine aw ?_|refine bw (fun _=>?_) fun _=>?_))
   exact WT_eret 2 rfl rfl (by exact Uw.wW)
  | false=>
   rw [if_neg (by decide)]
   have hkd:∀(h:k<l.length),¬l[k].kind=2:=by
    intro h h2
    rw [List.drop_eq_getElem_cons h] at hnum
    simp [isNum,h2] at hnum
   rcases name_cases l k (ns.map nodL) hk hl with ⟨h1,h2⟩|⟨s,h1,hlt,h2⟩
   ·rw [h1]
    clear ih h0 hnum h1
    by_cases hlt:k<l.length
    ·have hkd:=hkd hlt
     refine SatP_by is_parse_reader_primary rfl ?_
     ((repeat' first|refine aw ?_|refine bw (fun _=>?_) fun _=>?_))
     refine WT_frE 2 [0,1] hv ?_
     ((repeat' first|refine aw ?_|refine bw (fun _=>?_) fun _=>?_))
     refine WT_frP 2 [0,1] h2 ?_
     intro H q
     ((repeat' first|refine aw ?_|refine bw (fun _=>?_) fun _=>?_))
     exact WT_epan rfl
    ·clear hkd
     refine SatP_by is_parse_reader_primary rfl ?_
     ((repeat' first|refine aw ?_|refine bw (fun _=>?_) fun _=>?_))
     refine WT_frE 2 [0,1] hv ?_
     ((repeat' first|refine aw ?_|refine bw (fun _=>?_) fun _=>?_))
     refine WT_frP 2 [0,1] h2 ?_
     intro H q
     ((repeat' first|refine aw ?_|refine bw (fun _=>?_) fun _=>?_))
     exact WT_epan rfl
   ·rw [h1]
    have hkd:=hkd hlt
    have pk:=s_parse_reader_peek l (k+1) (ns.map nodL) hlt
    show SatO _ _ _ (outE l ns (if hd (l.drop (k+1))=[46] then _ else _))
    by_cases h3:hd (l.drop (k+1))=[46]
    ·rw [if_pos h3]
     rw [h3] at pk
     rcases useC ((ih n (Nat.le_refl _)).call s (k+1) ns hlt (by omega)) hlt (fun e r h=>(suf_e n).call _ _ _ _ h) with h4|⟨h4,h5⟩|⟨v,es,k1,h4,hk1,hk1',h5⟩
     ·rw [h4];exact trivial
     ·rw [h4]
      clear ih h0 hnum h1
      refine SatP_by is_parse_reader_primary rfl ?_
      ((repeat' first|refine aw ?_|refine bw (fun _=>?_) fun _=>?_))
      refine WT_frE 2 [0,1] hv ?_
      ((repeat' first|refine aw ?_|refine bw (fun _=>?_) fun _=>?_))
      refine WT_frE 2 [0,1] h2 ?_
      ((repeat' first|refine aw ?_|refine bw (fun _=>?_) fun _=>?_))
      refine WT_frE 2 [0,1] pk ?_
      ((repeat' first|refine aw ?_|refine bw (fun _=>?_) fun _=>?_))
      refine WT_frP 2 [0,1] h5 ?_
      intro H q
      ((repeat' first|refine aw ?_|refine bw (fun _=>?_) fun _=>?_))
      exact WT_epan rfl
     ·rw [h4]
      show SatE _ _ _ _ (.d (I ((ns.length+(Ex.call s v es).sz - 1:Nat)))) (rdN l (l.length - (l.drop k1).length) _)
      rw [len_drop hk1]
      clear ih h0 hnum h1
      refine SatE_by is_parse_reader_primary rfl ?_
      ((repeat' first|refine aw ?_|refine bw (fun _=>?_) fun _=>?_))
      refine WT_frE 2 [0,1] hv ?_
      ((repeat' first|refine aw ?_|refine bw (fun _=>?_) fun _=>?_))
      refine WT_frE 2 [0,1] h2 ?_
      ((repeat' first|refine aw ?_|refine bw (fun _=>?_) fun _=>?_))
      refine WT_frE 2 [0,1] pk ?_
      ((repeat' first|refine aw ?_|refine bw (fun _=>?_) fun _=>?_))
      refine WT_frE 2 [0,1] h5 ?_
      ((repeat' first|refine aw ?_|refine bw (fun _=>?_) fun _=>?_))
      exact WT_eret 2 rfl rfl (by exact Uw.wW)
    ·rw [if_neg h3]
     have hp:=put_ok l (k+1) ns (ns++(Ex.name s).flat ns.length) ⟨2,0,s,[],[]⟩ rfl (ns.length+(Ex.name s).sz - 1) (by simp [Ex.sz]) (by omega)
     have hp:SatE P0 n_parse_reader_put [.ptr 0 0,.agg [.d (I 2),.d (I 0),.d (.str s),.d (.str []),.d .nil]] (rdN l (k+1) ns) (.d (I ((ns.length+(Ex.name s).sz - 1:Nat)))) (rdN l (k+1) (ns++(Ex.name s).flat ns.length)):=hp
     show SatE _ _ _ _ (.d (I ((ns.length+(Ex.name s).sz - 1:Nat)))) (rdN l (l.length - (l.drop (k+1)).length) _)
     rw [len_drop hlt]
     generalize hd (l.drop (k+1))=p at *
     clear ih h0 hnum h1
     refine SatE_by is_parse_reader_primary rfl ?_
     ((repeat' first|refine aw ?_|refine bw (fun _=>?_) fun _=>?_))
     refine WT_frE 2 [0,1] hv ?_
     ((repeat' first|refine aw ?_|refine bw (fun _=>?_) fun _=>?_))
     refine WT_frE 2 [0,1] h2 ?_
     ((repeat' first|refine aw ?_|refine bw (fun _=>?_) fun _=>?_))
     refine WT_frE 2 [0,1] pk ?_
     ((repeat' first|refine aw ?_|refine bw (fun _=>?_) fun _=>?_))
     refine WT_frE 2 [0,1] hp ?_
     ((repeat' first|refine aw ?_|refine bw (fun _=>?_) fun _=>?_))
     exact WT_eret 2 rfl rfl (by exact Uw.wW)
theorem ce (l:List Tok) (hl:l.length<1000000):∀n,∀m,m≤n→CE l m
 | 0,m,hm=>by
  obtain rfl:m=0:=by omega
  refine ⟨?_,?_,?_,?_,?_,?_⟩
  ·intro k ns _ _;rw [pArgs];exact trivial
  ·intro s k ns _ _;rw [pCall];exact trivial
  ·intro k ns _ _;rw [pPrim];exact trivial
  ·intro k ns _ _;rw [pProd];exact trivial
  ·intro k ns _ _;rw [pSum];exact trivial
  ·intro k ns _ _;rw [pExpr];exact trivial
 | n+1,m,hm=>by
  have ih:=ce l hl n
  by_cases h:m≤n
  ·exact ih m h
  ·obtain rfl:m=n+1:=by omega
   exact ⟨fun k ns=>c_args l hl n ih k ns,fun s k ns=>c_call l hl n ih s k ns,fun k ns=>c_prim l hl n ih k ns,fun k ns=>c_prod l hl n ih k ns,fun k ns=>c_sum l hl n ih k ns,fun k ns=>c_expr l hl n ih k ns⟩
end Uw.Tryz
namespace Uw.Tryz
open Go Uw
def outS (l:List Tok) (ns:List Nod) (x:R Stm):Out:=
 match x with
 | .ok s r=>.ok (.d (I ((ns.length+s.sz - 1:Nat)))) (rdN l (l.length - r.length) (ns++s.flat ns.length))
 | .bad=>.bad
 | .out=>.out
theorem useS {f:FuncId} {vs:List V} {l:List Tok} {k:Nat} {ns:List Nod} {x:R Stm} (h:SatO f vs (rdN l k ns) (outS l ns x)) (hk:k≤l.length) (hs:∀e r,x = .ok e r→Suf (l.drop k) r e.sz) :
  x = .out∨(x = .bad∧SatP P0 f vs (rdN l k ns) wrongD)∨∃e k',x = .ok e (l.drop k')∧k'≤l.length∧k+e.sz≤k'∧SatE P0 f vs (rdN l k ns) (.d (I ((ns.length+e.sz - 1:Nat)))) (rdN l k' (ns++e.flat ns.length)):=by
 cases x with
 | out=>exact .inl rfl
 | bad=>exact .inr (.inl ⟨rfl,h⟩)
 | ok e r=>
  obtain ⟨k',h1,rfl,h2⟩:=suf_at (hs e r rfl) hk
  refine .inr (.inr ⟨e,k',rfl,h1,h2,?_⟩)
  have h:SatE P0 f vs (rdN l k ns) (.d (I ((ns.length+e.sz - 1:Nat)))) (rdN l (l.length - (l.drop k').length) (ns++e.flat ns.length)):=h
  rw [len_drop h1] at h
  exact h
theorem places_len:∀(d:Exs) (b:Nat),(d.places b).length=d.length
 | .nil,b=>rfl
 | .cons e r,b=>by rw [Exs.places,List.length_cons,places_len r,Exs.length]
theorem c_child (l:List Tok) (hl:l.length<1000000) (n:Nat) (to:Str) (k:Nat) (ns:List Nod) (hk:k≤l.length) (hn:ns.length≤k):SatO n_parse_reader_child [.ptr 0 0,.d (.str to)] (rdN l k ns) (outS l ns (pChild n to (l.drop k))):=by
 rw [pChild]
 have hv:=s_parse_reader_have l k (ns.map nodL) hk hl sSpawn (by decide)
 -- behind the word
 have tail:∀(par:Bool) (k1:Nat),k1≤l.length→k+1≤k1→
   (∀{x:Out},SatO n_parse_reader_child [.ptr 0 0,.d (.str to)] (rdN l k ns) x→True)→True:=fun _ _ _ _ _=>trivial
 clear tail
 by_cases h0:hd (l.drop k)=sSpawn
 ·have hlt:=hd_lt h0 (by decide)
  rw [if_pos h0,decide_eq_true h0] at hv
  rw [if_pos h0,List.tail_drop]
  show SatO _ _ _ (outS l ns ((pName (l.drop (k+1))).bind _))
  rcases name_cases l (k+1) (ns.map nodL) hlt hl with ⟨h1,h2⟩|⟨f,h1,hlt1,h2⟩
  ·rw [h1]
   clear h0
   refine SatP_by is_parse_reader_child rfl ?_
   ((repeat' first|refine aw ?_|refine bw (fun _=>?_) fun _=>?_))
   refine WT_frE 2 [0,1] hv ?_
   ((repeat' first|refine aw ?_|refine bw (fun _=>?_) fun _=>?_))
   refine WT_frP 2 [0,1] h2 ?_
   intro H q
   ((repeat' first|refine aw ?_|refine bw (fun _=>?_) fun _=>?_))
   exact WT_epan rfl
  ·rw [h1]
   show SatO _ _ _ (outS l ns ((pArgs n (l.drop (k+1+1))).bind _))
   rcases useA ((ce l hl n n (Nat.le_refl _)).args (k+1+1) ns (by omega) (by omega)) (by omega) (fun e r h=>(suf_e n).args _ _ _ h) with h3|⟨h3,h4⟩|⟨es,k1,h3,hk1,hk1',h4⟩
   ·rw [h3];exact trivial
   ·rw [h3]
    clear h0
    refine SatP_by is_parse_reader_child rfl ?_
    ((repeat' first|refine aw ?_|refine bw (fun _=>?_) fun _=>?_))
    refine WT_frE 2 [0,1] hv ?_
    ((repeat' first|refine aw ?_|refine bw (fun _=>?_) fun _=>?_))
    refine WT_frE 2 [0,1] h2 ?_
    ((repeat' first|refine aw ?_|refine bw (fun _=>?_) fun _=>?_))
    refine WT_frP 3 [0,1] h4 ?_
    intro H q
    ((repeat' first|refine aw ?_|refine bw (fun _=>?_) fun _=>?_))
    exact WT_epan rfl
   ·rw [h3]
    show SatO _ _ _ (outS l ns (if false=true∧es.length≠2 then .bad else .ok (.task false to f es) (l.drop k1)))
    rw [if_neg (by rintro ⟨q,_⟩;cases q)]
    show SatE _ _ _ _ (.d (I ((ns.length+(Stm.task false to f es).sz - 1:Nat)))) (rdN l (l.length - (l.drop k1).length) (ns++(Stm.task false to f es).flat ns.length))
    rw [len_drop hk1]
    have hp:=put_ok l k1 (ns++es.flat ns.length) (ns++(Stm.task false to f es).flat ns.length) ⟨10,0,to,f,es.places ns.length⟩ (by simp [Stm.flat]) (ns.length+(Stm.task false to f es).sz - 1) (by simp [Stm.sz,Exs.flat_len]) (by simp [Exs.flat_len];omega)
    have hp:SatE P0 n_parse_reader_put [.ptr 0 0,.agg [.d (I 10),.d (I 0),.d (.str to),.d (.str f),.d (es.argD ns.length)]] (rdN l k1 (ns++es.flat ns.length)) (.d (I ((ns.length+(Stm.task false to f es).sz - 1:Nat)))) (rdN l k1 (ns++(Stm.task false to f es).flat ns.length)):=hp
    clear h0
    rcases argD_form es ns.length with e|e
    all_goals
     rw [e] at hp h4
     refine SatE_by is_parse_reader_child rfl ?_
     ((repeat' first|refine aw ?_|refine bw (fun _=>?_) fun _=>?_))
     refine WT_frE 2 [0,1] hv ?_
     ((repeat' first|refine aw ?_|refine bw (fun _=>?_) fun _=>?_))
     refine WT_frE 2 [0,1] h2 ?_
     ((repeat' first|refine aw ?_|refine bw (fun _=>?_) fun _=>?_))
     refine WT_frE 3 [0,1] h4 ?_
     ((repeat' first|refine aw ?_|refine bw (fun _=>?_) fun _=>?_))
     refine WT_frE 3 [0,1] hp ?_
     ((repeat' first|refine aw ?_|refine bw (fun _=>?_) fun _=>?_))
     exact WT_eret 2 rfl rfl (by exact Uw.wW)
 ·rw [if_neg h0,decide_eq_false h0] at hv
  rw [if_neg h0]
  by_cases hp0:hd (l.drop k)=sPar
  ·have hlt:=hd_lt hp0 (by decide)
   have w0:=s_parse_reader_want l k (ns.map nodL) hk hl sPar (by decide) hp0
   rw [want,if_pos hp0,List.tail_drop]
   show SatO _ _ _ (outS l ns ((pName (l.drop (k+1))).bind _))
   rcases name_cases l (k+1) (ns.map nodL) hlt hl with ⟨h1,h2⟩|⟨f,h1,hlt1,h2⟩
   ·rw [h1]
    clear h0 hp0
    refine SatP_by is_parse_reader_child rfl ?_
    ((repeat' first|refine aw ?_|refine bw (fun _=>?_) fun _=>?_))
    refine WT_frE 2 [0,1] hv ?_
    ((repeat' first|refine aw ?_|refine bw (fun _=>?_) fun _=>?_))
    refine WT_frE 2 [0,1] w0 ?_
    ((repeat' first|refine aw ?_|refine bw (fun _=>?_) fun _=>?_))
    refine WT_frP 2 [0,1] h2 ?_
    intro H q
    ((repeat' first|refine aw ?_|refine bw (fun _=>?_) fun _=>?_))
    exact WT_epan rfl
   ·rw [h1]
    show SatO _ _ _ (outS l ns ((pArgs n (l.drop (k+1+1))).bind _))
    rcases useA ((ce l hl n n (Nat.le_refl _)).args (k+1+1) ns (by omega) (by omega)) (by omega) (fun e r h=>(suf_e n).args _ _ _ h) with h3|⟨h3,h4⟩|⟨es,k1,h3,hk1,hk1',h4⟩
    ·rw [h3];exact trivial
    ·rw [h3]
     clear h0 hp0
     refine SatP_by is_parse_reader_child rfl ?_
     ((repeat' first|refine aw ?_|refine bw (fun _=>?_) fun _=>?_))
     refine WT_frE 2 [0,1] hv ?_
     ((repeat' first|refine aw ?_|refine bw (fun _=>?_) fun _=>?_))
     refine WT_frE 2 [0,1] w0 ?_
     ((repeat' first|refine aw ?_|refine bw (fun _=>?_) fun _=>?_))
     refine WT_frE 2 [0,1] h2 ?_
     ((repeat' first|refine aw ?_|refine bw (fun _=>?_) fun _=>?_))
     refine WT_frP 3 [0,1] h4 ?_
     intro H q
     ((repeat' first|refine aw ?_|refine bw (fun _=>?_) fun _=>?_))
     exact WT_epan rfl
    ·rw [h3]
     show SatO _ _ _ (outS l ns (if true=true∧es.length≠2 then .bad else .ok (.task true to f es) (l.drop k1)))
     have hlen:(rowN (es.places ns.length)).length=es.length:=by rw [rowN,List.length_map,places_len]
     by_cases h2' : es.length=2
     ·rw [if_neg (by rintro ⟨_,q⟩;exact q h2')]
      show SatE _ _ _ _ (.d (I ((ns.length+(Stm.task true to f es).sz - 1:Nat)))) (rdN l (l.length - (l.drop k1).length) (ns++(Stm.task true to f es).flat ns.length))
      rw [len_drop hk1]
      have hp:=put_ok l k1 (ns++es.flat ns.length) (ns++(Stm.task true to f es).flat ns.length) ⟨11,0,to,f,es.places ns.length⟩ (by simp [Stm.flat]) (ns.length+(Stm.task true to f es).sz - 1) (by simp [Stm.sz,Exs.flat_len]) (by simp [Exs.flat_len];omega)
      have hp:SatE P0 n_parse_reader_put [.ptr 0 0,.agg [.d (I 11),.d (I 0),.d (.str to),.d (.str f),.d (es.argD ns.length)]] (rdN l k1 (ns++es.flat ns.length)) (.d (I ((ns.length+(Stm.task true to f es).sz - 1:Nat)))) (rdN l k1 (ns++(Stm.task true to f es).flat ns.length)):=hp
      have e:es.argD ns.length = .slice 1 (rowN (es.places ns.length)) false:=by
       rcases argD_form es ns.length with e|e
       ·exfalso
        have hne:es.places ns.length≠[]:=by intro h;have:=places_len es ns.length;rw [h] at this;simp at this;omega
        unfold Exs.argD ofD at e
        rw [if_neg (by omega),if_pos (by omega),if_neg hne] at e
        cases e
       ·exact e
      rw [e] at hp h4
      clear h0 hp0
      refine SatE_by is_parse_reader_child rfl ?_
      ((repeat' first|refine aw ?_|refine bw (fun _=>?_) fun _=>?_))
      refine WT_frE 2 [0,1] hv ?_
      ((repeat' first|refine aw ?_|refine bw (fun _=>?_) fun _=>?_))
      refine WT_frE 2 [0,1] w0 ?_
      ((repeat' first|refine aw ?_|refine bw (fun _=>?_) fun _=>?_))
      refine WT_frE 2 [0,1] h2 ?_
      ((repeat' first|refine aw ?_|refine bw (fun _=>?_) fun _=>?_))
      refine WT_frE 3 [0,1] h4 ?_
      ((repeat' first|refine aw ?_|refine bw (fun _=>?_) fun _=>?_))
      refine WT_frE 3 [0,1] hp ?_
      ((repeat' first|refine aw ?_|refine bw (fun _=>?_) fun _=>?_))
      exact WT_eret 2 rfl rfl (by exact Uw.wW)
     ·rw [if_pos ⟨rfl,h2'⟩]
      clear h0 hp0
      rcases argD_form es ns.length with e|e
      all_goals
       rw [e] at h4
       refine SatP_by is_parse_reader_child rfl ?_
       ((repeat' first|refine aw ?_|refine bw (fun _=>?_) fun _=>?_))
       refine WT_frE 2 [0,1] hv ?_
       ((repeat' first|refine aw ?_|refine bw (fun _=>?_) fun _=>?_))
       refine WT_frE 2 [0,1] w0 ?_
       ((repeat' first|refine aw ?_|refine bw (fun _=>?_) fun _=>?_))
       refine WT_frE 2 [0,1] h2 ?_
       ((repeat' first|refine aw ?_|refine bw (fun _=>?_) fun _=>?_))
       refine WT_frE 3 [0,1] h4 ?_
       ((repeat' first|refine aw ?_|refine bw (fun _=>?_) fun _=>?_))
       exact WT_epan rfl
  ·have w0:=p_parse_reader_want l k (ns.map nodL) hk hl sPar (by decide) hp0
   rw [want,if_neg hp0]
   clear h0 hp0
   refine SatP_by is_parse_reader_child rfl ?_
   ((repeat' first|refine aw ?_|refine bw (fun _=>?_) fun _=>?_))
   refine WT_frE 2 [0,1] hv ?_
   ((repeat' first|refine aw ?_|refine bw (fun _=>?_) fun _=>?_))
   refine WT_frP 2 [0,1] w0 ?_
   intro H q
   ((repeat' first|refine aw ?_|refine bw (fun _=>?_) fun _=>?_))
   exact WT_epan rfl
end Uw.Tryz
namespace Uw.Tryz
open Go Uw
theorem put_one (l:List Tok) (k:Nat) (ns:List Nod) (K:Int) (s:Str) (e:Ex) (ms:List Nod) (hms:ms=ns++e.flat ns.length++[⟨K,0,s,[],[ns.length+e.sz - 1]⟩]) (p:Nat) (hp:p=ns.length+e.sz) (hx:(ns++e.flat ns.length).length<1000000) (hK:K=9∨K=15∨K=16∨K=17) :
  SatE P0 n_parse_reader_put [.ptr 0 0,.agg [.d (I K),.d (I 0),.d (.str s),.d (.str []),.d (.slice 1 [[I ((ns.length+e.sz - 1:Nat))]] true)]] (rdN l k (ns++e.flat ns.length)) (.d (I p)) (rdN l k ms):=by
 have:=put_ok l k _ _ _ hms p (by rw [hp];simp [Ex.flat_len]) hx
 have e:ofD K [ns.length+e.sz - 1] = .slice 1 [[I ((ns.length+e.sz - 1:Nat))]] true:=by
  unfold ofD
  rw [if_neg (by omega),if_neg (by omega),if_neg (by omega)]
  rfl
 simp only [e] at this
 exact this
theorem c_one (l:List Tok) (hl:l.length<1000000) (n:Nat) (K:Int) (hK:K=15∨K=16) (k:Nat) (ns:List Nod) (hk:k<l.length) (hn:ns.length≤k):SatO n_parse_reader_one [.ptr 0 0,.d (I K)] (rdN l k ns) (outS l ns ((pExpr n (l.drop (k+1))).bind fun e r=>.ok (.one K e) r)):=by
 rcases useE ((ce l hl n n (Nat.le_refl _)).expr (k+1) ns hk (by omega)) hk (fun e r h=>(suf_e n).expr _ _ _ h) with h2|⟨h2,h3⟩|⟨e,k1,h2,hk1,hk1',h3⟩
 ·rw [h2];exact trivial
 ·rw [h2]
  refine SatP_by is_parse_reader_one rfl ?_
  ((repeat' first|refine aw ?_|refine bw (fun _=>?_) fun _=>?_))
  refine WT_frP 2 [0,1] h3 ?_
  intro H q
  ((repeat' first|refine aw ?_|refine bw (fun _=>?_) fun _=>?_))
  exact WT_epan rfl
 ·rw [h2]
  have hz:(Stm.one K e).sz=e.sz+1:=rfl
  have hp:=put_one l k1 ns K [] e (ns++(Stm.one K e).flat ns.length) (by simp [Stm.flat]) (ns.length+(Stm.one K e).sz - 1) (by omega) (by simp [Ex.flat_len];omega) (by omega)
  show SatE _ _ _ _ (.d (I ((ns.length+(Stm.one K e).sz - 1:Nat)))) (rdN l (l.length - (l.drop k1).length) _)
  rw [len_drop hk1]
  refine SatE_by is_parse_reader_one rfl ?_
  ((repeat' first|refine aw ?_|refine bw (fun _=>?_) fun _=>?_))
  refine WT_frE 2 [0,1] h3 ?_
  ((repeat' first|refine aw ?_|refine bw (fun _=>?_) fun _=>?_))
  refine WT_frE 2 [0,1] hp ?_
  ((repeat' first|refine aw ?_|refine bw (fun _=>?_) fun _=>?_))
  exact WT_eret 2 rfl rfl (by exact Uw.wW)
theorem c_simple (l:List Tok) (hl:l.length<1000000) (n:Nat) (k:Nat) (ns:List Nod) (hk:k≤l.length) (hn:ns.length≤k):SatO n_parse_reader_simple [.ptr 0 0] (rdN l k ns) (outS l ns (pSimple n (l.drop k))):=by
 rw [pSimple]
 have pk:=s_parse_reader_peek l k (ns.map nodL) hk
 by_cases h0:hd (l.drop k)=sSpawn∨hd (l.drop k)=sPar
 ·rw [if_pos h0]
  rcases useS (c_child l hl n [] k ns hk hn) hk (fun e r h=>suf_child h) with h2|⟨h2,h3⟩|⟨s,k1,h2,hk1,hk1',h3⟩
  ·rw [h2];exact trivial
  ·rw [h2]
   rcases h0 with h0|h0
   all_goals
    rw [h0] at pk
    clear h0
    refine SatP_by is_parse_reader_simple rfl ?_
    ((repeat' first|refine aw ?_|refine bw (fun _=>?_) fun _=>?_))
    refine WT_frE 2 [0,1] pk ?_
    ((repeat' first|refine aw ?_|refine bw (fun _=>?_) fun _=>?_))
    refine WT_frP 2 [0,1] h3 ?_
    intro H q
    ((repeat' first|refine aw ?_|refine bw (fun _=>?_) fun _=>?_))
    exact WT_epan rfl
  ·rw [h2]
   show SatE _ _ _ _ (.d (I ((ns.length+s.sz - 1:Nat)))) (rdN l (l.length - (l.drop k1).length) _)
   rw [len_drop hk1]
   rcases h0 with h0|h0
   all_goals
    rw [h0] at pk
    clear h0
    refine SatE_by is_parse_reader_simple rfl ?_
    ((repeat' first|refine aw ?_|refine bw (fun _=>?_) fun _=>?_))
    refine WT_frE 2 [0,1] pk ?_
    ((repeat' first|refine aw ?_|refine bw (fun _=>?_) fun _=>?_))
    refine WT_frE 2 [0,1] h3 ?_
    ((repeat' first|refine aw ?_|refine bw (fun _=>?_) fun _=>?_))
    exact WT_eret 2 rfl rfl (by exact Uw.wW)
 ·rw [if_neg h0]
  by_cases h1:hd (l.drop k)=sSync
  ·have hlt:=hd_lt h1 (by decide)
   rw [if_pos h1,List.tail_drop]
   have w0:=s_parse_reader_want l k (ns.map nodL) hk hl sSync (by decide) h1
   rw [h1] at pk
   have hp:=put_ok l (k+1) ns (ns++(Stm.sync).flat ns.length) ⟨12,0,[],[],[]⟩ rfl (ns.length+(Stm.sync).sz - 1) (by simp [Stm.sz]) (by omega)
   have hp:SatE P0 n_parse_reader_put [.ptr 0 0,.agg [.d (I 12),.d (I 0),.d (.str []),.d (.str []),.d .nil]] (rdN l (k+1) ns) (.d (I ((ns.length+(Stm.sync).sz - 1:Nat)))) (rdN l (k+1) (ns++(Stm.sync).flat ns.length)):=hp
   show SatE _ _ _ _ (.d (I ((ns.length+(Stm.sync).sz - 1:Nat)))) (rdN l (l.length - (l.drop (k+1)).length) _)
   rw [len_drop hlt]
   clear h0 h1
   refine SatE_by is_parse_reader_simple rfl ?_
   ((repeat' first|refine aw ?_|refine bw (fun _=>?_) fun _=>?_))
   refine WT_frE 2 [0,1] pk ?_
   ((repeat' first|refine aw ?_|refine bw (fun _=>?_) fun _=>?_))
   refine WT_frE 2 [0,1] w0 ?_
   ((repeat' first|refine aw ?_|refine bw (fun _=>?_) fun _=>?_))
   refine WT_frE 2 [0,1] hp ?_
   ((repeat' first|refine aw ?_|refine bw (fun _=>?_) fun _=>?_))
   exact WT_eret 2 rfl rfl (by exact Uw.wW)
  ·rw [if_neg h1]
   have one:∀(K:Int) (w:Str),(K=15∧w=sReturn)∨(K=16∧w=sAssert)→hd (l.drop k)=w→SatO n_parse_reader_simple [.ptr 0 0] (rdN l k ns) (outS l ns ((pExpr n (l.drop (k+1))).bind fun e r=>.ok (.one K e) r)):=by
    intro K w hw hh
    have hlt:=hd_lt hh (by rcases hw with ⟨_,rfl⟩|⟨_,rfl⟩<;>decide)
    rw [hh] at pk
    clear h0 h1 hh
    rcases useS (c_one l hl n K (by omega) k ns hlt hn) hk (fun e r h=>by
     obtain ⟨e1,r1,h1,h2⟩:=bind_ok.1 h
     injection h2 with e2 e3
     subst e2 e3
     have:=(suf_e n).expr _ _ _ h1
     obtain ⟨j,j1,j2,j3⟩:=this
     simp at j1
     exact ⟨j+1,by simp;omega,by rw [j2,List.drop_drop,List.drop_drop];congr 1;omega,by rw [Stm.sz];omega⟩) with h2|⟨h2,h3⟩|⟨s,k1,h2,hk1,hk1',h3⟩
    ·rw [h2];exact trivial
    ·rw [h2]
     rcases hw with ⟨rfl,rfl⟩|⟨rfl,rfl⟩
     all_goals
      refine SatP_by is_parse_reader_simple rfl ?_
      ((repeat' first|refine aw ?_|refine bw (fun _=>?_) fun _=>?_))
      refine WT_frE 2 [0,1] pk ?_
      ((repeat' first|refine aw ?_|refine bw (fun _=>?_) fun _=>?_))
      refine WT_frP 2 [0,1] h3 ?_
      intro H q
      ((repeat' first|refine aw ?_|refine bw (fun _=>?_) fun _=>?_))
      exact WT_epan rfl
    ·rw [h2]
     show SatE _ _ _ _ (.d (I ((ns.length+s.sz - 1:Nat)))) (rdN l (l.length - (l.drop k1).length) _)
     rw [len_drop hk1]
     rcases hw with ⟨rfl,rfl⟩|⟨rfl,rfl⟩
     all_goals
      refine SatE_by is_parse_reader_simple rfl ?_
      ((repeat' first|refine aw ?_|refine bw (fun _=>?_) fun _=>?_))
      refine WT_frE 2 [0,1] pk ?_
      ((repeat' first|refine aw ?_|refine bw (fun _=>?_) fun _=>?_))
      refine WT_frE 2 [0,1] h3 ?_
      ((repeat' first|refine aw ?_|refine bw (fun _=>?_) fun _=>?_))
      exact WT_eret 2 rfl rfl (by exact Uw.wW)
   by_cases h2:hd (l.drop k)=sReturn
   ·rw [if_pos h2,List.tail_drop]
    exact one 15 _ (.inl ⟨rfl,rfl⟩) h2
   ·rw [if_neg h2]
    by_cases h3:hd (l.drop k)=sAssert
    ·rw [if_pos h3,List.tail_drop]
     exact one 16 _ (.inr ⟨rfl,rfl⟩) h3
    ·rw [if_neg h3]
     clear one
     generalize hd (l.drop k)=p at *
     have q1:¬p=sSpawn:=fun h=>h0 (.inl h)
     have q2:¬p=sPar:=fun h=>h0 (.inr h)
     clear h0
     unfold sSpawn at q1
     unfold sPar at q2
     unfold sSync at h1
     unfold sReturn at h2
     unfold sAssert at h3
     rcases name_cases l k (ns.map nodL) hk hl with ⟨h4,h5⟩|⟨s,h4,hlt,h5⟩
     ·rw [h4]
      refine SatP_by is_parse_reader_simple rfl ?_
      ((repeat' first|refine aw ?_|refine bw (fun _=>?_) fun _=>?_))
      refine WT_frE 2 [0,1] pk ?_
      ((repeat' first|refine aw ?_|refine bw (fun _=>?_) fun _=>?_))
      refine WT_frP 2 [0,1] h5 ?_
      intro H q
      ((repeat' first|refine aw ?_|refine bw (fun _=>?_) fun _=>?_))
      exact WT_epan rfl
     ·rw [h4]
      clear h4
      have pk2:=s_parse_reader_peek l (k+1) (ns.map nodL) hlt
      show SatO _ _ _ (outS l ns (if hd (l.drop (k+1))=[46] then _ else _))
      by_cases h6:hd (l.drop (k+1))=[46]
      ·rw [if_pos h6]
       rw [h6] at pk2
       clear h6
       rcases useC ((ce l hl n n (Nat.le_refl _)).call s (k+1) ns hlt (by omega)) hlt (fun e r h=>(suf_e n).call _ _ _ _ h) with h7|⟨h7,h8⟩|⟨v,es,k1,h7,hk1,hk1',h8⟩
       ·rw [h7];exact trivial
       ·rw [h7]
        refine SatP_by is_parse_reader_simple rfl ?_
        ((repeat' first|refine aw ?_|refine bw (fun _=>?_) fun _=>?_))
        refine WT_frE 2 [0,1] pk ?_
        ((repeat' first|refine aw ?_|refine bw (fun _=>?_) fun _=>?_))
        refine WT_frE 2 [0,1] h5 ?_
        ((repeat' first|refine aw ?_|refine bw (fun _=>?_) fun _=>?_))
        refine WT_frE 2 [0,1] pk2 ?_
        ((repeat' first|refine aw ?_|refine bw (fun _=>?_) fun _=>?_))
        refine WT_frP 2 [0,1] h8 ?_
        intro H q
        ((repeat' first|refine aw ?_|refine bw (fun _=>?_) fun _=>?_))
        exact WT_epan rfl
       ·rw [h7]
        show SatE _ _ _ _ (.d (I ((ns.length+(Stm.act s v es).sz - 1:Nat)))) (rdN l (l.length - (l.drop k1).length) (ns++(Stm.act s v es).flat ns.length))
        rw [len_drop hk1]
        have hz:(Ex.call s v es).sz=es.sz+1:=rfl
        have hp:=put_one l k1 ns 17 [] (.call s v es) (ns++(Stm.act s v es).flat ns.length) (by simp [Stm.flat,Ex.flat,Ex.sz];try omega) (ns.length+(Stm.act s v es).sz - 1) (by simp [Stm.sz,Ex.sz];try omega) (by simp [Ex.flat_len];omega) (by omega)
        refine SatE_by is_parse_reader_simple rfl ?_
        ((repeat' first|refine aw ?_|refine bw (fun _=>?_) fun _=>?_))
        refine WT_frE 2 [0,1] pk ?_
        ((repeat' first|refine aw ?_|refine bw (fun _=>?_) fun _=>?_))
        refine WT_frE 2 [0,1] h5 ?_
        ((repeat' first|refine aw ?_|refine bw (fun _=>?_) fun _=>?_))
        refine WT_frE 2 [0,1] pk2 ?_
        ((repeat' first|refine aw ?_|refine bw (fun _=>?_) fun _=>?_))
        refine WT_frE 2 [0,1] h8 ?_
        ((repeat' first|refine aw ?_|refine bw (fun _=>?_) fun _=>?_))
        refine WT_frE 2 [0,1] hp ?_
        ((repeat' first|refine aw ?_|refine bw (fun _=>?_) fun _=>?_))
        exact WT_eret 2 rfl rfl (by exact Uw.wW)
      ·rw [if_neg h6]
       by_cases h7:hd (l.drop (k+1))=[61]
       ·have hlt2:=hd_lt h7 (by simp)
        have w1:=s_parse_reader_want l (k+1) (ns.map nodL) hlt hl [61] (by simp) h7
        rw [want,if_pos h7,List.tail_drop]
        rw [h7] at pk2
        clear h6 h7
        have pk3:=s_parse_reader_peek l (k+1+1) (ns.map nodL) hlt2
        show SatO _ _ _ (outS l ns (if hd (l.drop (k+1+1))=sSpawn∨hd (l.drop (k+1+1))=sPar then _ else _))
        by_cases h8:hd (l.drop (k+1+1))=sSpawn∨hd (l.drop (k+1+1))=sPar
        ·rw [if_pos h8]
         rcases useS (c_child l hl n s (k+1+1) ns hlt2 (by omega)) hlt2 (fun e r h=>suf_child h) with h9|⟨h9,h10⟩|⟨s2,k1,h9,hk1,hk1',h10⟩
         ·rw [h9];exact trivial
         ·rw [h9]
          rcases h8 with h8|h8
          ·rw [h8] at pk3
           clear h8
           refine SatP_by is_parse_reader_simple rfl ?_
           ((repeat' first|refine aw ?_|refine bw (fun _=>?_) fun _=>?_))
           refine WT_frE 2 [0,1] pk ?_
           ((repeat' first|refine aw ?_|refine bw (fun _=>?_) fun _=>?_))
           refine WT_frE 2 [0,1] h5 ?_
           ((repeat' first|refine aw ?_|refine bw (fun _=>?_) fun _=>?_))
           refine WT_frE 2 [0,1] pk2 ?_
           ((repeat' first|refine aw ?_|refine bw (fun _=>?_) fun _=>?_))
           refine WT_frE 2 [0,1] w1 ?_
           ((repeat' first|refine aw ?_|refine bw (fun _=>?_) fun _=>?_))
           refine WT_frE 2 [0,1] pk3 ?_
           ((repeat' first|refine aw ?_|refine bw (fun _=>?_) fun _=>?_))
           refine WT_frP 2 [0,1] h10 ?_
           intro H q
           ((repeat' first|refine aw ?_|refine bw (fun _=>?_) fun _=>?_))
           exact WT_epan rfl
          ·rw [h8] at pk3
           clear h8
           refine SatP_by is_parse_reader_simple rfl ?_
           ((repeat' first|refine aw ?_|refine bw (fun _=>?_) fun _=>?_))
           refine WT_frE 2 [0,1] pk ?_
           ((repeat' first|refine aw ?_|refine bw (fun _=>?_) fun _=>?_))
           refine WT_frE 2 [0,1] h5 ?_
           ((repeat' first|refine aw ?_|refine bw (fun _=>?_) fun _=>?_))
           refine WT_frE 2 [0,1] pk2 ?_
           ((repeat' first|refine aw ?_|refine bw (fun _=>?_) fun _=>?_))
           refine WT_frE 2 [0,1] w1 ?_
           ((repeat' first|refine aw ?_|refine bw (fun _=>?_) fun _=>?_))
           refine WT_frE 2 [0,1] pk3 ?_
           ((repeat' first|refine aw ?_|refine bw (fun _=>?_) fun _=>?_))
           refine WT_frE 2 [0,1] pk3 ?_
           ((repeat' first|refine aw ?_|refine bw (fun _=>?_) fun _=>?_))
           refine WT_frP 2 [0,1] h10 ?_
           intro H q
           ((repeat' first|refine aw ?_|refine bw (fun _=>?_) fun _=>?_))
           exact WT_epan rfl
         ·rw [h9]
          show SatE _ _ _ _ (.d (I ((ns.length+s2.sz - 1:Nat)))) (rdN l (l.length - (l.drop k1).length) _)
          rw [len_drop hk1]
          rcases h8 with h8|h8
          ·rw [h8] at pk3
           clear h8
           refine SatE_by is_parse_reader_simple rfl ?_
           ((repeat' first|refine aw ?_|refine bw (fun _=>?_) fun _=>?_))
           refine WT_frE 2 [0,1] pk ?_
           ((repeat' first|refine aw ?_|refine bw (fun _=>?_) fun _=>?_))
           refine WT_frE 2 [0,1] h5 ?_
           ((repeat' first|refine aw ?_|refine bw (fun _=>?_) fun _=>?_))
           refine WT_frE 2 [0,1] pk2 ?_
           ((repeat' first|refine aw ?_|refine bw (fun _=>?_) fun _=>?_))
           refine WT_frE 2 [0,1] w1 ?_
           ((repeat' first|refine aw ?_|refine bw (fun _=>?_) fun _=>?_))
           refine WT_frE 2 [0,1] pk3 ?_
           ((repeat' first|refine aw ?_|refine bw (fun _=>?_) fun _=>?_))
           refine WT_frE 2 [0,1] h10 ?_
           ((repeat' first|refine aw ?_|refine bw (fun _=>?_) fun _=>?_))
           exact WT_eret 2 rfl rfl (by exact Uw.wW)
          ·rw [h8] at pk3
           clear h8
           refine SatE_by is_parse_reader_simple rfl ?_
           ((repeat' first|refine aw ?_|refine bw (fun _=>?_) fun _=>?_))
           refine WT_frE 2 [0,1] pk ?_
           ((repeat' first|refine aw ?_|refine bw (fun _=>?_) fun _=>?_))
           refine WT_frE 2 [0,1] h5 ?_
           ((repeat' first|refine aw ?_|refine bw (fun _=>?_) fun _=>?_))
           refine WT_frE 2 [0,1] pk2 ?_
           ((repeat' first|refine aw ?_|refine bw (fun _=>?_) fun _=>?_))
           refine WT_frE 2 [0,1] w1 ?_
           ((repeat' first|refine aw ?_|refine bw (fun _=>?_) fun _=>?_))
           refine WT_frE 2 [0,1] pk3 ?_
           ((repeat' first|refine aw ?_|refine bw (fun _=>?_) fun _=>?_))
           refine WT_frE 2 [0,1] pk3 ?_
           ((repeat' first|refine aw ?_|refine bw (fun _=>?_) fun _=>?_))
           refine WT_frE 2 [0,1] h10 ?_
           ((repeat' first|refine aw ?_|refine bw (fun _=>?_) fun _=>?_))
           exact WT_eret 2 rfl rfl (by exact Uw.wW)
        ·rw [if_neg h8]
         generalize hd (l.drop (k+1+1))=p3 at *
         have q3:¬p3=sSpawn:=fun h=>h8 (.inl h)
         have q4:¬p3=sPar:=fun h=>h8 (.inr h)
         clear h8
         unfold sSpawn at q3
         unfold sPar at q4
         rcases useE ((ce l hl n n (Nat.le_refl _)).expr (k+1+1) ns hlt2 (by omega)) hlt2 (fun e r h=>(suf_e n).expr _ _ _ h) with h9|⟨h9,h10⟩|⟨e,k1,h9,hk1,hk1',h10⟩
         ·rw [h9];exact trivial
         ·rw [h9]
          refine SatP_by is_parse_reader_simple rfl ?_
          ((repeat' first|refine aw ?_|refine bw (fun _=>?_) fun _=>?_))
          refine WT_frE 2 [0,1] pk ?_
          ((repeat' first|refine aw ?_|refine bw (fun _=>?_) fun _=>?_))
          refine WT_frE 2 [0,1] h5 ?_
          ((repeat' first|refine aw ?_|refine bw (fun _=>?_) fun _=>?_))
          refine WT_frE 2 [0,1] pk2 ?_
          ((repeat' first|refine aw ?_|refine bw (fun _=>?_) fun _=>?_))
          refine WT_frE 2 [0,1] w1 ?_
          ((repeat' first|refine aw ?_|refine bw (fun _=>?_) fun _=>?_))
          refine WT_frE 2 [0,1] pk3 ?_
          ((repeat' first|refine aw ?_|refine bw (fun _=>?_) fun _=>?_))
          refine WT_frE 2 [0,1] pk3 ?_
          ((repeat' first|refine aw ?_|refine bw (fun _=>?_) fun _=>?_))
          refine WT_frP 2 [0,1] h10 ?_
          intro H q
          ((repeat' first|refine aw ?_|refine bw (fun _=>?_) fun _=>?_))
          exact WT_epan rfl
         ·rw [h9]
          have hz:(Stm.set s e).sz=e.sz+1:=rfl
          have hp:=put_one l k1 ns 9 s e (ns++(Stm.set s e).flat ns.length) (by simp [Stm.flat]) (ns.length+(Stm.set s e).sz - 1) (by omega) (by simp [Ex.flat_len];omega) (by omega)
          show SatE _ _ _ _ (.d (I ((ns.length+(Stm.set s e).sz - 1:Nat)))) (rdN l (l.length - (l.drop k1).length) _)
          rw [len_drop hk1]
          refine SatE_by is_parse_reader_simple rfl ?_
          ((repeat' first|refine aw ?_|refine bw (fun _=>?_) fun _=>?_))
          refine WT_frE 2 [0,1] pk ?_
          ((repeat' first|refine aw ?_|refine bw (fun _=>?_) fun _=>?_))
          refine WT_frE 2 [0,1] h5 ?_
          ((repeat' first|refine aw ?_|refine bw (fun _=>?_) fun _=>?_))
          refine WT_frE 2 [0,1] pk2 ?_
          ((repeat' first|refine aw ?_|refine bw (fun _=>?_) fun _=>?_))
          refine WT_frE 2 [0,1] w1 ?_
          ((repeat' first|refine aw ?_|refine bw (fun _=>?_) fun _=>?_))
          refine WT_frE 2 [0,1] pk3 ?_
          ((repeat' first|refine aw ?_|refine bw (fun _=>?_) fun _=>?_))
          refine WT_frE 2 [0,1] pk3 ?_
          ((repeat' first|refine aw ?_|refine bw (fun _=>?_) fun _=>?_))
          refine WT_frE 2 [0,1] h10 ?_
          ((repeat' first|refine aw ?_|refine bw (fun _=>?_) fun _=>?_))
          refine WT_frE 2 [0,1] hp ?_
          ((repeat' first|refine aw ?_|refine bw (fun _=>?_) fun _=>?_))
          exact WT_eret 2 rfl rfl (by exact Uw.wW)
       ·have w1:=p_parse_reader_want l (k+1) (ns.map nodL) hlt hl [61] (by simp) h7
        rw [want,if_neg h7]
        generalize hd (l.drop (k+1))=p2 at *
        clear h7
        refine SatP_by is_parse_reader_simple rfl ?_
        ((repeat' first|refine aw ?_|refine bw (fun _=>?_) fun _=>?_))
        refine WT_frE 2 [0,1] pk ?_
        ((repeat' first|refine aw ?_|refine bw (fun _=>?_) fun _=>?_))
        refine WT_frE 2 [0,1] h5 ?_
        ((repeat' first|refine aw ?_|refine bw (fun _=>?_) fun _=>?_))
        refine WT_frE 2 [0,1] pk2 ?_
        ((repeat' first|refine aw ?_|refine bw (fun _=>?_) fun _=>?_))
        refine WT_frP 2 [0,1] w1 ?_
        intro H q
        ((repeat' first|refine aw ?_|refine bw (fun _=>?_) fun _=>?_))
        exact WT_epan rfl
end Uw.Tryz
namespace Uw.Tryz
open Go Uw
theorem put_row (l:List Tok) (k:Nat) (ns ms:List Nod) (nd:Nod) (hms:ms=ns++[nd]) (p:Nat) (hp:p=ns.length) (hx:ns.length<1000000) (hof:ofD nd.kind nd.of = .slice 1 (rowN nd.of) false) :
  SatE P0 n_parse_reader_put [.ptr 0 0,.agg [.d (I nd.kind),.d (I nd.n),.d (.str nd.name),.d (.str nd.name2),.ref 2 0 0 (rowN nd.of).length]] (rdN l k ns++[.arr 1 (rowN nd.of)]) (.d (I p)) (rdN l k ms++[.arr 1 (rowN nd.of)]):=by
 subst hms hp
 obtain ⟨a,b,c,d,of⟩:=nd
 simp only at hof ⊢
 have e:(ns++[(⟨a,b,c,d,of⟩:Nod)]).map nodL=ns.map nodL++[[I a,I b,.str c,.str d,.slice 1 (rowN of) false]]:=by simp [nodL,hof]
 have hxs:(ns.map nodL).length<1000000:=by simpa using hx
 have hxe:(ns.map nodL).length=ns.length:=by simp
 have hfz:((rowN of).drop 0).take (rowN of).length=rowN of:=by simp
 rw [rdN,rdN,e]
 generalize ns.map nodL=xs at *
 generalize rowN of=ys at *
 have e2:xs++[[I a,I b,.str c,.str d,.slice 1 ((ys.drop 0).take ys.length) false]]=xs++[[I a,I b,.str c,.str d,.slice 1 ys false]]:=by rw [hfz]
 refine SatE_by is_parse_reader_put rfl ?_
 ((repeat' first|refine aw ?_|refine bw (fun _=>?_) fun _=>?_))
 refine WT_draw ⟨[(0,.ptr 0 0)],[(0,.var [.d (toksD l),.d (I k),.ref 1 0 0 (xs.length+1)]),(1,.arr 5 (xs++[[I a,I b,.str c,.str d,.slice 1 ys false]])),(2,.arr 1 ys)],4,[],3⟩ ?_ ?_
 ·((repeat' first|refine aw ?_|refine bw (fun _=>?_) fun _=>?_))
  exact WT_done (.inl ⟨rfl,by exact Uw.wW⟩)
 ·((repeat' first|refine aw ?_|refine bw (fun _=>?_) fun _=>?_))
  exact WT_eret 3 rfl rfl (by exact Uw.wW)
def outB (l:List Tok) (ns:List Nod) (x:R Bl):Out:=
 match x with
 | .ok s r=>.ok (.d (I ((ns.length+s.sz:Nat)))) (rdN l (l.length - r.length) (ns++s.all ns.length))
 | .bad=>.bad
 | .out=>.out
theorem outB_ne {l:List Tok} {ns:List Nod} {x:R Bl} (h:x≠R.out):outB l ns x≠Out.out:=by
 cases x with
 | out=>exact absurd rfl h
 | bad=>intro h;cases h
 | ok e r=>intro h;cases h
theorem useB {f:FuncId} {vs:List V} {l:List Tok} {k:Nat} {ns:List Nod} {x:R Bl} (h:SatO f vs (rdN l k ns) (outB l ns x)) (hk:k≤l.length) (hs:∀e r,x = .ok e r→Suf (l.drop k) r (e.sz+1)) :
  x = .out∨(x = .bad∧SatP P0 f vs (rdN l k ns) wrongD)∨∃e k',x = .ok e (l.drop k')∧k'≤l.length∧k+(e.sz+1)≤k'∧SatE P0 f vs (rdN l k ns) (.d (I ((ns.length+e.sz:Nat)))) (rdN l k' (ns++e.all ns.length)):=by
 cases x with
 | out=>exact .inl rfl
 | bad=>exact .inr (.inl ⟨rfl,h⟩)
 | ok e r=>
  obtain ⟨k',h1,rfl,h2⟩:=suf_at (hs e r rfl) hk
  refine .inr (.inr ⟨e,k',rfl,h1,h2,?_⟩)
  have h:SatE P0 f vs (rdN l k ns) (.d (I ((ns.length+e.sz:Nat)))) (rdN l (l.length - (l.drop k').length) (ns++e.all ns.length)):=h
  rw [len_drop h1] at h
  exact h
structure CS (l:List Tok) (n:Nat):Prop where
 stmt:∀k ns,k≤l.length→ns.length≤k→SatO n_parse_reader_statement [.ptr 0 0] (rdN l k ns) (outS l ns (pStmt n (l.drop k)))
 block:∀k ns,k≤l.length→ns.length≤k→SatO n_parse_reader_block [.ptr 0 0] (rdN l k ns) (outB l ns (pBlock n (l.drop k)))
def Bl.app:Bl→Bl→Bl
 | .nil,b=>b
 | .cons e r,b=>.cons e (r.app b)
theorem Bl.app_sz:∀(a b:Bl),(a.app b).sz=a.sz+b.sz
 | .nil,b=>by simp [Bl.app,Bl.sz]
 | .cons e r,b=>by rw [Bl.app,Bl.sz,Bl.sz,Bl.app_sz r b];omega
theorem Bl.app_flat:∀(a b:Bl) (n:Nat),(a.app b).flat n=a.flat n++b.flat (n+a.sz)
 | .nil,b,n=>by simp [Bl.app,Bl.flat,Bl.sz]
 | .cons e r,b,n=>by rw [Bl.app,Bl.flat,Bl.flat,Bl.app_flat r b,Bl.sz,List.append_assoc,Nat.add_assoc]
theorem Bl.app_places:∀(a b:Bl) (n:Nat),(a.app b).places n=a.places n++b.places (n+a.sz)
 | .nil,b,n=>by simp [Bl.app,Bl.places,Bl.sz]
 | .cons e r,b,n=>by rw [Bl.app,Bl.places,Bl.places,Bl.app_places r b,Bl.sz,List.cons_append,Nat.add_assoc]
theorem Bl.app_nil:∀(a:Bl),a.app .nil=a
 | .nil=>rfl
 | .cons e r=>by rw [Bl.app,Bl.app_nil r]
theorem Bl.app_assoc:∀(a b c:Bl),(a.app b).app c=a.app (b.app c)
 | .nil,b,c=>rfl
 | .cons e r,b,c=>by rw [Bl.app,Bl.app,Bl.app,Bl.app_assoc r b c]
theorem Bl.places_le:∀(d:Bl) (b:Nat),(d.places b).length≤d.sz
 | .nil,b=>by simp [Bl.places]
 | .cons s r,b=>by have:=Bl.places_le r (b+s.sz);have:=s.sz_pos;simp [Bl.places,Bl.sz];omega
theorem c_block (l:List Tok) (hl:l.length<1000000) (n:Nat) (ih:∀m,m≤n→CS l m) (k:Nat) (ns:List Nod) (hk:k≤l.length) (hn:ns.length≤k):SatO n_parse_reader_block [.ptr 0 0] (rdN l k ns) (outB l ns (pBlock (n+1) (l.drop k))):=by
 rw [pBlock]
 by_cases h0:hd (l.drop k)=[123]
 ·have hlt:=hd_lt h0 (by simp)
  have w0:=s_parse_reader_want l k (ns.map nodL) hk hl [123] (by simp) h0
  rw [want,if_pos h0,List.tail_drop]
  show SatO _ _ _ (outB l ns (pStmts n (l.drop (k+1))))
  by_cases hout:pStmts n (l.drop (k+1)) = .out
  ·rw [hout];exact trivial
  generalize hR:pStmts n (l.drop (k+1))=Rr at hout
  refine SatO_by is_parse_reader_block rfl (outB_ne hout) ?_
  ((repeat' first|refine aw ?_|refine bw (fun _=>?_) fun _=>?_))
  refine WT_frE 2 [0,1] w0 ?_
  ((repeat' first|refine aw ?_|refine bw (fun _=>?_) fun _=>?_))
  refine WT_loop (fun ((d,k1,m):Bl×Nat×Nat)=>⟨[(3,.ref 2 0 0 (rowN (d.places ns.length)).length),(0,.ptr 0 0)],heapOf 0 (rdN l k1 (ns++d.flat ns.length)++[.arr 1 (rowN (d.places ns.length))]),3,[],2⟩)
   (fun (d,k1,m)=>(pStmts m (l.drop k1)).bind (fun es r=>R.ok (d.app es) r)=Rr∧m≤n∧k1≤l.length∧k+d.sz+1≤k1) (fun (_,_,m)=>m) (.nil,k+1,n) (by
    have e:ns=ns++Bl.nil.flat ns.length:=by simp [Bl.flat]
    have e1:(ns.map nodL).length=((ns++Bl.nil.flat ns.length).map nodL).length:=by rw [← e]
    have e2:ns.map nodL=(ns++Bl.nil.flat ns.length).map nodL:=by rw [← e]
    exact Uw.wW) ⟨by rw [← hR];cases pStmts n (l.drop (k+1))<;>rfl,Nat.le_refl _,hlt,by simp [Bl.sz]⟩ ?_
  clear hR w0 h0
  rintro ⟨d,k1,m⟩ ⟨hR,hm,hk1,hk2⟩
  cases m with
  | zero=>rw [pStmts] at hR;exact absurd hR.symm hout
  | succ m=>
   rw [pStmts] at hR
   have hfl:(ns++d.flat ns.length).length=ns.length+d.sz:=by simp [Bl.flat_len]
   have hv:=s_parse_reader_have l k1 ((ns++d.flat ns.length).map nodL) hk1 hl [125] (by simp)
   have hpy:(rowN (d.places ns.length)).length<1000000:=by have:=d.places_le ns.length;simp [rowN];omega
   by_cases hs:hd (l.drop k1)=[125]
   ·have hlt:=hd_lt hs (by simp)
    rw [if_pos hs,List.tail_drop] at hR
    rw [if_pos hs,decide_eq_true hs] at hv
    have hR:R.ok (d.app .nil) (l.drop (k1+1))=Rr:=hR
    have hb:outB l ns Rr = .ok (.d (I ((ns.length+d.sz:Nat)))) (rdN l (k1+1) (ns++d.all ns.length)):=by
     rw [← hR,Bl.app_nil]
     show Out.ok _ (rdN l (l.length - (l.drop (k1+1)).length) _)=_
     rw [len_drop (by omega)]
    have hp:=put_row l (k1+1) (ns++d.flat ns.length) (ns++d.all ns.length) ⟨18,0,[],[],d.places ns.length⟩ (by simp [Bl.all]) (ns.length+d.sz) (by simp [Bl.flat_len]) (by simp [Bl.flat_len];omega) rfl
    clear ih hR hout hs
    ((repeat' first|refine aw ?_|refine bw (fun _=>?_) fun _=>?_))
    refine WT_frE 3 [0,1] hv ?_
    ((repeat' first|refine aw ?_|refine bw (fun _=>?_) fun _=>?_))
    refine WT_break ?_
    ((repeat' first|refine aw ?_|refine bw (fun _=>?_) fun _=>?_))
    refine WT_frE 3 [0,1,2] hp ?_
    ((repeat' first|refine aw ?_|refine bw (fun _=>?_) fun _=>?_))
    exact WT_oret 2 hb rfl rfl (by exact Uw.wW)
   ·rw [if_neg hs] at hR
    rw [if_neg hs,decide_eq_false hs] at hv
    rcases useS ((ih m (by omega)).stmt k1 (ns++d.flat ns.length) hk1 (by omega)) hk1 (fun e r h=>(suf_s m).stmt _ _ _ h) with h0|⟨h0,h1⟩|⟨y,k2,h0,hk3,hk3',h1⟩
    ·rw [h0] at hR;exact absurd hR.symm hout
    ·rw [h0] at hR
     have hb:outB l ns Rr = .bad:=by rw [← hR];rfl
     clear ih hR hout hs h0
     ((repeat' first|refine aw ?_|refine bw (fun _=>?_) fun _=>?_))
     refine WT_frE 3 [0,1] hv ?_
     ((repeat' first|refine aw ?_|refine bw (fun _=>?_) fun _=>?_))
     refine WT_frP 3 [0,1] h1 ?_
     intro h q
     ((repeat' first|refine aw ?_|refine bw (fun _=>?_) fun _=>?_))
     exact WT_throw (WT_opan 2 hb rfl)
    ·rw [h0] at hR
     have hR:(pStmts m (l.drop k2)).bind (fun es r=>R.ok ((d.app (.cons y .nil)).app es) r)=Rr:=by
      rw [← hR]
      show _=((pStmts m (l.drop k2)).bind fun es r=>R.ok (Bl.cons y es) r).bind fun es r=>R.ok (d.app es) r
      cases pStmts m (l.drop k2) with
      | ok es r=>show R.ok _ _=R.ok _ _;rw [Bl.app_assoc];rfl
      | bad=>rfl
      | out=>rfl
     have hpl:d.places ns.length++[(ns++d.flat ns.length).length+y.sz - 1]=(d.app (.cons y .nil)).places ns.length:=by rw [Bl.app_places,hfl];rfl
     have hpr:rowN (d.places ns.length)++[[I (((ns++d.flat ns.length).length+y.sz - 1:Nat))]]=rowN ((d.app (.cons y .nil)).places ns.length):=by rw [← hpl];simp [rowN]
     have hpn:(rowN (d.places ns.length)).length+1=(rowN ((d.app (.cons y .nil)).places ns.length)).length:=by rw [← hpr];simp
     have hff:ns++d.flat ns.length++y.flat (ns++d.flat ns.length).length=ns++(d.app (.cons y .nil)).flat ns.length:=by rw [Bl.app_flat,hfl];simp [Bl.flat]
     have hsz:(d.app (.cons y .nil)).sz=d.sz+y.sz:=by rw [Bl.app_sz];rfl
     rw [hff] at h1
     clear ih hout hs h0 hff hpl
     ((repeat' first|refine aw ?_|refine bw (fun _=>?_) fun _=>?_))
     refine WT_frE 3 [0,1] hv ?_
     ((repeat' first|refine aw ?_|refine bw (fun _=>?_) fun _=>?_))
     refine WT_frE 3 [0,1] h1 ?_
     ((repeat' first|refine aw ?_|refine bw (fun _=>?_) fun _=>?_))
     exact WT_again (d.app (.cons y .nil),k2,m) ⟨hR,by omega,hk3,by omega⟩ (by simp only;omega) (by exact Uw.wW)
 ·rw [want,if_neg h0]
  have w0:=p_parse_reader_want l k (ns.map nodL) hk hl [123] (by simp) h0
  clear ih h0
  refine SatP_by is_parse_reader_block rfl ?_
  ((repeat' first|refine aw ?_|refine bw (fun _=>?_) fun _=>?_))
  refine WT_frP 2 [0,1] w0 ?_
  intro H q
  ((repeat' first|refine aw ?_|refine bw (fun _=>?_) fun _=>?_))
  exact WT_epan rfl
end Uw.Tryz
namespace Uw.Tryz
open Go Uw
def pIf (n:Nat) (r:List Tok):R Stm:=(pExpr n r.tail).bind fun e r=>(pBlock n r).bind fun a r=>
 if hd r=sElse then (pBlock n r.tail).bind fun b r=>.ok (.if2 e a b) r else .ok (.if1 e a) r
theorem c_choice (l:List Tok) (hl:l.length<1000000) (n:Nat) (ih:∀m,m≤n→CS l m) (k:Nat) (ns:List Nod) (hk:k≤l.length) (hn:ns.length≤k) (h0:hd (l.drop k)=sIf):SatO n_parse_reader_choice [.ptr 0 0] (rdN l k ns) (outS l ns (pIf n (l.drop k))):=by
 have hlt:=hd_lt h0 (by decide)
 have w0:=s_parse_reader_want l k (ns.map nodL) hk hl sIf (by decide) h0
 clear h0
 rw [pIf,List.tail_drop]
 rcases useE ((ce l hl n n (Nat.le_refl _)).expr (k+1) ns hlt (by omega)) hlt (fun e r h=>(suf_e n).expr _ _ _ h) with h2|⟨h2,h3⟩|⟨e,k1,h2,hk1,hk1',h3⟩
 ·rw [h2];exact trivial
 ·rw [h2]
  refine SatP_by is_parse_reader_choice rfl ?_
  ((repeat' first|refine aw ?_|refine bw (fun _=>?_) fun _=>?_))
  refine WT_frE 2 [0,1] w0 ?_
  ((repeat' first|refine aw ?_|refine bw (fun _=>?_) fun _=>?_))
  refine WT_frP 2 [0,1] h3 ?_
  intro H q
  ((repeat' first|refine aw ?_|refine bw (fun _=>?_) fun _=>?_))
  exact WT_epan rfl
 ·rw [h2]
  have hf1:(ns++e.flat ns.length).length=ns.length+e.sz:=by simp [Ex.flat_len]
  show SatO _ _ _ (outS l ns ((pBlock n (l.drop k1)).bind _))
  rcases useB ((ih n (Nat.le_refl _)).block k1 (ns++e.flat ns.length) hk1 (by omega)) hk1 (fun e r h=>(suf_s n).block _ _ _ h) with h4|⟨h4,h5⟩|⟨a,k2,h4,hk2,hk2',h5⟩
  ·rw [h4];exact trivial
  ·rw [h4]
   refine SatP_by is_parse_reader_choice rfl ?_
   ((repeat' first|refine aw ?_|refine bw (fun _=>?_) fun _=>?_))
   refine WT_frE 2 [0,1] w0 ?_
   ((repeat' first|refine aw ?_|refine bw (fun _=>?_) fun _=>?_))
   refine WT_frE 2 [0,1] h3 ?_
   ((repeat' first|refine aw ?_|refine bw (fun _=>?_) fun _=>?_))
   refine WT_frP 2 [0,1] h5 ?_
   intro H q
   ((repeat' first|refine aw ?_|refine bw (fun _=>?_) fun _=>?_))
   exact WT_epan rfl
  ·rw [h4]
   have hf2:(ns++e.flat ns.length++a.all (ns++e.flat ns.length).length).length=ns.length+e.sz+(a.sz+1):=by simp [Ex.flat_len,Bl.all_len];omega
   have hv:=s_parse_reader_have l k2 ((ns++e.flat ns.length++a.all (ns++e.flat ns.length).length).map nodL) hk2 hl sElse (by decide)
   show SatO _ _ _ (outS l ns (if hd (l.drop k2)=sElse then _ else _))
   by_cases h6:hd (l.drop k2)=sElse
   ·have hlt2:=hd_lt h6 (by decide)
    rw [if_pos h6,decide_eq_true h6] at hv
    rw [if_pos h6,List.tail_drop]
    clear h6
    rcases useB ((ih n (Nat.le_refl _)).block (k2+1) (ns++e.flat ns.length++a.all (ns++e.flat ns.length).length) hlt2 (by omega)) hlt2 (fun e r h=>(suf_s n).block _ _ _ h) with h7|⟨h7,h8⟩|⟨b,k3,h7,hk3,hk3',h8⟩
    ·rw [h7];exact trivial
    ·rw [h7]
     refine SatP_by is_parse_reader_choice rfl ?_
     ((repeat' first|refine aw ?_|refine bw (fun _=>?_) fun _=>?_))
     refine WT_frE 2 [0,1] w0 ?_
     ((repeat' first|refine aw ?_|refine bw (fun _=>?_) fun _=>?_))
     refine WT_frE 2 [0,1] h3 ?_
     ((repeat' first|refine aw ?_|refine bw (fun _=>?_) fun _=>?_))
     refine WT_frE 2 [0,1] h5 ?_
     ((repeat' first|refine aw ?_|refine bw (fun _=>?_) fun _=>?_))
     refine WT_frE 3 [0,1] hv ?_
     ((repeat' first|refine aw ?_|refine bw (fun _=>?_) fun _=>?_))
     refine WT_frP 3 [0,1] h8 ?_
     intro H q
     ((repeat' first|refine aw ?_|refine bw (fun _=>?_) fun _=>?_))
     exact WT_epan rfl
    ·rw [h7]
     show SatE _ _ _ _ (.d (I ((ns.length+(Stm.if2 e a b).sz - 1:Nat)))) (rdN l (l.length - (l.drop k3).length) (ns++(Stm.if2 e a b).flat ns.length))
     rw [len_drop hk3]
     have hp:=put_row l k3 (ns++e.flat ns.length++a.all (ns++e.flat ns.length).length++b.all (ns++e.flat ns.length++a.all (ns++e.flat ns.length).length).length) (ns++(Stm.if2 e a b).flat ns.length) ⟨13,0,[],[],[ns.length+e.sz - 1,(ns++e.flat ns.length).length+a.sz,(ns++e.flat ns.length++a.all (ns++e.flat ns.length).length).length+b.sz]⟩ (by
      rw [hf2,hf1];simp [Stm.flat,Bl.all];try omega) (ns.length+(Stm.if2 e a b).sz - 1) (by simp [Stm.sz,Ex.flat_len,Bl.all_len];try omega) (by simp [Ex.flat_len,Bl.all_len];omega) rfl
     refine SatE_by is_parse_reader_choice rfl ?_
     ((repeat' first|refine aw ?_|refine bw (fun _=>?_) fun _=>?_))
     refine WT_frE 2 [0,1] w0 ?_
     ((repeat' first|refine aw ?_|refine bw (fun _=>?_) fun _=>?_))
     refine WT_frE 2 [0,1] h3 ?_
     ((repeat' first|refine aw ?_|refine bw (fun _=>?_) fun _=>?_))
     refine WT_frE 2 [0,1] h5 ?_
     ((repeat' first|refine aw ?_|refine bw (fun _=>?_) fun _=>?_))
     refine WT_frE 3 [0,1] hv ?_
     ((repeat' first|refine aw ?_|refine bw (fun _=>?_) fun _=>?_))
     refine WT_frE 3 [0,1] h8 ?_
     ((repeat' first|refine aw ?_|refine bw (fun _=>?_) fun _=>?_))
     refine WT_frE 3 [0,1,2] hp ?_
     ((repeat' first|refine aw ?_|refine bw (fun _=>?_) fun _=>?_))
     exact WT_eret 2 rfl rfl (by exact Uw.wW)
   ·rw [if_neg h6,decide_eq_false h6] at hv
    rw [if_neg h6]
    clear h6
    show SatE _ _ _ _ (.d (I ((ns.length+(Stm.if1 e a).sz - 1:Nat)))) (rdN l (l.length - (l.drop k2).length) (ns++(Stm.if1 e a).flat ns.length))
    rw [len_drop hk2]
    have hp:=put_row l k2 (ns++e.flat ns.length++a.all (ns++e.flat ns.length).length) (ns++(Stm.if1 e a).flat ns.length) ⟨13,0,[],[],[ns.length+e.sz - 1,(ns++e.flat ns.length).length+a.sz]⟩ (by
     rw [hf1];simp [Stm.flat,Bl.all];try omega) (ns.length+(Stm.if1 e a).sz - 1) (by simp [Stm.sz,Ex.flat_len,Bl.all_len];try omega) (by simp [Ex.flat_len,Bl.all_len];omega) rfl
    refine SatE_by is_parse_reader_choice rfl ?_
    ((repeat' first|refine aw ?_|refine bw (fun _=>?_) fun _=>?_))
    refine WT_frE 2 [0,1] w0 ?_
    ((repeat' first|refine aw ?_|refine bw (fun _=>?_) fun _=>?_))
    refine WT_frE 2 [0,1] h3 ?_
    ((repeat' first|refine aw ?_|refine bw (fun _=>?_) fun _=>?_))
    refine WT_frE 2 [0,1] h5 ?_
    ((repeat' first|refine aw ?_|refine bw (fun _=>?_) fun _=>?_))
    refine WT_frE 3 [0,1] hv ?_
    ((repeat' first|refine aw ?_|refine bw (fun _=>?_) fun _=>?_))
    refine WT_frE 3 [0,1,2] hp ?_
    ((repeat' first|refine aw ?_|refine bw (fun _=>?_) fun _=>?_))
    exact WT_eret 2 rfl rfl (by exact Uw.wW)
theorem c_stmt (l:List Tok) (hl:l.length<1000000) (n:Nat) (ih:∀m,m≤n→CS l m) (k:Nat) (ns:List Nod) (hk:k≤l.length) (hn:ns.length≤k):SatO n_parse_reader_statement [.ptr 0 0] (rdN l k ns) (outS l ns (pStmt (n+1) (l.drop k))):=by
 have pk:=s_parse_reader_peek l k (ns.map nodL) hk
 rw [pStmt]
 by_cases h0:hd (l.drop k)=sIf
 ·have hlt:=hd_lt h0 (by decide)
  rw [if_pos h0]
  have hc:=c_choice l hl n ih k ns hk hn h0
  have e:pStmt (n+1) (l.drop k)=pIf n (l.drop k):=by rw [pStmt,if_pos h0];rfl
  show SatO _ _ _ (outS l ns (pIf n (l.drop k)))
  rw [h0] at pk
  clear h0
  rcases useS hc hk (fun s r h=>(suf_s (n+1)).stmt _ _ _ (e.trans h)) with h2|⟨h2,h3⟩|⟨s,k1,h2,hk1,hk1',h3⟩
  ·rw [h2];exact trivial
  ·rw [h2]
   refine SatP_by is_parse_reader_statement rfl ?_
   ((repeat' first|refine aw ?_|refine bw (fun _=>?_) fun _=>?_))
   refine WT_frE 2 [0,1] pk ?_
   ((repeat' first|refine aw ?_|refine bw (fun _=>?_) fun _=>?_))
   refine WT_frP 2 [0,1] h3 ?_
   intro H q
   ((repeat' first|refine aw ?_|refine bw (fun _=>?_) fun _=>?_))
   exact WT_epan rfl
  ·rw [h2]
   show SatE _ _ _ _ (.d (I ((ns.length+s.sz - 1:Nat)))) (rdN l (l.length - (l.drop k1).length) _)
   rw [len_drop hk1]
   refine SatE_by is_parse_reader_statement rfl ?_
   ((repeat' first|refine aw ?_|refine bw (fun _=>?_) fun _=>?_))
   refine WT_frE 2 [0,1] pk ?_
   ((repeat' first|refine aw ?_|refine bw (fun _=>?_) fun _=>?_))
   refine WT_frE 2 [0,1] h3 ?_
   ((repeat' first|refine aw ?_|refine bw (fun _=>?_) fun _=>?_))
   exact WT_eret 2 rfl rfl (by exact Uw.wW)
 ·rw [if_neg h0]
  by_cases h1:hd (l.drop k)=sWhile
  ·have hlt:=hd_lt h1 (by decide)
   have w0:=s_parse_reader_want l k (ns.map nodL) hk hl sWhile (by decide) h1
   rw [if_pos h1,List.tail_drop]
   rw [h1] at pk
   clear h0 h1
   rcases useE ((ce l hl n n (Nat.le_refl _)).expr (k+1) ns hlt (by omega)) hlt (fun e r h=>(suf_e n).expr _ _ _ h) with h2|⟨h2,h3⟩|⟨e,k1,h2,hk1,hk1',h3⟩
   ·rw [h2];exact trivial
   ·rw [h2]
    refine SatP_by is_parse_reader_statement rfl ?_
    ((repeat' first|refine aw ?_|refine bw (fun _=>?_) fun _=>?_))
    refine WT_frE 2 [0,1] pk ?_
    ((repeat' first|refine aw ?_|refine bw (fun _=>?_) fun _=>?_))
    refine WT_frE 2 [0,1] w0 ?_
    ((repeat' first|refine aw ?_|refine bw (fun _=>?_) fun _=>?_))
    refine WT_frP 2 [0,1] h3 ?_
    intro H q
    ((repeat' first|refine aw ?_|refine bw (fun _=>?_) fun _=>?_))
    exact WT_epan rfl
   ·rw [h2]
    have hf1:(ns++e.flat ns.length).length=ns.length+e.sz:=by simp [Ex.flat_len]
    show SatO _ _ _ (outS l ns ((pBlock n (l.drop k1)).bind _))
    rcases useB ((ih n (Nat.le_refl _)).block k1 (ns++e.flat ns.length) hk1 (by omega)) hk1 (fun e r h=>(suf_s n).block _ _ _ h) with h4|⟨h4,h5⟩|⟨a,k2,h4,hk2,hk2',h5⟩
    ·rw [h4];exact trivial
    ·rw [h4]
     refine SatP_by is_parse_reader_statement rfl ?_
     ((repeat' first|refine aw ?_|refine bw (fun _=>?_) fun _=>?_))
     refine WT_frE 2 [0,1] pk ?_
     ((repeat' first|refine aw ?_|refine bw (fun _=>?_) fun _=>?_))
     refine WT_frE 2 [0,1] w0 ?_
     ((repeat' first|refine aw ?_|refine bw (fun _=>?_) fun _=>?_))
     refine WT_frE 2 [0,1] h3 ?_
     ((repeat' first|refine aw ?_|refine bw (fun _=>?_) fun _=>?_))
     refine WT_frP 2 [0,1] h5 ?_
     intro H q
     ((repeat' first|refine aw ?_|refine bw (fun _=>?_) fun _=>?_))
     exact WT_epan rfl
    ·rw [h4]
     show SatE _ _ _ _ (.d (I ((ns.length+(Stm.loop e a).sz - 1:Nat)))) (rdN l (l.length - (l.drop k2).length) (ns++(Stm.loop e a).flat ns.length))
     rw [len_drop hk2]
     have hp:=put_ok l k2 (ns++e.flat ns.length++a.all (ns++e.flat ns.length).length) (ns++(Stm.loop e a).flat ns.length) ⟨14,0,[],[],[ns.length+e.sz - 1,(ns++e.flat ns.length).length+a.sz]⟩ (by
      rw [hf1];simp [Stm.flat,Bl.all];try omega) (ns.length+(Stm.loop e a).sz - 1) (by simp [Stm.sz,Ex.flat_len,Bl.all_len];try omega) (by simp [Ex.flat_len,Bl.all_len];omega)
     have hp:SatE P0 n_parse_reader_put [.ptr 0 0,.agg [.d (I 14),.d (I 0),.d (.str []),.d (.str []),.d (.slice 1 [[I ((ns.length+e.sz - 1:Nat))],[I (((ns++e.flat ns.length).length+a.sz:Nat))]] true)]] (rdN l k2 (ns++e.flat ns.length++a.all (ns++e.flat ns.length).length)) (.d (I ((ns.length+(Stm.loop e a).sz - 1:Nat)))) (rdN l k2 (ns++(Stm.loop e a).flat ns.length)):=hp
     refine SatE_by is_parse_reader_statement rfl ?_
     ((repeat' first|refine aw ?_|refine bw (fun _=>?_) fun _=>?_))
     refine WT_frE 2 [0,1] pk ?_
     ((repeat' first|refine aw ?_|refine bw (fun _=>?_) fun _=>?_))
     refine WT_frE 2 [0,1] w0 ?_
     ((repeat' first|refine aw ?_|refine bw (fun _=>?_) fun _=>?_))
     refine WT_frE 2 [0,1] h3 ?_
     ((repeat' first|refine aw ?_|refine bw (fun _=>?_) fun _=>?_))
     refine WT_frE 2 [0,1] h5 ?_
     ((repeat' first|refine aw ?_|refine bw (fun _=>?_) fun _=>?_))
     refine WT_frE 2 [0,1] hp ?_
     ((repeat' first|refine aw ?_|refine bw (fun _=>?_) fun _=>?_))
     exact WT_eret 2 rfl rfl (by exact Uw.wW)
  ·rw [if_neg h1]
   generalize hd (l.drop k)=p at *
   unfold sIf at h0
   unfold sWhile at h1
   rcases useS (c_simple l hl n k ns hk hn) hk (fun s r h=>suf_simple h) with h2|⟨h2,h3⟩|⟨s,k1,h2,hk1,hk1',h3⟩
   ·rw [h2];exact trivial
   ·rw [h2]
    refine SatP_by is_parse_reader_statement rfl ?_
    ((repeat' first|refine aw ?_|refine bw (fun _=>?_) fun _=>?_))
    refine WT_frE 2 [0,1] pk ?_
    ((repeat' first|refine aw ?_|refine bw (fun _=>?_) fun _=>?_))
    refine WT_frP 2 [0,1] h3 ?_
    intro H q
    ((repeat' first|refine aw ?_|refine bw (fun _=>?_) fun _=>?_))
    exact WT_epan rfl
   ·rw [h2]
    show SatO _ _ _ (outS l ns ((want [59] (l.drop k1)).bind _))
    by_cases h4:hd (l.drop k1)=[59]
    ·have hlt1:=hd_lt h4 (by simp)
     have w1:=s_parse_reader_want l k1 ((ns++s.flat ns.length).map nodL) hk1 hl [59] (by simp) h4
     rw [want,if_pos h4,List.tail_drop]
     show SatE _ _ _ _ (.d (I ((ns.length+s.sz - 1:Nat)))) (rdN l (l.length - (l.drop (k1+1)).length) _)
     rw [len_drop hlt1]
     clear h4
     refine SatE_by is_parse_reader_statement rfl ?_
     ((repeat' first|refine aw ?_|refine bw (fun _=>?_) fun _=>?_))
     refine WT_frE 2 [0,1] pk ?_
     ((repeat' first|refine aw ?_|refine bw (fun _=>?_) fun _=>?_))
     refine WT_frE 2 [0,1] h3 ?_
     ((repeat' first|refine aw ?_|refine bw (fun _=>?_) fun _=>?_))
     refine WT_frE 2 [0,1] w1 ?_
     ((repeat' first|refine aw ?_|refine bw (fun _=>?_) fun _=>?_))
     exact WT_eret 2 rfl rfl (by exact Uw.wW)
    ·have w1:=p_parse_reader_want l k1 ((ns++s.flat ns.length).map nodL) hk1 hl [59] (by simp) h4
     rw [want,if_neg h4]
     clear h4
     refine SatP_by is_parse_reader_statement rfl ?_
     ((repeat' first|refine aw ?_|refine bw (fun _=>?_) fun _=>?_))
     refine WT_frE 2 [0,1] pk ?_
     ((repeat' first|refine aw ?_|refine bw (fun _=>?_) fun _=>?_))
     refine WT_frE 2 [0,1] h3 ?_
     ((repeat' first|refine aw ?_|refine bw (fun _=>?_) fun _=>?_))
     refine WT_frP 2 [0,1] w1 ?_
     intro H q
     ((repeat' first|refine aw ?_|refine bw (fun _=>?_) fun _=>?_))
     exact WT_epan rfl
theorem cs (l:List Tok) (hl:l.length<1000000):∀n,∀m,m≤n→CS l m
 | 0,m,hm=>by
  obtain rfl:m=0:=by omega
  refine ⟨?_,?_⟩
  ·intro k ns _ _;rw [pStmt];exact trivial
  ·intro k ns _ _;rw [pBlock];exact trivial
 | n+1,m,hm=>by
  have ih:=cs l hl n
  by_cases h:m≤n
  ·exact ih m h
  ·obtain rfl:m=n+1:=by omega
   exact ⟨fun k ns=>c_stmt l hl n ih k ns,fun k ns=>c_block l hl n ih k ns⟩
end Uw.Tryz
namespace Uw.Tryz
open Go Uw
def decV (d:Dec):V:=.agg [.d (I d.kind),.d (.str d.name),.d (I d.n)]
def outD (l:List Tok) (ns:List Nod) (x:R Dec):Out:=
 match x with
 | .ok d r=>.ok (decV d) (rdN l (l.length - r.length) ns)
 | .bad=>.bad
 | .out=>.out
theorem word_cases (l:List Tok) (k:Nat) (xs:List (List Dat)) (hk:k≤l.length) (hl:l.length<1000000) (K:Int) :
  (pWord K (l.drop k) = .bad∧SatP P0 n_parse_reader_word [.ptr 0 0,.d (I K)] (rd l k xs) wrongD)∨∃t,pWord K (l.drop k) = .ok t (l.drop (k+1))∧k<l.length∧SatE P0 n_parse_reader_word [.ptr 0 0,.d (I K)] (rd l k xs) (.agg ((tokL t).map V.d)) (rd l (k+1) xs):=by
 by_cases h:k<l.length
 ·have hd:l.drop k=l[k]::l.drop (k+1):=List.drop_eq_getElem_cons h
  by_cases h1:l[k].kind=K
  ·exact .inr ⟨l[k],by rw [hd,pWord,if_pos h1],h,s_parse_reader_word l k xs hk hl K h h1⟩
  ·exact .inl ⟨by rw [hd,pWord,if_neg h1],p_parse_reader_word l k xs hk hl K (fun _=>h1)⟩
 ·exact .inl ⟨by rw [List.drop_eq_nil_of_le (by omega),pWord],p_parse_reader_word l k xs hk hl K (fun h'=>absurd h' h)⟩
def pDeclT (k:Int) (s:Str) (r:List Tok):R Dec:=(if k=0∧hd r=[61] then (pWord 2 r.tail).bind fun t r=>R.ok t.n r else .ok 0 r).bind fun v r=>(want [59] r).bind fun _ r=>.ok ⟨k,s,v⟩ r
theorem c_decl (l:List Tok) (hl:l.length<1000000) (k:Nat) (ns:List Nod) (hk:k≤l.length):SatO n_parse_reader_decl [.ptr 0 0] (rdN l k ns) (outD l ns (pDecl (l.drop k))):=by
 rw [pDecl]
 rcases word_cases l k (ns.map nodL) hk hl 1 with ⟨h1,h2⟩|⟨t,h1,hlt,h2⟩
 ·rw [h1]
  refine SatP_by is_parse_reader_decl rfl ?_
  ((repeat' first|refine aw ?_|refine bw (fun _=>?_) fun _=>?_))
  refine WT_frP 4 [0,1] h2 ?_
  intro H q
  ((repeat' first|refine aw ?_|refine bw (fun _=>?_) fun _=>?_))
  exact WT_epan rfl
 ·rw [h1]
  obtain ⟨kind,text,num,place⟩:=t
  show SatO _ _ _ (outD l ns (match kindOf text with|none=>R.bad|some K=>(pName (l.drop (k+1))).bind fun s r=>pDeclT K s r))
  rw [kindOf]
  by_cases c0:text=sCell
  ·subst c0
   show SatO _ _ _ (outD l ns ((pName (l.drop (k+1))).bind fun s r=>pDeclT 0 s r))
   rcases name_cases l (k+1) (ns.map nodL) hlt hl with ⟨h3,h4⟩|⟨s,h3,hlt2,h4⟩
   ·rw [h3]
    refine SatP_by is_parse_reader_decl rfl ?_
    ((repeat' first|refine aw ?_|refine bw (fun _=>?_) fun _=>?_))
    refine WT_frE 4 [0,1] h2 ?_
    ((repeat' first|refine aw ?_|refine bw (fun _=>?_) fun _=>?_))
    refine WT_frP 4 [0,1] h4 ?_
    intro H q
    ((repeat' first|refine aw ?_|refine bw (fun _=>?_) fun _=>?_))
    exact WT_epan rfl
   ·rw [h3]
    show SatO _ _ _ (outD l ns (pDeclT 0 s (l.drop (k+1+1))))
    rw [pDeclT]
    have hv:=s_parse_reader_have l (k+1+1) (ns.map nodL) hlt2 hl [61] (by simp)
    by_cases h5:hd (l.drop (k+1+1))=[61]
    ·have hlt3:=hd_lt h5 (by simp)
     rw [if_pos h5,decide_eq_true h5] at hv
     rw [if_pos ⟨rfl,h5⟩,List.tail_drop]
     clear h5
     rcases word_cases l (k+1+1+1) (ns.map nodL) hlt3 hl 2 with ⟨h6,h7⟩|⟨t,h6,hlt4,h7⟩
     ·rw [h6]
      refine SatP_by is_parse_reader_decl rfl ?_
      ((repeat' first|refine aw ?_|refine bw (fun _=>?_) fun _=>?_))
      refine WT_frE 4 [0,1] h2 ?_
      ((repeat' first|refine aw ?_|refine bw (fun _=>?_) fun _=>?_))
      refine WT_frE 4 [0,1] h4 ?_
      ((repeat' first|refine aw ?_|refine bw (fun _=>?_) fun _=>?_))
      refine WT_frE 4 [0,1] hv ?_
      ((repeat' first|refine aw ?_|refine bw (fun _=>?_) fun _=>?_))
      refine WT_frP 4 [0,1] h7 ?_
      intro H q
      ((repeat' first|refine aw ?_|refine bw (fun _=>?_) fun _=>?_))
      exact WT_epan rfl
     ·rw [h6]
      obtain ⟨k2,x2,n2,p2⟩:=t
      show SatO _ _ _ (outD l ns ((want [59] (l.drop (k+1+1+1+1))).bind fun _ r=>R.ok ⟨0,s,n2⟩ r))
      by_cases hs:hd (l.drop (k+1+1+1+1))=[59]
      ·have hlt9:=hd_lt hs (by simp)
       have w9:=s_parse_reader_want l (k+1+1+1+1) (ns.map nodL) (by omega) hl [59] (by simp) hs
       rw [want,if_pos hs,List.tail_drop]
       show SatE _ _ _ _ (decV ⟨0,s,n2⟩) (rdN l (l.length - (l.drop (k+1+1+1+1+1)).length) ns)
       rw [len_drop (by omega)]
       clear hs
       refine SatE_by is_parse_reader_decl rfl ?_
       ((repeat' first|refine aw ?_|refine bw (fun _=>?_) fun _=>?_))
       refine WT_frE 4 [0,1] h2 ?_
       ((repeat' first|refine aw ?_|refine bw (fun _=>?_) fun _=>?_))
       refine WT_frE 4 [0,1] h4 ?_
       ((repeat' first|refine aw ?_|refine bw (fun _=>?_) fun _=>?_))
       refine WT_frE 4 [0,1] hv ?_
       ((repeat' first|refine aw ?_|refine bw (fun _=>?_) fun _=>?_))
       refine WT_frE 4 [0,1] h7 ?_
       ((repeat' first|refine aw ?_|refine bw (fun _=>?_) fun _=>?_))
       refine WT_frE 4 [0,1] w9 ?_
       ((repeat' first|refine aw ?_|refine bw (fun _=>?_) fun _=>?_))
       exact WT_eret 2 rfl rfl (by exact Uw.wW)
      ·have w9:=p_parse_reader_want l (k+1+1+1+1) (ns.map nodL) (by omega) hl [59] (by simp) hs
       rw [want,if_neg hs]
       clear hs
       refine SatP_by is_parse_reader_decl rfl ?_
       ((repeat' first|refine aw ?_|refine bw (fun _=>?_) fun _=>?_))
       refine WT_frE 4 [0,1] h2 ?_
       ((repeat' first|refine aw ?_|refine bw (fun _=>?_) fun _=>?_))
       refine WT_frE 4 [0,1] h4 ?_
       ((repeat' first|refine aw ?_|refine bw (fun _=>?_) fun _=>?_))
       refine WT_frE 4 [0,1] hv ?_
       ((repeat' first|refine aw ?_|refine bw (fun _=>?_) fun _=>?_))
       refine WT_frE 4 [0,1] h7 ?_
       ((repeat' first|refine aw ?_|refine bw (fun _=>?_) fun _=>?_))
       refine WT_frP 4 [0,1] w9 ?_
       intro H q
       ((repeat' first|refine aw ?_|refine bw (fun _=>?_) fun _=>?_))
       exact WT_epan rfl
    ·rw [if_neg h5,decide_eq_false h5] at hv
     rw [if_neg (fun h=>h5 h.2)]
     clear h5
     show SatO _ _ _ (outD l ns ((want [59] (l.drop (k+1+1))).bind fun _ r=>R.ok ⟨0,s,0⟩ r))
     by_cases hs:hd (l.drop (k+1+1))=[59]
     ·have hlt9:=hd_lt hs (by simp)
      have w9:=s_parse_reader_want l (k+1+1) (ns.map nodL) (by omega) hl [59] (by simp) hs
      rw [want,if_pos hs,List.tail_drop]
      show SatE _ _ _ _ (decV ⟨0,s,0⟩) (rdN l (l.length - (l.drop (k+1+1+1)).length) ns)
      rw [len_drop (by omega)]
      clear hs
      refine SatE_by is_parse_reader_decl rfl ?_
      ((repeat' first|refine aw ?_|refine bw (fun _=>?_) fun _=>?_))
      refine WT_frE 4 [0,1] h2 ?_
      ((repeat' first|refine aw ?_|refine bw (fun _=>?_) fun _=>?_))
      refine WT_frE 4 [0,1] h4 ?_
      ((repeat' first|refine aw ?_|refine bw (fun _=>?_) fun _=>?_))
      refine WT_frE 4 [0,1] hv ?_
      ((repeat' first|refine aw ?_|refine bw (fun _=>?_) fun _=>?_))
      refine WT_frE 4 [0,1] w9 ?_
      ((repeat' first|refine aw ?_|refine bw (fun _=>?_) fun _=>?_))
      exact WT_eret 2 rfl rfl (by exact Uw.wW)
     ·have w9:=p_parse_reader_want l (k+1+1) (ns.map nodL) (by omega) hl [59] (by simp) hs
      rw [want,if_neg hs]
      clear hs
      refine SatP_by is_parse_reader_decl rfl ?_
      ((repeat' first|refine aw ?_|refine bw (fun _=>?_) fun _=>?_))
      refine WT_frE 4 [0,1] h2 ?_
      ((repeat' first|refine aw ?_|refine bw (fun _=>?_) fun _=>?_))
      refine WT_frE 4 [0,1] h4 ?_
      ((repeat' first|refine aw ?_|refine bw (fun _=>?_) fun _=>?_))
      refine WT_frE 4 [0,1] hv ?_
      ((repeat' first|refine aw ?_|refine bw (fun _=>?_) fun _=>?_))
      refine WT_frP 4 [0,1] w9 ?_
      intro H q
      ((repeat' first|refine aw ?_|refine bw (fun _=>?_) fun _=>?_))
      exact WT_epan rfl
  ·by_cases c1:text=sMap
   ·subst c1
    show SatO _ _ _ (outD l ns ((pName (l.drop (k+1))).bind fun s r=>pDeclT 1 s r))
    clear c0
    rcases name_cases l (k+1) (ns.map nodL) hlt hl with ⟨h3,h4⟩|⟨s,h3,hlt2,h4⟩
    ·rw [h3]
     refine SatP_by is_parse_reader_decl rfl ?_
     ((repeat' first|refine aw ?_|refine bw (fun _=>?_) fun _=>?_))
     refine WT_frE 4 [0,1] h2 ?_
     ((repeat' first|refine aw ?_|refine bw (fun _=>?_) fun _=>?_))
     refine WT_frP 4 [0,1] h4 ?_
     intro H q
     ((repeat' first|refine aw ?_|refine bw (fun _=>?_) fun _=>?_))
     exact WT_epan rfl
    ·rw [h3]
     show SatO _ _ _ (outD l ns (pDeclT 1 s (l.drop (k+1+1))))
     rw [pDeclT]
     rw [if_neg (fun h=>by have:=h.1;omega)]
     show SatO _ _ _ (outD l ns ((want [59] (l.drop (k+1+1))).bind fun _ r=>R.ok ⟨1,s,0⟩ r))
     by_cases hs:hd (l.drop (k+1+1))=[59]
     ·have hlt9:=hd_lt hs (by simp)
      have w9:=s_parse_reader_want l (k+1+1) (ns.map nodL) (by omega) hl [59] (by simp) hs
      rw [want,if_pos hs,List.tail_drop]
      show SatE _ _ _ _ (decV ⟨1,s,0⟩) (rdN l (l.length - (l.drop (k+1+1+1)).length) ns)
      rw [len_drop (by omega)]
      clear hs
      refine SatE_by is_parse_reader_decl rfl ?_
      ((repeat' first|refine aw ?_|refine bw (fun _=>?_) fun _=>?_))
      refine WT_frE 4 [0,1] h2 ?_
      ((repeat' first|refine aw ?_|refine bw (fun _=>?_) fun _=>?_))
      refine WT_frE 4 [0,1] h4 ?_
      ((repeat' first|refine aw ?_|refine bw (fun _=>?_) fun _=>?_))
      refine WT_frE 4 [0,1] w9 ?_
      ((repeat' first|refine aw ?_|refine bw (fun _=>?_) fun _=>?_))
      exact WT_eret 2 rfl rfl (by exact Uw.wW)
     ·have w9:=p_parse_reader_want l (k+1+1) (ns.map nodL) (by omega) hl [59] (by simp) hs
      rw [want,if_neg hs]
      clear hs
      refine SatP_by is_parse_reader_decl rfl ?_
      ((repeat' first|refine aw ?_|refine bw (fun _=>?_) fun _=>?_))
      refine WT_frE 4 [0,1] h2 ?_
      ((repeat' first|refine aw ?_|refine bw (fun _=>?_) fun _=>?_))
      refine WT_frE 4 [0,1] h4 ?_
      ((repeat' first|refine aw ?_|refine bw (fun _=>?_) fun _=>?_))
      refine WT_frP 4 [0,1] w9 ?_
      intro H q
      ((repeat' first|refine aw ?_|refine bw (fun _=>?_) fun _=>?_))
      exact WT_epan rfl
   ·by_cases c2:text=sStack
    ·subst c2
     show SatO _ _ _ (outD l ns ((pName (l.drop (k+1))).bind fun s r=>pDeclT 2 s r))
     clear c0 c1
     rcases name_cases l (k+1) (ns.map nodL) hlt hl with ⟨h3,h4⟩|⟨s,h3,hlt2,h4⟩
     ·rw [h3]
      refine SatP_by is_parse_reader_decl rfl ?_
      ((repeat' first|refine aw ?_|refine bw (fun _=>?_) fun _=>?_))
      refine WT_frE 4 [0,1] h2 ?_
      ((repeat' first|refine aw ?_|refine bw (fun _=>?_) fun _=>?_))
      refine WT_frP 4 [0,1] h4 ?_
      intro H q
      ((repeat' first|refine aw ?_|refine bw (fun _=>?_) fun _=>?_))
      exact WT_epan rfl
     ·rw [h3]
      show SatO _ _ _ (outD l ns (pDeclT 2 s (l.drop (k+1+1))))
      rw [pDeclT]
      rw [if_neg (fun h=>by have:=h.1;omega)]
      show SatO _ _ _ (outD l ns ((want [59] (l.drop (k+1+1))).bind fun _ r=>R.ok ⟨2,s,0⟩ r))
      by_cases hs:hd (l.drop (k+1+1))=[59]
      ·have hlt9:=hd_lt hs (by simp)
       have w9:=s_parse_reader_want l (k+1+1) (ns.map nodL) (by omega) hl [59] (by simp) hs
       rw [want,if_pos hs,List.tail_drop]
       show SatE _ _ _ _ (decV ⟨2,s,0⟩) (rdN l (l.length - (l.drop (k+1+1+1)).length) ns)
       rw [len_drop (by omega)]
       clear hs
       refine SatE_by is_parse_reader_decl rfl ?_
       ((repeat' first|refine aw ?_|refine bw (fun _=>?_) fun _=>?_))
       refine WT_frE 4 [0,1] h2 ?_
       ((repeat' first|refine aw ?_|refine bw (fun _=>?_) fun _=>?_))
       refine WT_frE 4 [0,1] h4 ?_
       ((repeat' first|refine aw ?_|refine bw (fun _=>?_) fun _=>?_))
       refine WT_frE 4 [0,1] w9 ?_
       ((repeat' first|refine aw ?_|refine bw (fun _=>?_) fun _=>?_))
       exact WT_eret 2 rfl rfl (by exact Uw.wW)
      ·have w9:=p_parse_reader_want l (k+1+1) (ns.map nodL) (by omega) hl [59] (by simp) hs
       rw [want,if_neg hs]
       clear hs
       refine SatP_by is_parse_reader_decl rfl ?_
       ((repeat' first|refine aw ?_|refine bw (fun _=>?_) fun _=>?_))
       refine WT_frE 4 [0,1] h2 ?_
       ((repeat' first|refine aw ?_|refine bw (fun _=>?_) fun _=>?_))
       refine WT_frE 4 [0,1] h4 ?_
       ((repeat' first|refine aw ?_|refine bw (fun _=>?_) fun _=>?_))
       refine WT_frP 4 [0,1] w9 ?_
       intro H q
       ((repeat' first|refine aw ?_|refine bw (fun _=>?_) fun _=>?_))
       exact WT_epan rfl
    ·by_cases c3:text=sChan
     ·subst c3
      show SatO _ _ _ (outD l ns ((pName (l.drop (k+1))).bind fun s r=>pDeclT 3 s r))
      clear c0 c1 c2
      rcases name_cases l (k+1) (ns.map nodL) hlt hl with ⟨h3,h4⟩|⟨s,h3,hlt2,h4⟩
      ·rw [h3]
       refine SatP_by is_parse_reader_decl rfl ?_
       ((repeat' first|refine aw ?_|refine bw (fun _=>?_) fun _=>?_))
       refine WT_frE 4 [0,1] h2 ?_
       ((repeat' first|refine aw ?_|refine bw (fun _=>?_) fun _=>?_))
       refine WT_frP 4 [0,1] h4 ?_
       intro H q
       ((repeat' first|refine aw ?_|refine bw (fun _=>?_) fun _=>?_))
       exact WT_epan rfl
      ·rw [h3]
       show SatO _ _ _ (outD l ns (pDeclT 3 s (l.drop (k+1+1))))
       rw [pDeclT]
       rw [if_neg (fun h=>by have:=h.1;omega)]
       show SatO _ _ _ (outD l ns ((want [59] (l.drop (k+1+1))).bind fun _ r=>R.ok ⟨3,s,0⟩ r))
       by_cases hs:hd (l.drop (k+1+1))=[59]
       ·have hlt9:=hd_lt hs (by simp)
        have w9:=s_parse_reader_want l (k+1+1) (ns.map nodL) (by omega) hl [59] (by simp) hs
        rw [want,if_pos hs,List.tail_drop]
        show SatE _ _ _ _ (decV ⟨3,s,0⟩) (rdN l (l.length - (l.drop (k+1+1+1)).length) ns)
        rw [len_drop (by omega)]
        clear hs
        refine SatE_by is_parse_reader_decl rfl ?_
        ((repeat' first|refine aw ?_|refine bw (fun _=>?_) fun _=>?_))
        refine WT_frE 4 [0,1] h2 ?_
        ((repeat' first|refine aw ?_|refine bw (fun _=>?_) fun _=>?_))
        refine WT_frE 4 [0,1] h4 ?_
        ((repeat' first|refine aw ?_|refine bw (fun _=>?_) fun _=>?_))
        refine WT_frE 4 [0,1] w9 ?_
        ((repeat' first|refine aw ?_|refine bw (fun _=>?_) fun _=>?_))
        exact WT_eret 2 rfl rfl (by exact Uw.wW)
       ·have w9:=p_parse_reader_want l (k+1+1) (ns.map nodL) (by omega) hl [59] (by simp) hs
        rw [want,if_neg hs]
        clear hs
        refine SatP_by is_parse_reader_decl rfl ?_
        ((repeat' first|refine aw ?_|refine bw (fun _=>?_) fun _=>?_))
        refine WT_frE 4 [0,1] h2 ?_
        ((repeat' first|refine aw ?_|refine bw (fun _=>?_) fun _=>?_))
        refine WT_frE 4 [0,1] h4 ?_
        ((repeat' first|refine aw ?_|refine bw (fun _=>?_) fun _=>?_))
        refine WT_frP 4 [0,1] w9 ?_
        intro H q
        ((repeat' first|refine aw ?_|refine bw (fun _=>?_) fun _=>?_))
        exact WT_epan rfl
     ·rw [if_neg c0,if_neg c1,if_neg c2,if_neg c3]
      unfold sCell at c0
      unfold sMap at c1
      unfold sStack at c2
      unfold sChan at c3
      refine SatP_by is_parse_reader_decl rfl ?_
      ((repeat' first|refine aw ?_|refine bw (fun _=>?_) fun _=>?_))
      refine WT_frE 4 [0,1] h2 ?_
      ((repeat' first|refine aw ?_|refine bw (fun _=>?_) fun _=>?_))
      exact WT_epan rfl
end Uw.Tryz
namespace Uw.Tryz
open Go Uw
def rowS (ys:List Str):List (List Dat):=ys.map fun s=>[.str s]
theorem s_fun1_first (l:List Tok) (k k' : Nat) (ns:List Nod) (f p:Str) (h:SatE P0 n_parse_reader_name [.ptr 0 0] (rdN l k ns) (.d (.str p)) (rdN l k' ns)) :
  SatE P0 n_parse_reader_function_1 [.ptr 3 0,.ptr 2 0] (rdN l k ns++[.var [.ptr 0 0],.var [.d (.str f),.d .nil,.d (I 0)]]) (.tuple []) (rdN l k' ns++[.var [.ptr 0 0],.var [.d (.str f),.ref 4 0 0 (rowS [p]).length,.d (I 0)],.arr 1 (rowS [p])]):=by
 refine SatE_by is_parse_reader_function_1 rfl ?_
 refine WT_draw ⟨[],heapOf 0 (rdN l k' ns++[.var [.ptr 0 0],.var [.d (.str f),.ref 4 0 0 (rowS [p]).length,.d (I 0)],.arr 1 (rowS [p])]),5,[],4⟩ ?_ ?_
 ·((repeat' first|refine aw ?_|refine bw (fun _=>?_) fun _=>?_))
  refine WT_frE 4 [0,1] h ?_
  ((repeat' first|refine aw ?_|refine bw (fun _=>?_) fun _=>?_))
  exact WT_done (.inl ⟨rfl,by exact Uw.wW⟩)
 ·((repeat' first|refine aw ?_|refine bw (fun _=>?_) fun _=>?_))
  exact WT_eend 4 rfl rfl (by exact Uw.wW)
theorem s_fun1_next (l:List Tok) (k k' : Nat) (ns:List Nod) (f p:Str) (ys:List Str) (hy:ys.length<1000000) (h:SatE P0 n_parse_reader_name [.ptr 0 0] (rdN l k ns) (.d (.str p)) (rdN l k' ns)) :
  SatE P0 n_parse_reader_function_1 [.ptr 3 0,.ptr 2 0] (rdN l k ns++[.var [.ptr 0 0],.var [.d (.str f),.ref 4 0 0 (rowS ys).length,.d (I 0)],.arr 1 (rowS ys)]) (.tuple []) (rdN l k' ns++[.var [.ptr 0 0],.var [.d (.str f),.ref 4 0 0 (rowS (ys++[p])).length,.d (I 0)],.arr 1 (rowS (ys++[p]))]):=by
 have e:rowS (ys++[p])=rowS ys++[[.str p]]:=by simp [rowS]
 have hy' : (rowS ys).length<1000000:=by simpa [rowS] using hy
 rw [e]
 generalize rowS ys=zs at *
 refine SatE_by is_parse_reader_function_1 rfl ?_
 refine WT_draw ⟨[],heapOf 0 (rdN l k' ns++[.var [.ptr 0 0],.var [.d (.str f),.ref 4 0 0 (zs++[[Dat.str p]]).length,.d (I 0)],.arr 1 (zs++[[.str p]])]),5,[],5⟩ ?_ ?_
 ·((repeat' first|refine aw ?_|refine bw (fun _=>?_) fun _=>?_))
  refine WT_frE 5 [0,1] h ?_
  ((repeat' first|refine aw ?_|refine bw (fun _=>?_) fun _=>?_))
  exact WT_done (.inl ⟨rfl,by exact Uw.wW⟩)
 ·((repeat' first|refine aw ?_|refine bw (fun _=>?_) fun _=>?_))
  exact WT_eend 5 rfl rfl (by exact Uw.wW)
theorem p_fun1_first (l:List Tok) (k:Nat) (ns:List Nod) (f:Str) (h:SatP P0 n_parse_reader_name [.ptr 0 0] (rdN l k ns) wrongD) :
  SatP P0 n_parse_reader_function_1 [.ptr 3 0,.ptr 2 0] (rdN l k ns++[.var [.ptr 0 0],.var [.d (.str f),.d .nil,.d (I 0)]]) wrongD:=by
 refine SatP_by is_parse_reader_function_1 rfl ?_
 refine WT_drawP ?_
 ((repeat' first|refine aw ?_|refine bw (fun _=>?_) fun _=>?_))
 refine WT_frP 4 [0,1] h ?_
 intro H n
 ((repeat' first|refine aw ?_|refine bw (fun _=>?_) fun _=>?_))
 exact WT_done ⟨wrongD,rfl,WT_epan rfl⟩
theorem p_fun1_next (l:List Tok) (k:Nat) (ns:List Nod) (f:Str) (ys:List Str) (h:SatP P0 n_parse_reader_name [.ptr 0 0] (rdN l k ns) wrongD) :
  SatP P0 n_parse_reader_function_1 [.ptr 3 0,.ptr 2 0] (rdN l k ns++[.var [.ptr 0 0],.var [.d (.str f),.ref 4 0 0 (rowS ys).length,.d (I 0)],.arr 1 (rowS ys)]) wrongD:=by
 generalize rowS ys=zs at *
 refine SatP_by is_parse_reader_function_1 rfl ?_
 refine WT_drawP ?_
 ((repeat' first|refine aw ?_|refine bw (fun _=>?_) fun _=>?_))
 refine WT_frP 5 [0,1] h ?_
 intro H n
 ((repeat' first|refine aw ?_|refine bw (fun _=>?_) fun _=>?_))
 exact WT_done ⟨wrongD,rfl,WT_epan rfl⟩
end Uw.Tryz
namespace Uw.Tryz
open Go Uw
def strsD (ys:List Str):Dat:=if ys=[] then .nil else .slice 1 (rowS ys) false
def outF (l:List Tok) (ns:List Nod) (x:R Fn):Out:=
 match x with
 | .ok f r=>.ok (.agg [.d (.str f.name),.d (strsD f.args),.d (I ((ns.length+f.body.sz:Nat)))]) (rdN l (l.length - r.length) (ns++f.body.all ns.length))
 | .bad=>.bad
 | .out=>.out
theorem suf_namesT:∀(n:Nat) (r:List Tok) (x:List Str) (r' : List Tok),pNamesT n r = .ok x r'→Suf r r' (x.length+1)
 | 0,_,_,_,h=>by rw [pNamesT] at h;cases h
 | n+1,r,x,r',h=>by
  rw [pNamesT] at h
  split at h
  ·rename_i hh
   obtain ⟨s,r2,h2,h⟩:=bind_ok.1 h
   obtain ⟨ss,r3,h3,h⟩:=bind_ok.1 h
   injection h with h4 h5
   subst h4 h5
   exact ((Suf.hd hh (by simp)).trans ((Suf.name h2).trans (suf_namesT n _ _ _ h3))).le (by simp;omega)
  ·obtain ⟨_,r1,h1,h⟩:=bind_ok.1 h
   injection h with h4 h5
   subst h4 h5
   exact (Suf.want (by simp) h1).le (by simp)
end Uw.Tryz
namespace Uw.Tryz
open Go Uw
theorem WT_oend (b:Nat) {res:List MRes} {x:Out} {v:V} {bs' : List Blk} {vs' : List V} {st:St} (hx:x = .ok v bs') (hd:st.defers=[]) (hr:resV st res=some vs') (hw:Weak ⟨[(0,packV vs')],st.heap,st.next,[],b⟩ ⟨[(0,v)],heapOf 0 bs',bs'.length,[],b⟩):WT P0 (OQ b res x) (.done .normal st):=by
 subst hx;exact WT_eend b hd hr hw
def fnB (f:Str) (v:V):List Blk:=[.var [.ptr 0 0],.var [.d (.str f),v,.d (I 0)]]
def outN (l:List Tok) (ns:List Nod) (f:Str) (x:R (List Str)):Out:=
 match x with
 | .ok ar r=>.ok (.tuple []) (rdN l (l.length - r.length) ns++fnB f (.d (strsD ar)))
 | .bad=>.bad
 | .out=>.out
theorem outN_ne {l:List Tok} {ns:List Nod} {f:Str} {x:R (List Str)} (h:x≠R.out):outN l ns f x≠Out.out:=by
 cases x with
 | out=>exact absurd rfl h
 | bad=>intro h;cases h
 | ok e r=>intro h;cases h
theorem c_names (l:List Tok) (hl:l.length<1000000) (n:Nat) (k:Nat) (ns:List Nod) (f:Str) (hk:k≤l.length) (hn:ns.length≤k):SatO n_parse_reader_row [.ptr 0 0,.func n_parse_reader_function_1 [] [.ptr 3 0,.ptr 2 0]] (rdN l k ns++fnB f (.d .nil)) (outN l ns f (pNames n (l.drop k))):=by
 rw [pNames]
 by_cases h3:hd (l.drop k)=[40]
 rotate_left
 ·have w1:=p_parse_reader_want l k (ns.map nodL) hk hl [40] (by simp) h3
  rw [want,if_neg h3]
  clear h3
  refine SatP_by is_parse_reader_row rfl ?_
  ((repeat' first|refine aw ?_|refine bw (fun _=>?_) fun _=>?_))
  refine WT_frP 4 [0,1] w1 ?_
  intro H q
  ((repeat' first|refine aw ?_|refine bw (fun _=>?_) fun _=>?_))
  exact WT_epan rfl
 have hlt2:=hd_lt h3 (by simp)
 have w1:=s_parse_reader_want l k (ns.map nodL) hk hl [40] (by simp) h3
 have hv:=s_parse_reader_have l (k+1) (ns.map nodL) hlt2 hl [41] (by simp)
 rw [want,if_pos h3,List.tail_drop]
 clear h3
 show SatO _ _ _ (outN l ns f (if hd (l.drop (k+1))=[41] then R.ok [] (l.drop (k+1)).tail else _))
 by_cases h4:hd (l.drop (k+1))=[41]
 ·have hlt3:=hd_lt h4 (by simp)
  rw [if_pos h4,List.tail_drop]
  rw [if_pos h4,decide_eq_true h4] at hv
  clear h4
  show SatE _ _ _ _ (.tuple []) (rdN l (l.length - (l.drop (k+1+1)).length) ns++fnB f (.d .nil))
  rw [len_drop (by omega)]
  refine SatE_by is_parse_reader_row rfl ?_
  ((repeat' first|refine aw ?_|refine bw (fun _=>?_) fun _=>?_))
  refine WT_frE 4 [0,1] w1 ?_
  ((repeat' first|refine aw ?_|refine bw (fun _=>?_) fun _=>?_))
  refine WT_frE 4 [0,1] hv ?_
  ((repeat' first|refine aw ?_|refine bw (fun _=>?_) fun _=>?_))
  exact WT_eret 4 rfl rfl (by exact Uw.wW)
 rw [if_neg h4]
 rw [if_neg h4,decide_eq_false h4] at hv
 rcases name_cases l (k+1) (ns.map nodL) hlt2 hl with ⟨h5,h6⟩|⟨p,h5,hlt3,h6⟩
 ·rw [h5]
  have a1:=p_fun1_first l (k+1) ns f h6
  clear h4
  refine SatP_by is_parse_reader_row rfl ?_
  ((repeat' first|refine aw ?_|refine bw (fun _=>?_) fun _=>?_))
  refine WT_frE 4 [0,1] w1 ?_
  ((repeat' first|refine aw ?_|refine bw (fun _=>?_) fun _=>?_))
  refine WT_frE 4 [0,1] hv ?_
  ((repeat' first|refine aw ?_|refine bw (fun _=>?_) fun _=>?_))
  refine WT_frP 4 [0,1,2,3] a1 ?_
  intro H q
  ((repeat' first|refine aw ?_|refine bw (fun _=>?_) fun _=>?_))
  exact WT_epan rfl
 rw [h5]
 have a1:=s_fun1_first l (k+1) _ ns f p h6
 show SatO _ _ _ (outN l ns f ((pNamesT n (l.drop (k+1+1))).bind fun es r=>R.ok ([p]++es) r))
 generalize hR:((pNamesT n (l.drop (k+1+1))).bind fun es r=>R.ok ([p]++es) r)=Rr
 by_cases hout:Rr = .out
 ·rw [hout];exact trivial
 clear h4 h5
 refine SatO_by is_parse_reader_row rfl (outN_ne hout) ?_
 ((repeat' first|refine aw ?_|refine bw (fun _=>?_) fun _=>?_))
 refine WT_frE 4 [0,1] w1 ?_
 ((repeat' first|refine aw ?_|refine bw (fun _=>?_) fun _=>?_))
 refine WT_frE 4 [0,1] hv ?_
 ((repeat' first|refine aw ?_|refine bw (fun _=>?_) fun _=>?_))
 refine WT_frE 4 [0,1,2,3] a1 ?_
 ((repeat' first|refine aw ?_|refine bw (fun _=>?_) fun _=>?_))
 refine WT_loop (fun ((d,k1,m):List Str×Nat×Nat)=>⟨[(0,.ptr 0 0),(1,V.func n_parse_reader_function_1 [] [V.ptr 3 0,V.ptr 2 0])],heapOf 0 (rdN l k1 ns++[.var [.ptr 0 0],.var [.d (.str f),.ref 4 0 0 (rowS d).length,.d (I 0)],.arr 1 (rowS d)]),5,[],4⟩)
  (fun (d,k1,m)=>((pNamesT m (l.drop k1)).bind fun es r=>R.ok (d++es) r)=Rr∧m≤n∧k1≤l.length∧k≤k1∧d.length≤k1∧d≠[]) (fun (_,_,m)=>m) ([p],k+1+1,n) (by exact Uw.wW) ⟨hR,Nat.le_refl _,hlt3,by omega,by simp,by simp⟩ ?_
 clear hR h6 a1 w1 hv
 rintro ⟨d,k1,m⟩ ⟨hR,hm,hk1,hk2,hd1,hd0⟩
 cases m with
 | zero=>rw [pNamesT] at hR;exact absurd hR.symm hout
 | succ m=>
  rw [pNamesT] at hR
  have hv:=s_parse_reader_have l k1 (ns.map nodL) hk1 hl [44] (by simp)
  by_cases hs:hd (l.drop k1)=[44]
  ·have hlt:=hd_lt hs (by simp)
   rw [if_pos hs,List.tail_drop] at hR
   rw [if_pos hs,decide_eq_true hs] at hv
   rcases name_cases l (k1+1) (ns.map nodL) (by omega) hl with ⟨h0,h1⟩|⟨y,h0,hlt4,h1⟩
   ·rw [h0] at hR
    have hb:outN l ns f Rr = .bad:=by rw [← hR];rfl
    have a1:=p_fun1_next l (k1+1) ns f d h1
    clear hR hout hs h0 h1 hd0
    ((repeat' first|refine aw ?_|refine bw (fun _=>?_) fun _=>?_))
    refine WT_frE 5 [0,1] hv ?_
    ((repeat' first|refine aw ?_|refine bw (fun _=>?_) fun _=>?_))
    refine WT_frP 5 [0,1,2,3,4] a1 ?_
    intro h q
    ((repeat' first|refine aw ?_|refine bw (fun _=>?_) fun _=>?_))
    exact WT_throw (WT_opan 4 hb rfl)
   ·rw [h0] at hR
    have hR:((pNamesT m (l.drop (k1+1+1))).bind fun es r=>R.ok ((d++[y])++es) r)=Rr:=by
     rw [← hR]
     show _=R.bind (R.bind (pNamesT m (l.drop (k1+1+1))) _) _
     cases pNamesT m (l.drop (k1+1+1)) with
     | ok es r=>show R.ok (d++[y]++es) r=R.ok (d++(y::es)) r;rw [List.append_assoc];rfl
     | bad=>rfl
     | out=>rfl
    have a1:=s_fun1_next l (k1+1) _ ns f y d (by omega) h1
    have hd2:(d++[y])≠[]:=by simp
    clear hout hs h0 h1 hd0
    ((repeat' first|refine aw ?_|refine bw (fun _=>?_) fun _=>?_))
    refine WT_frE 5 [0,1] hv ?_
    ((repeat' first|refine aw ?_|refine bw (fun _=>?_) fun _=>?_))
    refine WT_frE 5 [0,1,2,3,4] a1 ?_
    ((repeat' first|refine aw ?_|refine bw (fun _=>?_) fun _=>?_))
    exact WT_again (d++[y],k1+1+1,m) ⟨hR,by omega,hlt4,by omega,by simp;omega,hd2⟩ (by simp only;omega) (by exact Uw.wW)
  ·rw [if_neg hs] at hR
   rw [if_neg hs,decide_eq_false hs] at hv
   by_cases hw:hd (l.drop k1)=[41]
   ·have hlt:=hd_lt hw (by simp)
    have w1:=s_parse_reader_want l k1 (ns.map nodL) hk1 hl [41] (by simp) hw
    rw [want,if_pos hw,List.tail_drop] at hR
    have hR:R.ok (d++[]) (l.drop (k1+1))=Rr:=hR
    rw [List.append_nil] at hR
    have hfz:((rowS d).drop 0).take (rowS d).length=rowS d:=by simp
    have hb:outN l ns f Rr = .ok (.tuple []) (rdN l (k1+1) ns++fnB f (.d (.slice 1 (rowS d) false))):=by
     rw [← hR]
     show Out.ok _ (rdN l (l.length - (l.drop (k1+1)).length) _++fnB f (.d (strsD d)))=_
     rw [len_drop (by omega)]
     unfold strsD
     rw [if_neg hd0]
    clear hR hout hs hw hd0
    ((repeat' first|refine aw ?_|refine bw (fun _=>?_) fun _=>?_))
    refine WT_frE 5 [0,1] hv ?_
    ((repeat' first|refine aw ?_|refine bw (fun _=>?_) fun _=>?_))
    refine WT_break ?_
    refine WT_frE 5 [0,1] w1 ?_
    ((repeat' first|refine aw ?_|refine bw (fun _=>?_) fun _=>?_))
    exact WT_oend 4 hb rfl rfl (by exact Uw.wW)
   ·have w1:=p_parse_reader_want l k1 (ns.map nodL) hk1 hl [41] (by simp) hw
    have hb:outN l ns f Rr = .bad:=by
     rw [want,if_neg hw] at hR;rw [← hR];rfl
    clear hR hout hs hw hd0
    ((repeat' first|refine aw ?_|refine bw (fun _=>?_) fun _=>?_))
    refine WT_frE 5 [0,1] hv ?_
    ((repeat' first|refine aw ?_|refine bw (fun _=>?_) fun _=>?_))
    refine WT_break ?_
    refine WT_frP 5 [0,1] w1 ?_
    intro h q
    ((repeat' first|refine aw ?_|refine bw (fun _=>?_) fun _=>?_))
    exact WT_opan 4 hb rfl
end Uw.Tryz
namespace Uw.Tryz
open Go Uw
theorem useN {f:Str} {vs:List V} {g:FuncId} {l:List Tok} {k:Nat} {ns:List Nod} {bs:List Blk} {x:R (List Str)} (h:SatO g vs bs (outN l ns f x)) (hk:k≤l.length) (hs:∀e r,x = .ok e r→Suf (l.drop k) r 0) :
  x = .out∨(x = .bad∧SatP P0 g vs bs wrongD)∨∃e k',x = .ok e (l.drop k')∧k'≤l.length∧k≤k'∧SatE P0 g vs bs (.tuple []) (rdN l k' ns++fnB f (.d (strsD e))):=by
 cases x with
 | out=>exact .inl rfl
 | bad=>exact .inr (.inl ⟨rfl,h⟩)
 | ok e r=>
  obtain ⟨k',h1,rfl,h2⟩:=suf_at (hs e r rfl) hk
  refine .inr (.inr ⟨e,k',rfl,h1,h2,?_⟩)
  have h:SatE P0 g vs bs (.tuple []) (rdN l (l.length - (l.drop k').length) ns++fnB f (.d (strsD e))):=h
  rw [len_drop h1] at h
  exact h
theorem suf_names {n:Nat} {r r' : List Tok} {x:List Str} (h:pNames n r = .ok x r'):Suf r r' 0:=by
 rw [pNames] at h
 obtain ⟨_,r1,h1,h⟩:=bind_ok.1 h
 have s1:=Suf.want (by simp) h1
 split at h
 ·rename_i hh
  injection h with _ h
  subst h
  exact (s1.trans (Suf.hd hh (by simp))).le (Nat.zero_le _)
 ·obtain ⟨s,r2,h2,h⟩:=bind_ok.1 h
  obtain ⟨ss,r3,h3,h⟩:=bind_ok.1 h
  injection h with _ h
  subst h
  exact (s1.trans ((Suf.name h2).trans (suf_namesT n _ _ _ h3))).le (Nat.zero_le _)
theorem c_fun (l:List Tok) (hl:l.length<1000000) (n:Nat) (k:Nat) (ns:List Nod) (hk:k≤l.length) (hn:ns.length≤k):SatO n_parse_reader_function [.ptr 0 0] (rdN l k ns) (outF l ns (pFun n (l.drop k))):=by
 rw [pFun]
 by_cases h0:hd (l.drop k)=sFunc
 rotate_left
 ·rw [want,if_neg h0]
  have w0:=p_parse_reader_want l k (ns.map nodL) hk hl sFunc (by decide) h0
  clear h0
  refine SatP_by is_parse_reader_function rfl ?_
  ((repeat' first|refine aw ?_|refine bw (fun _=>?_) fun _=>?_))
  refine WT_frP 4 [0,1] w0 ?_
  intro H q
  ((repeat' first|refine aw ?_|refine bw (fun _=>?_) fun _=>?_))
  exact WT_epan rfl
 have hlt:=hd_lt h0 (by decide)
 have w0:=s_parse_reader_want l k (ns.map nodL) hk hl sFunc (by decide) h0
 rw [want,if_pos h0,List.tail_drop]
 clear h0
 show SatO _ _ _ (outF l ns ((pName (l.drop (k+1))).bind _))
 rcases name_cases l (k+1) (ns.map nodL) hlt hl with ⟨h1,h2⟩|⟨f,h1,hlt1,h2⟩
 ·rw [h1]
  refine SatP_by is_parse_reader_function rfl ?_
  ((repeat' first|refine aw ?_|refine bw (fun _=>?_) fun _=>?_))
  refine WT_frE 4 [0,1] w0 ?_
  ((repeat' first|refine aw ?_|refine bw (fun _=>?_) fun _=>?_))
  refine WT_frP 4 [0,1] h2 ?_
  intro H q
  ((repeat' first|refine aw ?_|refine bw (fun _=>?_) fun _=>?_))
  exact WT_epan rfl
 rw [h1]
 show SatO _ _ _ (outF l ns ((pNames n (l.drop (k+1+1))).bind fun ar r=>(pBlock n r).bind fun b r=>.ok ⟨f,ar,b⟩ r))
 rcases useN (c_names l hl n (k+1+1) ns f hlt1 (by omega)) hlt1 (fun e r h=>suf_names h) with h3|⟨h3,h4⟩|⟨ar,k2,h3,hk2,hk2',h4⟩
 ·rw [h3];exact trivial
 ·rw [h3]
  refine SatP_by is_parse_reader_function rfl ?_
  ((repeat' first|refine aw ?_|refine bw (fun _=>?_) fun _=>?_))
  refine WT_frE 4 [0,1] w0 ?_
  ((repeat' first|refine aw ?_|refine bw (fun _=>?_) fun _=>?_))
  refine WT_frE 4 [0,1] h2 ?_
  ((repeat' first|refine aw ?_|refine bw (fun _=>?_) fun _=>?_))
  refine WT_frP 5 [0,1,2,4] h4 ?_
  intro H q
  ((repeat' first|refine aw ?_|refine bw (fun _=>?_) fun _=>?_))
  exact WT_epan rfl
 rw [h3]
 show SatO _ _ _ (outF l ns ((pBlock n (l.drop k2)).bind fun b r=>.ok ⟨f,ar,b⟩ r))
 rcases useB ((cs l hl n n (Nat.le_refl _)).block k2 ns hk2 (by omega)) hk2 (fun e r h=>(suf_s n).block _ _ _ h) with h5|⟨h5,h6⟩|⟨b,k3,h5,hk3,hk3',h6⟩
 ·rw [h5];exact trivial
 ·rw [h5]
  refine SatP_by is_parse_reader_function rfl ?_
  ((repeat' first|refine aw ?_|refine bw (fun _=>?_) fun _=>?_))
  refine WT_frE 4 [0,1] w0 ?_
  ((repeat' first|refine aw ?_|refine bw (fun _=>?_) fun _=>?_))
  refine WT_frE 4 [0,1] h2 ?_
  ((repeat' first|refine aw ?_|refine bw (fun _=>?_) fun _=>?_))
  refine WT_frE 5 [0,1,2,4] h4 ?_
  ((repeat' first|refine aw ?_|refine bw (fun _=>?_) fun _=>?_))
  refine WT_frP 5 [0,1] h6 ?_
  intro h q
  ((repeat' first|refine aw ?_|refine bw (fun _=>?_) fun _=>?_))
  exact WT_epan rfl
 rw [h5]
 show SatE _ _ _ _ (.agg [.d (.str f),.d (strsD ar),.d (I ((ns.length+b.sz:Nat)))]) (rdN l (l.length - (l.drop k3).length) (ns++b.all ns.length))
 rw [len_drop hk3]
 have hz:strsD ar = .nil∨strsD ar = .slice 1 (rowS ar) false:=by
  unfold strsD
  split
  ·exact .inl rfl
  ·exact .inr rfl
 rcases hz with e|e
 all_goals rw [e] at h4 ⊢
 all_goals refine SatE_by is_parse_reader_function rfl ?_
 all_goals ((repeat' first|refine aw ?_|refine bw (fun _=>?_) fun _=>?_))
 all_goals refine WT_frE 4 [0,1] w0 ?_
 all_goals ((repeat' first|refine aw ?_|refine bw (fun _=>?_) fun _=>?_))
 all_goals refine WT_frE 4 [0,1] h2 ?_
 all_goals ((repeat' first|refine aw ?_|refine bw (fun _=>?_) fun _=>?_))
 all_goals refine WT_frE 5 [0,1,2,4] h4 ?_
 all_goals ((repeat' first|refine aw ?_|refine bw (fun _=>?_) fun _=>?_))
 all_goals refine WT_frE 5 [0,1] h6 ?_
 all_goals ((repeat' first|refine aw ?_|refine bw (fun _=>?_) fun _=>?_))
 all_goals exact WT_eret 2 rfl rfl (by exact Uw.wW)
end Uw.Tryz
namespace Uw.Tryz
open Go Uw
def frows:List Fn→Nat→List (List Dat)
 | [],_=>[]
 | f::fs,b=>[.str f.name,strsD f.args,I ((b+f.body.sz:Nat))]::frows fs (b+f.sz)
theorem frows_app:∀(a c:List Fn) (b:Nat),frows (a++c) b=frows a b++frows c (b+sizeF a)
 | [],c,b=>by simp [frows,sizeF]
 | f::fs,c,b=>by simp [frows,sizeF,frows_app fs,Nat.add_assoc]
theorem frows_len:∀(a:List Fn) (b:Nat),(frows a b).length=a.length
 | [],b=>rfl
 | f::fs,b=>by simp [frows,frows_len fs]
def outP (l:List Tok) (x:R (List Dec×List Fn)):Out:=
 match x with
 | .ok (ds,fs) _=>.ok (.agg [.d (.slice 3 (ds.map decL) false),.d (.slice 3 (frows fs 0) false),.d (.slice 5 ((nodesF fs 0).map nodL) false)]) (rdN l l.length (nodesF fs 0))
 | .bad=>.bad
 | .out=>.out
theorem outP_ne {l:List Tok} {x:R (List Dec×List Fn)} (h:x≠R.out):outP l x≠Out.out:=by
 cases x with
 | out=>exact absurd rfl h
 | bad=>intro h;cases h
 | ok e r=>intro h;cases h
theorem useD {f:FuncId} {vs:List V} {l:List Tok} {k:Nat} {ns:List Nod} {x:R Dec} (h:SatO f vs (rdN l k ns) (outD l ns x)) (hk:k≤l.length) (hs:∀e r,x = .ok e r→Suf (l.drop k) r 1) :
  x = .out∨(x = .bad∧SatP P0 f vs (rdN l k ns) wrongD)∨∃e k',x = .ok e (l.drop k')∧k'≤l.length∧k+1≤k'∧SatE P0 f vs (rdN l k ns) (decV e) (rdN l k' ns):=by
 cases x with
 | out=>exact .inl rfl
 | bad=>exact .inr (.inl ⟨rfl,h⟩)
 | ok e r=>
  obtain ⟨k',h1,rfl,h2⟩:=suf_at (hs e r rfl) hk
  refine .inr (.inr ⟨e,k',rfl,h1,h2,?_⟩)
  have h:SatE P0 f vs (rdN l k ns) (decV e) (rdN l (l.length - (l.drop k').length) ns):=h
  rw [len_drop h1] at h
  exact h
theorem useF {f:FuncId} {vs:List V} {l:List Tok} {k:Nat} {ns:List Nod} {x:R Fn} (h:SatO f vs (rdN l k ns) (outF l ns x)) (hk:k≤l.length) (hs:∀e r,x = .ok e r→Suf (l.drop k) r (e.body.sz+1)) :
  x = .out∨(x = .bad∧SatP P0 f vs (rdN l k ns) wrongD)∨∃e k',x = .ok e (l.drop k')∧k'≤l.length∧k+(e.body.sz+1)≤k'∧SatE P0 f vs (rdN l k ns) (.agg [.d (.str e.name),.d (strsD e.args),.d (I ((ns.length+e.body.sz:Nat)))]) (rdN l k' (ns++e.body.all ns.length)):=by
 cases x with
 | out=>exact .inl rfl
 | bad=>exact .inr (.inl ⟨rfl,h⟩)
 | ok e r=>
  obtain ⟨k',h1,rfl,h2⟩:=suf_at (hs e r rfl) hk
  refine .inr (.inr ⟨e,k',rfl,h1,h2,?_⟩)
  have h:SatE P0 f vs (rdN l k ns) (.agg [.d (.str e.name),.d (strsD e.args),.d (I ((ns.length+e.body.sz:Nat)))]) (rdN l (l.length - (l.drop k').length) (ns++e.body.all ns.length)):=h
  rw [len_drop h1] at h
  exact h
theorem suf_of_eats {α:Type} {d:Int} {p q:List Tok→R α} (hp:IsP d p q) (he:Eats p) {r r' : List Tok} {a:α} (h:p r = .ok a r'):Suf r r' 1:=by
 obtain ⟨c,rfl⟩:=hp.pre _ _ _ h
 have:=he _ _ _ h
 simp at this
 exact ⟨c.length,by simp,by simp,by cases c<;>simp at *⟩
theorem suf_fun {n:Nat} {r r' : List Tok} {f:Fn} (h:pFun n r = .ok f r'):Suf r r' (f.body.sz+1):=by
 rw [pFun] at h
 obtain ⟨_,r1,h1,h⟩:=bind_ok.1 h
 obtain ⟨s,r2,h2,h⟩:=bind_ok.1 h
 obtain ⟨l,r3,h3,h⟩:=bind_ok.1 h
 obtain ⟨b,r4,h4,h⟩:=bind_ok.1 h
 injection h with h h'
 subst h h'
 have:Suf r2 r3 0:=by
  obtain ⟨c,rfl⟩:=(isp_names n).pre _ _ _ h3
  exact ⟨c.length,by simp,by simp,Nat.zero_le _⟩
 exact ((Suf.want (by decide) h1).trans ((Suf.name h2).trans (this.trans ((suf_s n).block _ _ _ h4)))).le (by simp only;omega)
theorem c_prog (l:List Tok) (hl:l.length<1000000) (n:Nat):SatO n_parse_reader_program [.ptr 0 0] (rdN l 0 []) (outP l (pProg n l)):=by
 rw [pProg]
 generalize hR:((pDecls n l).bind fun d r=>(pFuns n r).bind fun f r=>R.ok (d,f) r)=Rr
 by_cases hout:Rr = .out
 ·rw [hout];exact trivial
 have hR:((pDecls n (l.drop 0)).bind fun es r=>R.ok (([]:List Dec)++es) r).bind (fun d r=>(pFuns n r).bind fun f r=>R.ok (d,f) r)=Rr:=by
  rw [← hR,List.drop_zero]
  cases pDecls n l<;>rfl
 refine SatO_by is_parse_reader_program rfl (outP_ne hout) ?_
 ((repeat' first|refine aw ?_|refine bw (fun _=>?_) fun _=>?_))
 refine WT_loop (fun ((ds,k,m):List Dec×Nat×Nat)=>⟨[(3,.ptr 3 0),(2,.ptr 2 0),(0,.ptr 0 0)],heapOf 0 (rdN l k []++[.var [.d .nil,.d .nil,.d .nil],.var [.ref 4 0 0 (ds.map decL).length,.d .nil,.d .nil],.arr 3 (ds.map decL)]),5,[],2⟩)
  (fun (ds,k,m)=>((pDecls m (l.drop k)).bind fun es r=>R.ok (ds++es) r).bind (fun d r=>(pFuns n r).bind fun f r=>R.ok (d,f) r)=Rr∧k≤l.length∧ds.length≤k) (fun (_,_,m)=>m) ([],0,n) (by exact Uw.wW) ⟨hR,Nat.zero_le _,Nat.le_refl _⟩ ?_
 clear hR
 rintro ⟨ds,k,m⟩ ⟨hR,hk,hds⟩
 have hdl:(ds.map decL).length=ds.length:=by simp
 cases m with
 | zero=>rw [pDecls] at hR;exact absurd hR.symm hout
 | succ m=>
  have pk:=s_parse_reader_peek l k (([]:List Nod).map nodL) hk
  have e1:(l.map tokL).length=l.length:=by simp
  by_cases hs:l.drop k=[]∨hd (l.drop k)=sFunc
  ·rw [pDecls,if_pos hs] at hR
   have hR:((pFuns n (l.drop k)).bind fun es r=>R.ok (([]:List Fn)++es) r).bind (fun f r=>R.ok (ds,f) r)=Rr:=by
    rw [← hR]
    show _=(pFuns n (l.drop k)).bind fun f r=>R.ok (ds++[],f) r
    rw [List.append_nil]
    cases pFuns n (l.drop k)<;>rfl
   have hcase:(k<l.length∧hd (l.drop k)=sFunc)∨¬k<l.length:=by
    by_cases hk2:k<l.length
    ·exact .inl ⟨hk2,hs.resolve_left (by intro e;have:=congrArg List.length e;simp at this;omega)⟩
    ·exact .inr hk2
   clear hs
   rcases hcase with ⟨hk0,hs2⟩|hk0
   rotate_left
   ((repeat' first|refine aw ?_|refine bw (fun _=>?_) fun _=>?_))
   refine WT_break ?_
   ((repeat' first|refine aw ?_|refine bw (fun _=>?_) fun _=>?_))
   rotate_left
   rw [hs2] at pk
   ((repeat' first|refine aw ?_|refine bw (fun _=>?_) fun _=>?_))
   refine WT_frE 5 [0,1] pk ?_
   ((repeat' first|refine aw ?_|refine bw (fun _=>?_) fun _=>?_))
   refine WT_break ?_
   ((repeat' first|refine aw ?_|refine bw (fun _=>?_) fun _=>?_))
   all_goals clear hk0
   all_goals
    refine WT_loop (fun ((fs,k,m):List Fn×Nat×Nat)=>⟨[(3,.ptr 3 0),(2,.ptr 2 0),(0,.ptr 0 0)],heapOf 0 (rdN l k (nodesF fs 0)++[.var [.d .nil,.d .nil,.d .nil],.var [.ref 4 0 0 (ds.map decL).length,.ref 5 0 0 (frows fs 0).length,.d .nil],.arr 3 (ds.map decL),.arr 3 (frows fs 0)]),6,[],2⟩)
     (fun (fs,k,m)=>((pFuns m (l.drop k)).bind fun es r=>R.ok (fs++es) r).bind (fun f r=>R.ok (ds,f) r)=Rr∧k≤l.length∧fs.length+sizeF fs≤2 * k∧sizeF fs≤k) (fun (_,_,m)=>m) ([],k,n) (by exact Uw.wW) ⟨hR,hk,by simp [sizeF],by simp [sizeF]⟩ ?_
    clear hR
    rintro ⟨fs,k,m⟩ ⟨hR,hk,hfs,hsz⟩
    have hfl:(frows fs 0).length=fs.length:=frows_len fs 0
    have hnl:(nodesF fs 0).length=sizeF fs:=nodesF_len fs 0
    cases m with
    | zero=>rw [pFuns] at hR;exact absurd hR.symm hout
    | succ m=>
     by_cases hk2:k<l.length
     ·rw [pFuns,if_neg (by intro e;have:=congrArg List.length e;simp at this;omega)] at hR
      rcases useF (c_fun l hl m k (nodesF fs 0) hk (by omega)) hk (fun e r h=>suf_fun h) with h0|⟨h0,h1⟩|⟨f,k2,h0,hk3,hk3',h1⟩
      ·rw [h0] at hR;exact absurd hR.symm hout
      ·rw [h0] at hR
       have hb:outP l Rr = .bad:=by rw [← hR];rfl
       clear hR hout h0
       ((repeat' first|refine aw ?_|refine bw (fun _=>?_) fun _=>?_))
       refine WT_drawP ?_
       ((repeat' first|refine aw ?_|refine bw (fun _=>?_) fun _=>?_))
       refine WT_frP 6 [0,1] h1 ?_
       intro H q
       ((repeat' first|refine aw ?_|refine bw (fun _=>?_) fun _=>?_))
       refine WT_done ⟨wrongD,rfl,?_⟩
       ((repeat' first|refine aw ?_|refine bw (fun _=>?_) fun _=>?_))
       exact WT_throw (WT_opan 2 hb rfl)
      ·rw [h0] at hR
       have hR:((pFuns m (l.drop k2)).bind fun es r=>R.ok ((fs++[f])++es) r).bind (fun f r=>R.ok (ds,f) r)=Rr:=by
        rw [← hR]
        show _=R.bind (R.bind (R.bind (pFuns m (l.drop k2)) _) _) _
        cases pFuns m (l.drop k2) with
        | ok es r=>show R.bind (R.ok (fs++[f]++es) r) _=R.bind (R.ok (fs++(f::es)) r) _;rw [List.append_assoc];rfl
        | bad=>rfl
        | out=>rfl
       have hsf:sizeF (fs++[f])=sizeF fs+(f.body.sz+1):=by rw [sizeF_app];simp [sizeF,Fn.sz]
       have hnn:nodesF fs 0++f.body.all (nodesF fs 0).length=nodesF (fs++[f]) 0:=by rw [nodesF_app,hnl];simp [nodesF]
       have hff:frows fs 0++[[.str f.name,strsD f.args,I (((nodesF fs 0).length+f.body.sz:Nat))]]=frows (fs++[f]) 0:=by rw [frows_app,hnl];simp [frows]
       have hfn:(frows fs 0).length+1=(frows (fs++[f]) 0).length:=by rw [frows_len,frows_len];simp
       rw [hnn] at h1
       have hz:strsD f.args = .nil∨strsD f.args = .slice 1 (rowS f.args) false:=by
        unfold strsD
        split
        ·exact .inl rfl
        ·exact .inr rfl
       clear hout h0 hnn
       rcases hz with e|e
       all_goals rw [e] at h1 hff
       all_goals ((repeat' first|refine aw ?_|refine bw (fun _=>?_) fun _=>?_))
       all_goals refine WT_draw ⟨[(3,.ptr 3 0),(2,.ptr 2 0),(0,.ptr 0 0)],heapOf 0 (rdN l k2 (nodesF (fs++[f]) 0)++[.var [.d .nil,.d .nil,.d .nil],.var [.ref 4 0 0 (ds.map decL).length,.ref 5 0 0 (frows (fs++[f]) 0).length,.d .nil],.arr 3 (ds.map decL),.arr 3 (frows (fs++[f]) 0)]),6,[],2⟩ ?_ ?_
       any_goals
        ((repeat' first|refine aw ?_|refine bw (fun _=>?_) fun _=>?_))
        refine WT_frE 6 [0,1] h1 ?_
        ((repeat' first|refine aw ?_|refine bw (fun _=>?_) fun _=>?_))
        exact WT_done (.inl ⟨rfl,by exact Uw.wW⟩)
       all_goals ((repeat' first|refine aw ?_|refine bw (fun _=>?_) fun _=>?_))
       all_goals exact WT_again (fs++[f],k2,m) ⟨hR,hk3,by rw [hsf];simp;omega,by omega⟩ (by simp only;omega) (by exact Uw.wW)
     ·rw [List.drop_eq_nil_of_le (by omega),pFuns,if_pos rfl] at hR
      have hR:R.ok (ds,fs++[]) []=Rr:=hR
      rw [List.append_nil] at hR
      have hkl:k=l.length:=by omega
      have hb:outP l Rr = .ok (.agg [.d (.slice 3 (ds.map decL) false),.d (.slice 3 (frows fs 0) false),.d (.slice 5 ((nodesF fs 0).map nodL) false)]) (rdN l l.length (nodesF fs 0)):=by rw [← hR];rfl
      have z1:((ds.map decL).drop 0).take (ds.map decL).length=ds.map decL:=by rw [List.drop_zero,List.take_length]
      have z2:((frows fs 0).drop 0).take (frows fs 0).length=frows fs 0:=by rw [List.drop_zero,List.take_length]
      have z3:(((nodesF fs 0).map nodL).drop 0).take ((nodesF fs 0).map nodL).length=(nodesF fs 0).map nodL:=by rw [List.drop_zero,List.take_length]
      clear hR hout
      subst hkl
      ((repeat' first|refine aw ?_|refine bw (fun _=>?_) fun _=>?_))
      refine WT_break ?_
      ((repeat' first|refine aw ?_|refine bw (fun _=>?_) fun _=>?_))
      exact WT_oret 2 hb rfl rfl (by exact Uw.wW)
  ·rw [pDecls,if_neg hs] at hR
   have hk2:k<l.length:=by
    rcases Nat.lt_or_ge k l.length with h|h
    ·exact h
    ·exact absurd (.inl (List.drop_eq_nil_of_le h)) hs
   have hs2:hd (l.drop k)≠sFunc:=fun h=>hs (.inr h)
   clear hs
   unfold sFunc at hs2
   rcases useD (c_decl l hl k [] hk) hk (fun e r h=>suf_of_eats isp_decl eats_decl h) with h0|⟨h0,h1⟩|⟨d,k2,h0,hk3,hk3',h1⟩
   ·exact absurd h0 (no_decl _)
   ·rw [h0] at hR
    have hb:outP l Rr = .bad:=by rw [← hR];rfl
    clear hR hout h0
    ((repeat' first|refine aw ?_|refine bw (fun _=>?_) fun _=>?_))
    refine WT_frE 5 [0,1] pk ?_
    ((repeat' first|refine aw ?_|refine bw (fun _=>?_) fun _=>?_))
    refine WT_drawP ?_
    ((repeat' first|refine aw ?_|refine bw (fun _=>?_) fun _=>?_))
    refine WT_frP 5 [0,1] h1 ?_
    intro H q
    ((repeat' first|refine aw ?_|refine bw (fun _=>?_) fun _=>?_))
    refine WT_done ⟨wrongD,rfl,?_⟩
    ((repeat' first|refine aw ?_|refine bw (fun _=>?_) fun _=>?_))
    exact WT_throw (WT_opan 2 hb rfl)
   ·rw [h0] at hR
    have hR:((pDecls m (l.drop k2)).bind fun es r=>R.ok ((ds++[d])++es) r).bind (fun d r=>(pFuns n r).bind fun f r=>R.ok (d,f) r)=Rr:=by
     rw [← hR]
     show _=R.bind (R.bind (R.bind (pDecls m (l.drop k2)) _) _) _
     cases pDecls m (l.drop k2) with
     | ok es r=>show R.bind (R.ok (ds++[d]++es) r) _=R.bind (R.ok (ds++(d::es)) r) _;rw [List.append_assoc];rfl
     | bad=>rfl
     | out=>rfl
    have hdr:ds.map decL++[decL d]=(ds++[d]).map decL:=by simp
    have hdn:(ds.map decL).length+1=((ds++[d]).map decL).length:=by simp
    clear hout h0
    ((repeat' first|refine aw ?_|refine bw (fun _=>?_) fun _=>?_))
    refine WT_frE 5 [0,1] pk ?_
    ((repeat' first|refine aw ?_|refine bw (fun _=>?_) fun _=>?_))
    refine WT_draw ⟨[(3,.ptr 3 0),(2,.ptr 2 0),(0,.ptr 0 0)],heapOf 0 (rdN l k2 []++[.var [.d .nil,.d .nil,.d .nil],.var [.ref 4 0 0 ((ds++[d]).map decL).length,.d .nil,.d .nil],.arr 3 ((ds++[d]).map decL)]),5,[],2⟩ ?_ ?_
    ·((repeat' first|refine aw ?_|refine bw (fun _=>?_) fun _=>?_))
     refine WT_frE 5 [0,1] h1 ?_
     ((repeat' first|refine aw ?_|refine bw (fun _=>?_) fun _=>?_))
     exact WT_done (.inl ⟨rfl,by exact Uw.wW⟩)
    ·((repeat' first|refine aw ?_|refine bw (fun _=>?_) fun _=>?_))
     exact WT_again (ds++[d],k2,m) ⟨hR,hk3,by simp;omega⟩ (by simp only;omega) (by exact Uw.wW)
end Uw.Tryz
namespace Uw.Tryz
open Go Uw
theorem delta_cases (s:Str):(s=[40]∧delta s=1)∨(s≠[40]∧s=[123]∧delta s=1)∨(s≠[40]∧s≠[123]∧s=[41]∧delta s = -1)∨(s≠[40]∧s≠[123]∧s≠[41]∧s=[125]∧delta s = -1)∨(s≠[40]∧s≠[123]∧s≠[41]∧s≠[125]∧delta s=0):=by
 unfold delta
 by_cases h1:s=[40]
 ·subst h1;exact .inl ⟨rfl,by decide⟩
 ·by_cases h2:s=[123]
  ·subst h2;exact .inr (.inl ⟨h1,rfl,by decide⟩)
  ·by_cases h3:s=[41]
   ·subst h3;exact .inr (.inr (.inl ⟨h1,h2,rfl,by decide⟩))
   ·by_cases h4:s=[125]
    ·subst h4;exact .inr (.inr (.inr (.inl ⟨h1,h2,h3,rfl,by decide⟩)))
    ·exact .inr (.inr (.inr (.inr ⟨h1,h2,h3,h4,by simp [h1,h2,h3,h4]⟩)))
theorem max_mm (a b:Int):max a b=mmI true a b:=rfl
theorem mm_le (a b:Int):a≤mmI true a b∧b≤mmI true a b∧(mmI true a b=a∨mmI true a b=b):=by
 rw [← max_mm];omega
theorem s_parse_Depth (l:List Tok) (hl:l.length<1000000):Ret P0 n_parse_Depth [toksD l] (I (deepT l 0 0)):=by
 have hm:(l.map tokL).length=l.length:=by simp
 generalize hD:deepT l 0 0=D
 refine Ret_by is_parse_Depth rfl ?_
 ((repeat' first|refine aw ?_|refine bw (fun _=>?_) fun _=>?_))
 refine WT_loop (fun ((j,d,m):Nat×Int×Int)=>⟨[(9,.d (I j)),(8,.d (I (↑(List.map tokL l).length))),(7,.d (toksD l)),(4,.d (I m)),(3,.d (I d))],[],0,[],0⟩)
  (fun (j,d,m)=>j≤l.length∧deepT (l.drop j) d m=D∧- (j:Int)≤d∧d≤j∧0≤m∧m≤j) (fun (j,_,_)=>l.length - j) (0,0,0) (by exact Uw.wW) ⟨Nat.zero_le _,hD,by simp,by simp,by simp,by simp⟩ ?_
 clear hD
 rintro ⟨j,d,m⟩ ⟨hj,hD,h1,h2,h3,h4⟩
 by_cases h:j<l.length
 ·rw [List.drop_eq_getElem_cons h,deepT] at hD
  generalize hx:l[j]=x at *
  obtain ⟨k,s,n,a⟩:=x
  have he:(l.map tokL)[((j:Int)).toNat]? = some [I k,.str s,I n,I a]:=by
   rw [show ((j:Int)).toNat=j by omega,map_get _ _ _ h,hx];rfl
  have hD:deepT (l.drop (j+1)) (d+delta s) (max m (d+delta s))=D:=hD
  rcases delta_cases s with ⟨e1,e2⟩|⟨e0,e1,e2⟩|⟨e0,e3,e1,e2⟩|⟨e0,e3,e4,e1,e2⟩|⟨e0,e3,e4,e5,e2⟩
  all_goals rw [e2,max_mm] at hD
  all_goals try rw [show d + -1=d - 1 by omega] at hD
  all_goals try rw [Int.add_zero] at hD
  all_goals ((repeat' first|refine aw ?_|refine bw (fun _=>?_) fun _=>?_))
  all_goals first|exact WT_again (j+1,_,_) ⟨by omega,hD,by omega,by omega,by have:=mm_le m (d+1);have:=mm_le m (d - 1);have:=mm_le m d;omega,by have:=mm_le m (d+1);have:=mm_le m (d - 1);have:=mm_le m d;omega⟩ (by simp only;omega) (by exact Uw.wW)
 ·rw [List.drop_eq_nil_of_le (by omega),deepT] at hD
  subst hD
  ((repeat' first|refine aw ?_|refine bw (fun _=>?_) fun _=>?_))
  refine WT_break ?_
  ((repeat' first|refine aw ?_|refine bw (fun _=>?_) fun _=>?_))
  exact WT_ret rfl rfl rfl rfl rfl
end Uw.Tryz
namespace Uw.Tryz
open Go Uw
end Uw.Tryz
namespace Uw.Tryz
open Go Uw
def endOf (r:List UInt8):Nat:=
 match r with
 | []=>0
 | c::t=>if cls c=5 then (if c.toNat=61∧eqq t=true then 2 else 1)
  else if cls c=1 then 1+(t.takeWhile nameB).length else 1+(t.takeWhile digB).length
theorem endOf_sign (c:UInt8) (t:List UInt8) (h:cls c=5):endOf (c::t)=if c.toNat=61∧eqq t=true then 2 else 1:=by
 rw [endOf,if_pos h]
theorem takeWhile_at {α:Type} (p:α→Bool) (l:List α) (k:Nat) (h:k≤l.length) (h1:∀(j:Nat) (hj:j<l.length),j<k→p l[j]=true) (h2:∀b,l[k]? = some b→p b=false):(l.takeWhile p).length=k:=by
 have e:l=l.take k++l.drop k:=by simp
 have h1' : ∀a∈l.take k,p a=true:=by
  intro a ha
  rw [List.mem_take_iff_getElem] at ha
  obtain ⟨j,hj,rfl⟩:=ha
  exact h1 j (by omega) (by omega)
 rw [e,List.takeWhile_append_of_pos h1']
 have:(l.drop k).takeWhile p=[]:=by
  cases hd:l.drop k with
  | nil=>rfl
  | cons b r=>
   have hb:l[k]? = some b:=by
    have:=congrArg (fun l=>l[0]?) hd
    simpa using this
   rw [List.takeWhile_cons,h2 b hb];rfl
 rw [this];simp;omega
end Uw.Tryz
namespace Uw.Tryz
open Go Uw
theorem digB_range {b:UInt8} (h:digB b=true):48≤b.toNat∧b.toNat≤57:=by
 simp only [digB,decide_eq_true_eq] at h
 unfold cls at h
 repeat' split at h
 all_goals first|omega|cases h
def numR (w:List UInt8):Int:=if 10<w.length∨(w.head? = some 48∧1<w.length) then -1 else if 4294967296≤valD w then -1 else ((valD w:Nat):Int)
theorem head_48 (w:List UInt8) (h:0<w.length):(w.head? = some 48)↔w[0].toNat=48:=by
 cases w with
 | nil=>simp at h
 | cons b r=>
  simp only [List.head?_cons,Option.some.injEq,List.getElem_cons_zero]
  constructor
  ·intro e;rw [e];rfl
  ·intro e;exact UInt8.toNat_inj.1 e
end Uw.Tryz
namespace Uw.Tryz
open Go Uw
theorem tokLen_name (c:UInt8) (t:List UInt8) (h:cls c=1):tokLen (c::t)=if endOf (c::t)≤12 then some (1,endOf (c::t),0) else none:=by
 have e:endOf (c::t)=1+(t.takeWhile nameB).length:=by simp [endOf,h]
 rw [tokLen,if_pos h,e]
theorem tokLen_sign (c:UInt8) (t:List UInt8) (h:cls c=5):tokLen (c::t)=some (3,endOf (c::t),0):=by
 rw [tokLen,if_neg (by omega),if_neg (by omega),if_pos h,endOf_sign c t h]
 split<;>rfl
theorem tokLen_other (c:UInt8) (t:List UInt8) (h:cls c≠1) (h2:cls c≠2) (h3:cls c≠5):tokLen (c::t)=none:=by
 rw [tokLen,if_neg h,if_neg h2,if_neg h3]
theorem endOf_dig (c:UInt8) (t:List UInt8) (h:cls c=2):endOf (c::t)=1+(t.takeWhile digB).length:=by simp [endOf,h]
theorem drop_takeWhile {α:Type} (p:α→Bool):∀(l:List α),l.drop (l.takeWhile p).length=l.dropWhile p
 | []=>rfl
 | y::r=>by
  rw [List.takeWhile_cons,List.dropWhile_cons]
  split
  ·rw [List.length_cons,List.drop_succ_cons,drop_takeWhile p r]
  ·rfl
theorem take_takeWhile {α:Type} (p:α→Bool):∀(l:List α),l.take (l.takeWhile p).length=l.takeWhile p
 | []=>rfl
 | y::r=>by
  rw [List.takeWhile_cons]
  split
  ·rw [List.length_cons,List.take_succ_cons,take_takeWhile p r]
  ·rfl
theorem take_dig (c:UInt8) (t:List UInt8) (h:cls c=2):(c::t).take (endOf (c::t))=c::t.takeWhile digB:=by
 rw [endOf_dig c t h,Nat.add_comm,List.take_succ_cons,take_takeWhile]
theorem drop_dig (c:UInt8) (t:List UInt8) (h:cls c=2):(c::t).drop (endOf (c::t))=t.dropWhile digB:=by
 rw [endOf_dig c t h,Nat.add_comm,List.drop_succ_cons,drop_takeWhile]
theorem all_takeWhile {α:Type} (p:α→Bool) (l:List α):(l.takeWhile p).all p=true:=by
 induction l with
 | nil=>rfl
 | cons y r ih=>
  rw [List.takeWhile_cons]
  split
  ·rename_i h;simp [h]
  ·rfl
theorem all_dig (c:UInt8) (t:List UInt8) (h:cls c=2):((c::t).take (endOf (c::t))).all digB=true:=by
 rw [take_dig c t h,List.all_cons,all_takeWhile];simp [digB,h]
theorem tokLen_dig (c:UInt8) (t:List UInt8) (h:cls c=2):tokLen (c::t)=if 0≤numR ((c::t).take (endOf (c::t)))∧letr ((c::t).drop (endOf (c::t)))=false then some (2,endOf (c::t),numR ((c::t).take (endOf (c::t)))) else none:=by
 rw [tokLen,if_neg (by omega),if_pos h,take_dig c t h,drop_dig c t h,endOf_dig c t h]
 have hc:(c.toNat=48)↔((c::t.takeWhile digB).head? = some 48):=by rw [head_48 _ (by simp)];rfl
 have n1:(10<(t.takeWhile digB).length+1∨c.toNat=48∧1<(t.takeWhile digB).length+1)→numR (c::t.takeWhile digB) = -1:=fun h=>by
  rw [numR,if_pos (by rw [← hc];exact h)]
 have n2:¬(10<(t.takeWhile digB).length+1∨c.toNat=48∧1<(t.takeWhile digB).length+1)→numR (c::t.takeWhile digB)=if 4294967296≤valD (c::t.takeWhile digB) then -1 else ((valD (c::t.takeWhile digB):Nat):Int):=fun h=>by
  rw [numR,if_neg (by rw [← hc];exact h)]
 generalize numR (c::t.takeWhile digB)=R at n1 n2
 by_cases h1:1+(t.takeWhile digB).length≤10∧¬(1<1+(t.takeWhile digB).length∧c.toNat=48)
 ·have n2:=n2 (by omega)
  by_cases h2:valD (c::t.takeWhile digB)<4294967296
  ·rw [if_neg (by omega)] at n2
   by_cases h3:letr (t.dropWhile digB)=false
   ·rw [if_pos ⟨h1.1,h1.2,h2,h3⟩,if_pos ⟨by omega,h3⟩,n2]
   ·rw [if_neg (fun h=>h3 h.2.2.2),if_neg (fun h=>h3 h.2)]
  ·rw [if_pos (by omega)] at n2
   rw [if_neg (fun h=>h2 h.2.2.1),if_neg (fun h=>by have:=h.1;omega)]
 ·have n1:=n1 (by omega)
  rw [if_neg (fun h=>h1 ⟨h.1,h.2.1⟩),if_neg (fun h=>by have:=h.1;omega)]
theorem endOf_le (c:UInt8) (t:List UInt8):1≤endOf (c::t)∧endOf (c::t)≤t.length+1:=by
 have h1:=takeWhile_le nameB t
 have h2:=takeWhile_le digB t
 rw [endOf]
 split
 ·split
  ·rename_i h
   cases t with
   | nil=>simp [eqq] at h
   | cons b r=>simp
  ·omega
 ·split<;>omega
def Read (s:List UInt8) (a:Nat) (out:List Tok):Prop:=lexF s 0=(lexF (s.drop a) (a:Int)).map (out++·)
theorem Read.init (s:List UInt8):Read s 0 []:=by
 rw [Read,List.drop_zero];simp
theorem Read.blank {s:List UInt8} {a:Nat} {out:List Tok} (h:Read s a out) (ha:a<s.length) (hb:cls s[a]=4):Read s (a+1) out:=by
 rw [Read,List.drop_eq_getElem_cons ha,lexF_blank _ _ _ hb] at h
 rw [Read,h];rfl
theorem Read.none {s:List UInt8} {a:Nat} {out:List Tok} (h:Read s a out) (ha:a<s.length) (hb:cls s[a]≠4) (ht:tokLen (s.drop a)=none):lexF s 0=none:=by
 rw [Read] at h;rw [h]
 rw [List.drop_eq_getElem_cons ha] at ht ⊢
 rw [lexF_none _ _ _ hb ht];rfl
theorem Read.tok {s:List UInt8} {a:Nat} {out:List Tok} (h:Read s a out) (ha:a<s.length) (hb:cls s[a]≠4) {k:Int} {n:Nat} {v:Int} (ht:tokLen (s.drop a)=some (k,n,v)) :
  Read s (a+n) (out++[⟨k,(s.drop a).take n,v,a⟩]):=by
 rw [Read,h]
 rw [List.drop_eq_getElem_cons ha] at ht ⊢
 rw [lexF_tok _ _ _ hb ht,← List.drop_eq_getElem_cons ha,List.drop_drop]
 rw [show ((a:Int)+(n:Int))=((a+n:Nat):Int) by omega]
 cases lexF (s.drop (a+n)) ((a+n:Nat):Int) with
 | none=>rfl
 | some l=>simp
theorem Read.end {s:List UInt8} {a:Nat} {out:List Tok} (h:Read s a out) (ha:s.length≤a):lexF s 0=some out:=by
 rw [Read] at h;rw [h,List.drop_eq_nil_of_le ha,lexF_nil];simp
def rawW (s:List UInt8):Dat:=if 4000<s.length then .tuple [.nil,I 2] else match lexF s 0 with|none=>.tuple [.nil,I 3]|some l=>.tuple [toksD l,I 0]
theorem raw_dle (s:List UInt8):DLe (rawW s) (wordsD (wordsR s)):=by
 rw [rawW,wordsR]
 by_cases h:4000<s.length
 ·rw [if_pos h,if_pos h];exact .tuple (.cons (.nil 4) (.refl _))
 ·rw [if_neg h,if_neg h]
  cases lexF s 0 with
  | none=>exact .tuple (.cons (.nil 4) (.refl _))
  | some l=>exact .refl _
theorem tok_len {s:List UInt8} {a n:Nat} (h:a+n≤s.length):((s.drop a).take n).length=n:=by simp;omega
end Uw.Tryz
namespace Uw.Tryz
open Go Uw
def letR (r:Int):Bool:=decide ((97≤r∧r≤122)∨(65≤r∧r≤90))
def digR (r:Int):Bool:=decide (48≤r∧r≤57)
def blkR (r:Int):Bool:=decide (r=9∨r=10∨r=32)
theorem s_lex_letter (r:Int):Ret P0 n_lex_letter [.int .i32 r] (.bool (letR r)):=by
 refine Ret_by is_lex_letter rfl ?_
 ((repeat' first|refine aw ?_|refine bw (fun _=>?_) fun _=>?_))
 all_goals
  refine WT_ret (P:=P0) rfl rfl rfl rfl ?_
  exact congrArg Dat.bool (Bool.eq_iff_iff.2 (by simp only [decide_eq_true_eq,Bool.or_eq_true,letR,digR,blkR,eq_self,true_iff,Bool.false_eq_true,false_iff];omega))
theorem s_lex_digit (r:Int):Ret P0 n_lex_digit [.int .i32 r] (.bool (digR r)):=by
 refine Ret_by is_lex_digit rfl ?_
 ((repeat' first|refine aw ?_|refine bw (fun _=>?_) fun _=>?_))
 all_goals
  refine WT_ret (P:=P0) rfl rfl rfl rfl ?_
  exact congrArg Dat.bool (Bool.eq_iff_iff.2 (by simp only [decide_eq_true_eq,Bool.or_eq_true,letR,digR,blkR,eq_self,true_iff,Bool.false_eq_true,false_iff];omega))
theorem s_lex_blank (r:Int):Ret P0 n_lex_blank [.int .i32 r] (.bool (blkR r)):=by
 refine Ret_by is_lex_blank rfl ?_
 ((repeat' first|refine aw ?_|refine bw (fun _=>?_) fun _=>?_))
 all_goals
  refine WT_ret (P:=P0) rfl rfl rfl rfl ?_
  exact congrArg Dat.bool (Bool.eq_iff_iff.2 (by simp only [decide_eq_true_eq,Bool.or_eq_true,letR,digR,blkR,eq_self,true_iff,Bool.false_eq_true,false_iff];omega))
theorem s_lex_name_1 (r:Int):Ret P0 n_lex_name_1 [.int .i32 r] (.bool (letR r||digR r||decide (r=95))):=by
 have h1:=s_lex_letter r
 have h2:=s_lex_digit r
 refine Ret_by is_lex_name_1 rfl ?_
 ((repeat' first|refine aw ?_|refine bw (fun _=>?_) fun _=>?_))
 all_goals
  refine WT_ret (P:=P0) rfl rfl rfl rfl ?_
  exact congrArg Dat.bool (Bool.eq_iff_iff.2 (by simp only [decide_eq_true_eq,Bool.or_eq_true,letR,digR,blkR,eq_self,true_iff,Bool.false_eq_true,false_iff];omega))
theorem s_lex_number_1 (r:Int):Ret P0 n_lex_number_1 [.int .i32 r] (.bool (letR r||decide (r=95))):=by
 have h1:=s_lex_letter r
 refine Ret_by is_lex_number_1 rfl ?_
 ((repeat' first|refine aw ?_|refine bw (fun _=>?_) fun _=>?_))
 all_goals
  refine WT_ret (P:=P0) rfl rfl rfl rfl ?_
  exact congrArg Dat.bool (Bool.eq_iff_iff.2 (by simp only [decide_eq_true_eq,Bool.or_eq_true,letR,digR,blkR,eq_self,true_iff,Bool.false_eq_true,false_iff];omega))
theorem s_lex_span (f:FuncId) (p:Int→Bool) (hb:HasBody P0 f) (hf:∀r,Ret P0 f [.int .i32 r] (.bool (p r))) (hp:∀r,128≤r→p r=false) (s:List UInt8) (hs:s.length<1000000):Ret P0 n_lex_span [.str s,.func f] (I ((s.takeWhile (fun b=>p (b.toNat:Int))).length:Nat)):=by
 refine Ret_by is_lex_span rfl ?_
 ((repeat' first|refine aw ?_|refine bw (fun _=>?_) fun _=>?_))
 refine WT_loop (fun k:Nat=>⟨[(8,.hnd 0),(0,.d (.str s)),(1,.d (.func f))],[(0,.iter s k)],1,[],0⟩)
  (fun k=>k≤s.length∧∀(i:Nat) (hi:i<s.length),i<k→p (s[i].toNat:Int)=true) (fun k=>s.length - k) 0 (by exact Uw.wW) ⟨by omega,by intros;omega⟩ ?_
 rintro k ⟨h1,h2⟩
 by_cases hk:k<s.length
 ·have hk' : s[k]? = some s[k]:=by simp [hk]
  have stop:p (s[k].toNat:Int)=false→(s.takeWhile (fun b=>p (b.toNat:Int))).length=k:=fun h=>takeWhile_at _ s k h1 h2 (fun b hb=>by rw [hk'] at hb;injection hb with hb;rw [← hb];exact h)
  by_cases hlow:s[k].toNat<128
  ·have hr:=runeAt_low s k s[k] hk' hlow
   have hr1:((runeAt s k).1:Int)=s[k].toNat:=by rw [hr]
   have hr2:(runeAt s k).2=1:=by rw [hr]
   have hfr:=hf ((runeAt s k).1:Int)
   rw [show p ((runeAt s k).1:Int)=p (s[k].toNat:Int) by rw [hr1]] at hfr
   have hk1:k+(runeAt s k).2=k+1:=by rw [hr2]
   clear hr hr1
   cases hpk:p (s[k].toNat:Int) with
   | false=>
    rw [hpk] at hfr
    have hst:=stop hpk
    clear stop h2
    ((repeat' first|refine aw ?_|refine bw (fun _=>?_) fun _=>?_))
    refine WT_subret _ hb rfl hfr ?_
    ((repeat' first|refine aw ?_|refine bw (fun _=>?_) fun _=>?_))
    exact WT_ret (P:=P0) rfl rfl rfl rfl (by rw [hst];rfl)
   | true=>
    rw [hpk] at hfr
    have h3:∀(i:Nat) (hi:i<s.length),i<k+(runeAt s k).2→p (s[i].toNat:Int)=true:=by
     intro i hi hik
     by_cases e:i=k
     ·subst e;exact hpk
     ·exact h2 i hi (by omega)
    clear stop h2
    ((repeat' first|refine aw ?_|refine bw (fun _=>?_) fun _=>?_))
    refine WT_subret _ hb rfl hfr ?_
    ((repeat' first|refine aw ?_|refine bw (fun _=>?_) fun _=>?_))
    exact WT_again (k+(runeAt s k).2) ⟨by omega,h3⟩ (by omega) (by exact Uw.wW)
  ·obtain ⟨a1,a2,a3,a4,a5⟩:=runeAt_high s k s[k] hk' (by omega)
   have hfr:=hf ((runeAt s k).1:Int)
   rw [hp _ (by omega)] at hfr
   have hst:=stop (hp _ (by omega))
   clear stop h2 a5
   ((repeat' first|refine aw ?_|refine bw (fun _=>?_) fun _=>?_))
   refine WT_subret _ hb rfl hfr ?_
   ((repeat' first|refine aw ?_|refine bw (fun _=>?_) fun _=>?_))
   exact WT_ret (P:=P0) rfl rfl rfl rfl (by rw [hst];rfl)
 ·have hst:(s.takeWhile (fun b=>p (b.toNat:Int))).length=s.length:=by
   have e:k=s.length:=by omega
   exact takeWhile_at _ s s.length (Nat.le_refl _) (fun j hj _=>h2 j hj (by omega)) (fun b hb=>by rw [List.getElem?_eq_none (Nat.le_refl _)] at hb;cases hb)
  clear h2
  ((repeat' first|refine aw ?_|refine bw (fun _=>?_) fun _=>?_))
  exact WT_ret (P:=P0) rfl rfl rfl rfl (by rw [hst];rfl)
end Uw.Tryz
namespace Uw.Tryz
open Go Uw Go.Proofs Go.RowKit
theorem decFrom_dig:∀(l:List UInt8) (n:Nat),l.all digB=true→Lib.decFrom n l=some (l.foldl (fun n b=>10 * n+(b.toNat - 48)) n)
 | [],n,_=>rfl
 | b::r,n,h=>by
  rw [List.all_cons,Bool.and_eq_true] at h
  have hb:=digB_range h.1
  rw [Lib.decFrom,Lib.digitVal,if_pos hb]
  simp only
  rw [decFrom_dig r _ h.2,List.foldl_cons,Nat.mul_comm]
theorem atoi_dig (l:List UInt8) (h0:l≠[]) (h:l.all digB=true):Lib.atoi l=some (valD l:Nat):=by
 cases l with
 | nil=>exact absurd rfl h0
 | cons b r=>
  have hb:=digB_range (by rw [List.all_cons,Bool.and_eq_true] at h;exact h.1)
  have h1:(b == 45)=false:=by
   rw [beq_eq_false_iff_ne];intro e;subst e;simp at hb
  have h2:(b == 43)=false:=by
   rw [beq_eq_false_iff_ne];intro e;subst e;simp at hb
  rw [Lib.atoi,h1,h2]
  simp only [Bool.false_eq_true,if_false]
  rw [Lib.decNat,decFrom_dig _ _ h]
  rfl
theorem s_strconv_Atoi (l:List UInt8) (h0:l≠[]) (h:l.all digB=true) (hl:l.length≤18):Ret P0 n_strconv_Atoi [.str l] (.tuple [I (valD l:Nat),.nilIface]):=by
 intro w J vs hG hr
 obtain ⟨v,vs',rfl,hv,hr⟩:=hr
 simp only [RelL] at hr;subst hr
 simp only [RelI] at hv;subst hv
 refine (Tryz.strconv_Atoi ⟨l.toArray⟩ (valD l:Nat) (by simpa [ByteArray.size] using hl) (by simpa using atoi_dig l h0 h) w).mono ?_
 rintro e w' ⟨rfl,t,rfl⟩
 exact ⟨_,rfl,⟨[_,_],rfl,⟨_,_,rfl,rfl,⟨_,_,rfl,rfl,rfl⟩⟩⟩,Lib.bytesWorld_below _ _ _⟩
theorem s_strings_HasPrefix (s p:List UInt8):Ret P0 n_strings_HasPrefix [.str s,.str p] (.bool (Lib.hasPrefix s p)):=by
 intro w J vs hG hr
 obtain ⟨v,vs',rfl,hv,u,vs'',rfl,hu,hr⟩:=hr
 simp only [RelL] at hr;subst hr
 simp only [RelI] at hv hu;subst hv hu
 refine (Tryz.strings_HasPrefix ⟨s.toArray⟩ ⟨p.toArray⟩ w).mono ?_
 rintro e w' ⟨rfl,rfl⟩
 exact ⟨_,rfl,rfl,Below.refl _ _⟩
theorem s_strings_IndexByte (s:List UInt8) (c:UInt8):Ret P0 n_strings_IndexByte [.str s,.int .u8 (c.toNat:Int)] (I (Lib.indexByte s c)):=by
 intro w J vs hG hr
 obtain ⟨v,vs',rfl,hv,u,vs'',rfl,hu,hr⟩:=hr
 simp only [RelL] at hr;subst hr
 simp only [RelI] at hv hu;subst hv hu
 refine (Tryz.strings_IndexByte ⟨s.toArray⟩ (c.toNat:Int) w).mono ?_
 rintro e w' ⟨rfl,rfl⟩
 refine ⟨_,rfl,?_,Below.refl _ _⟩
 simp [RelI]
theorem s_lex_value (l:List UInt8) (h0:l≠[]) (h:l.all digB=true) (hl:l.length≤18):Ret P0 n_lex_value [.str l] (I (valD l:Nat)):=by
 have ha:=s_strconv_Atoi l h0 h hl
 clear h h0
 refine Ret_by is_lex_value rfl ?_
 ((repeat' first|refine aw ?_|refine bw (fun _=>?_) fun _=>?_))
 exact WT_ret (P:=P0) rfl rfl rfl rfl rfl
end Uw.Tryz
namespace Uw.Tryz
open Go Uw Go.Proofs Go.RowKit
theorem letR_cls (b:UInt8):letR (b.toNat:Int)=decide (cls b=1):=by
 refine Bool.eq_iff_iff.2 ?_
 simp only [letR,decide_eq_true_eq]
 unfold cls
 constructor
 ·intro h;rw [if_pos (by omega)]
 ·intro h
  split at h
  ·omega
  ·repeat' split at h
   all_goals omega
theorem digR_cls (b:UInt8):digR (b.toNat:Int)=decide (cls b=2):=by
 refine Bool.eq_iff_iff.2 ?_
 simp only [digR,decide_eq_true_eq]
 unfold cls
 constructor
 ·intro h;rw [if_neg (by omega),if_pos (by omega)]
 ·intro h
  repeat' split at h
  all_goals omega
theorem und_cls (b:UInt8):decide ((b.toNat:Int)=95)=decide (cls b=3):=by
 refine Bool.eq_iff_iff.2 ?_
 simp only [decide_eq_true_eq]
 unfold cls
 constructor
 ·intro h;rw [if_neg (by omega),if_neg (by omega),if_pos (by omega)]
 ·intro h
  repeat' split at h
  all_goals omega
theorem blkR_cls (b:UInt8):blkR (b.toNat:Int)=decide (cls b=4):=by
 refine Bool.eq_iff_iff.2 ?_
 simp only [blkR,decide_eq_true_eq]
 unfold cls
 constructor
 ·intro h;rw [if_neg (by omega),if_neg (by omega),if_neg (by omega),if_pos (by omega)]
 ·intro h
  repeat' split at h
  all_goals omega
theorem sp_letter (s:List UInt8) (hs:s.length<1000000):Ret P0 n_lex_span [.str s,.func n_lex_letter] (I ((s.takeWhile (fun b=>decide (cls b=1))).length:Nat)):=by
 have:=s_lex_span n_lex_letter letR is_lex_letter.body s_lex_letter (fun r hr=>by simp [letR];omega) s hs
 simpa only [letR_cls] using this
theorem sp_digit (s:List UInt8) (hs:s.length<1000000):Ret P0 n_lex_span [.str s,.func n_lex_digit] (I ((s.takeWhile digB).length:Nat)):=by
 have:=s_lex_span n_lex_digit digR is_lex_digit.body s_lex_digit (fun r hr=>by simp [digR];omega) s hs
 simp only [digR_cls] at this
 exact this
theorem sp_name (s:List UInt8) (hs:s.length<1000000):Ret P0 n_lex_span [.str s,.func n_lex_name_1] (I ((s.takeWhile nameB).length:Nat)):=by
 have:=s_lex_span n_lex_name_1 (fun r=>letR r||digR r||decide (r=95)) is_lex_name_1.body s_lex_name_1 (fun r hr=>by simp [letR,digR];omega) s hs
 simp only [letR_cls,digR_cls,und_cls] at this
 exact this
theorem sp_number (s:List UInt8) (hs:s.length<1000000):Ret P0 n_lex_span [.str s,.func n_lex_number_1] (I ((s.takeWhile (fun b=>decide (cls b=1)||decide (cls b=3))).length:Nat)):=by
 have:=s_lex_span n_lex_number_1 (fun r=>letR r||decide (r=95)) is_lex_number_1.body s_lex_number_1 (fun r hr=>by simp [letR];omega) s hs
 simp only [letR_cls,und_cls] at this
 exact this
def nameLN (r:List UInt8):Nat:=match tokLen r with|some (k,n,_)=>if k=1 then n else 0|none=>0
def numbN (r:List UInt8):Nat:=match tokLen r with|some (k,n,_)=>if k=2 then n else 0|none=>0
def signN (r:List UInt8):Nat:=match tokLen r with|some (k,n,_)=>if k=3 then n else 0|none=>0
theorem nameLN_no (c:UInt8) (t:List UInt8) (h:cls c≠1):nameLN (c::t)=0:=by
 rw [nameLN]
 by_cases h2:cls c=2
 ·rw [tokLen_dig c t h2];split
  ·rename_i h3;split at h3
   ·simp at h3;simp [← h3.1]
   ·cases h3
  ·rfl
 ·by_cases h5:cls c=5
  ·rw [tokLen_sign c t h5];rfl
  ·rw [tokLen_other c t h h2 h5]
theorem nameLN_yes (c:UInt8) (t:List UInt8) (h:cls c=1):nameLN (c::t)=if endOf (c::t)≤12 then endOf (c::t) else 0:=by
 rw [nameLN,tokLen_name c t h]
 by_cases h2:endOf (c::t)≤12
 ·rw [if_pos h2,if_pos h2];rfl
 ·rw [if_neg h2,if_neg h2]
theorem s_lex_name (c:UInt8) (t:List UInt8) (hs:(c::t).length<1000000):Ret P0 n_lex_name [.str (c::t)] (I (nameLN (c::t))):=by
 have h1:=sp_letter (c::t) hs
 have h2:=sp_name (c::t) hs
 by_cases h:cls c=1
 ·have e1:0<((c::t).takeWhile (fun b=>decide (cls b=1))).length:=by rw [List.takeWhile_cons,if_pos (by simp [h])];simp
  have e2:((c::t).takeWhile nameB).length=endOf (c::t):=by rw [List.takeWhile_cons,if_pos (by simp [nameB,h])];simp [endOf,h];omega
  have e3:=nameLN_yes c t h
  rw [e2] at h2
  generalize endOf (c::t)=E at *
  generalize ((c::t).takeWhile (fun b=>decide (cls b=1))).length=A at *
  generalize nameLN (c::t)=R at *
  clear e2
  generalize c::t=s at *
  by_cases hE:E≤12
  ·rw [if_pos hE] at e3
   subst e3
   refine Ret_by is_lex_name rfl ?_
   ((repeat' first|refine aw ?_|refine bw (fun _=>?_) fun _=>?_))
   exact WT_ret (P:=P0) rfl rfl rfl rfl rfl
  ·rw [if_neg hE] at e3
   subst e3
   refine Ret_by is_lex_name rfl ?_
   ((repeat' first|refine aw ?_|refine bw (fun _=>?_) fun _=>?_))
   exact WT_ret (P:=P0) rfl rfl rfl rfl rfl
 ·have e1:((c::t).takeWhile (fun b=>decide (cls b=1))).length=0:=by rw [List.takeWhile_cons,if_neg (by simp [h])];rfl
  rw [e1] at h1
  have e3:=nameLN_no c t h
  rw [e3]
  clear h2 e1 e3 h
  generalize c::t=s at *
  refine Ret_by is_lex_name rfl ?_
  ((repeat' first|refine aw ?_|refine bw (fun _=>?_) fun _=>?_))
  exact WT_ret (P:=P0) rfl rfl rfl rfl rfl
theorem numbN_no (c:UInt8) (t:List UInt8) (h:cls c≠2):numbN (c::t)=0:=by
 rw [numbN]
 by_cases h2:cls c=1
 ·rw [tokLen_name c t h2];split
  ·rename_i h3;split at h3
   ·simp at h3;simp [← h3.1]
   ·cases h3
  ·rfl
 ·by_cases h5:cls c=5
  ·rw [tokLen_sign c t h5];rfl
  ·rw [tokLen_other c t h2 h h5]
theorem numbN_yes (c:UInt8) (t:List UInt8) (h:cls c=2):numbN (c::t)=if 0≤numR ((c::t).take (endOf (c::t)))∧letr ((c::t).drop (endOf (c::t)))=false then endOf (c::t) else 0:=by
 rw [numbN,tokLen_dig c t h]
 by_cases h2:0≤numR ((c::t).take (endOf (c::t)))∧letr ((c::t).drop (endOf (c::t)))=false
 ·rw [if_pos h2,if_pos h2];rfl
 ·rw [if_neg h2,if_neg h2]
theorem letr_tw (r:List UInt8):letr r=decide (0<(r.takeWhile (fun b=>decide (cls b=1)||decide (cls b=3))).length):=by
 cases r with
 | nil=>rfl
 | cons b t=>
  rw [letr,List.takeWhile_cons]
  cases decide (cls b=1)||decide (cls b=3)<;>simp
theorem s_lex_number (c:UInt8) (t:List UInt8) (hs:(c::t).length<1000000):Ret P0 n_lex_number [.str (c::t)] (I (numbN (c::t))):=by
 have h1:=sp_digit (c::t) hs
 by_cases h:cls c=2
 ·have e1:((c::t).takeWhile digB).length=endOf (c::t):=by rw [List.takeWhile_cons,if_pos (by simp [digB,h])];simp [endOf,h];omega
  have hall:=all_dig c t h
  have hle:=endOf_le c t
  have e3:=numbN_yes c t h
  rw [e1] at h1
  have hl0:(c::t).length=t.length+1:=rfl
  have hc0:∀hp:0<(c::t).length,(c::t)[0]'hp=c:=fun _=>rfl
  have hhd:((c::t).take (endOf (c::t))).head? = some 48↔c.toNat=48:=by
   rw [take_dig c t h,head_48 _ (by simp)];rfl
  have h0:0<(c::t).length:=by simp
  generalize endOf (c::t)=E at *
  clear e1
  generalize numbN (c::t)=R at *
  generalize c::t=s at *
  have hc0:=congrArg UInt8.toNat (hc0 h0)
  have hwl:(s.take E).length=E:=by simp;omega
  have hsp:=sp_number ((s.take s.length).drop E) (by simp;omega)
  have hlt:=letr_tw (s.drop E)
  have e5:(s.take s.length).drop E=s.drop E:=by rw [List.take_length]
  rw [← e5] at e3 hlt
  generalize letr ((s.take s.length).drop E)=L at *
  generalize (((s.take s.length).drop E).takeWhile (fun b=>decide (cls b=1)||decide (cls b=3))).length=A at *
  have hnr:numR (s.take E)=if 10<E∨(c.toNat=48∧1<E) then -1 else if 4294967296≤valD (s.take E) then -1 else ((valD (s.take E):Nat):Int):=by
   rw [numR,hwl];simp only [hhd]
  by_cases hb:10<E∨(c.toNat=48∧1<E)
  ·rw [if_pos hb] at hnr
   rw [if_neg (by rintro ⟨q,_⟩;omega)] at e3
   subst e3
   clear hsp hlt hall hhd e5 hnr
   refine Ret_by is_lex_number rfl ?_
   ((repeat' first|refine aw ?_|refine bw (fun _=>?_) fun _=>?_))
   all_goals exact WT_ret (P:=P0) rfl rfl rfl rfl rfl
  ·rw [if_neg hb] at hnr
   have hv:=s_lex_value ((s.take E).drop 0) (by rw [List.drop_zero];intro e;rw [e] at hwl;simp at hwl;omega) (by rw [List.drop_zero];exact hall) (by rw [List.drop_zero,hwl];omega)
   rw [show valD ((s.take E).drop 0)=valD (s.take E) by rw [List.drop_zero]] at hv
   generalize valD (s.take E)=V at *
   by_cases hA:0<A
   ·rw [decide_eq_true hA] at hlt
    rw [if_neg (by rintro ⟨_,q⟩;rw [hlt] at q;cases q)] at e3
    subst e3
    clear hall hhd e5 hnr
    refine Ret_by is_lex_number rfl ?_
    ((repeat' first|refine aw ?_|refine bw (fun _=>?_) fun _=>?_))
    all_goals exact WT_ret (P:=P0) rfl rfl rfl rfl rfl
   ·rw [decide_eq_false hA] at hlt
    by_cases hV:4294967296≤V
    ·rw [if_pos hV] at hnr
     rw [if_neg (by rintro ⟨q,_⟩;omega)] at e3
     subst e3
     clear hall hhd e5 hnr hlt
     refine Ret_by is_lex_number rfl ?_
     ((repeat' first|refine aw ?_|refine bw (fun _=>?_) fun _=>?_))
     all_goals exact WT_ret (P:=P0) rfl rfl rfl rfl rfl
    ·rw [if_neg hV] at hnr
     rw [if_pos ⟨by omega,hlt⟩] at e3
     subst e3
     clear hall hhd e5 hnr hlt
     refine Ret_by is_lex_number rfl ?_
     ((repeat' first|refine aw ?_|refine bw (fun _=>?_) fun _=>?_))
     all_goals exact WT_ret (P:=P0) rfl rfl rfl rfl rfl
 ·have e1:((c::t).takeWhile digB).length=0:=by rw [List.takeWhile_cons,if_neg (by simp [digB,h])];rfl
  rw [e1] at h1
  rw [numbN_no c t h]
  clear e1 h
  generalize c::t=s at *
  refine Ret_by is_lex_number rfl ?_
  ((repeat' first|refine aw ?_|refine bw (fun _=>?_) fun _=>?_))
  exact WT_ret (P:=P0) rfl rfl rfl rfl rfl
end Uw.Tryz
namespace Uw.Tryz
open Go Uw Go.Proofs Go.RowKit
def signsS:List UInt8:=[40,41,123,125,44,59,46,61,43,45,42,60]
theorem index_fin:∀n:Fin 256,decide (0≤Lib.indexByte signsS (UInt8.ofNat n.val))=decide (cls (UInt8.ofNat n.val)=5):=by decide +kernel
theorem index_cls (c:UInt8):0≤Lib.indexByte signsS c↔cls c=5:=by
 have h:=index_fin ⟨c.toNat,c.toNat_lt⟩
 simp only [UInt8.ofNat_toNat] at h
 exact decide_eq_decide.1 h
theorem prefix_eqq (c:UInt8) (t:List UInt8):Lib.hasPrefix (c::t) [61,61]=(decide (c.toNat=61)&&eqq t):=by
 have key:∀b:UInt8,(61 == b)=decide (b.toNat=61):=by
  intro b
  rw [Bool.eq_iff_iff,beq_iff_eq,decide_eq_true_eq]
  exact ⟨fun h=>by rw [← h];rfl,fun h=>(UInt8.toNat_inj.1 (by rw [h];rfl)).symm⟩
 rw [Lib.hasPrefix]
 cases t with
 | nil=>simp [List.isPrefixOf,eqq]
 | cons b r=>simp only [List.isPrefixOf,eqq,key,Bool.and_true]
theorem signN_yes (c:UInt8) (t:List UInt8) (h:cls c=5):signN (c::t)=endOf (c::t):=by rw [signN,tokLen_sign c t h];rfl
theorem signN_no (c:UInt8) (t:List UInt8) (h:cls c≠5):signN (c::t)=0:=by
 rw [signN]
 by_cases h1:cls c=1
 ·rw [tokLen_name c t h1];split
  ·rename_i h3;split at h3
   ·simp at h3;simp [← h3.1]
   ·cases h3
  ·rfl
 ·by_cases h2:cls c=2
  ·rw [tokLen_dig c t h2];split
   ·rename_i h3;split at h3
    ·simp at h3;simp [← h3.1]
    ·cases h3
   ·rfl
  ·rw [tokLen_other c t h1 h2 h]
theorem s_lex_sign (c:UInt8) (t:List UInt8) (hs:(c::t).length<1000000):Ret P0 n_lex_sign [.str (c::t)] (I (signN (c::t))):=by
 have h1:=s_strings_HasPrefix (c::t) [61,61]
 have h2:=s_strings_IndexByte signsS c
 rw [prefix_eqq] at h1
 have h3:=index_cls c
 have h0:0<(c::t).length:=by simp
 have hc0:∀hp:0<(c::t).length,(c::t)[0]'hp=c:=fun _=>rfl
 have hc0:=hc0 h0
 have he:cls c=5→(decide (c.toNat=61)&&eqq t)=true→signN (c::t)=2:=fun h h'=>by
  simp at h'
  rw [signN_yes c t h,endOf_sign c t h,if_pos h']
 have he2:cls c=5→(decide (c.toNat=61)&&eqq t)=false→signN (c::t)=1:=fun h h'=>by
  rw [signN_yes c t h,endOf_sign c t h,if_neg (by rintro ⟨q1,q2⟩;rw [decide_eq_true q1,q2] at h';cases h')]
 have he3:cls c≠5→signN (c::t)=0:=signN_no c t
 have h61:(decide (c.toNat=61)&&eqq t)=true→cls c=5:=fun h=>by
  simp at h
  have:c=61:=UInt8.toNat_inj.1 h.1
  subst this;rfl
 generalize (decide (c.toNat=61)&&eqq t)=q at *
 generalize signN (c::t)=R at *
 generalize Lib.indexByte signsS c=X at *
 by_cases h5:cls c=5
 ·have hX:0≤X:=h3.2 h5
  cases q with
  | true=>
   have he:=he h5 rfl
   subst he
   clear h2 h3 hX he2 he3 h61 hc0
   generalize c::t=s at *
   refine Ret_by is_lex_sign rfl ?_
   ((repeat' first|refine aw ?_|refine bw (fun _=>?_) fun _=>?_))
   exact WT_ret (P:=P0) rfl rfl rfl rfl rfl
  | false=>
   have he:=he2 h5 rfl
   subst he
   clear he2 he3 h61
   rw [← hc0] at h2
   clear hc0 h3
   generalize c::t=s at *
   refine Ret_by is_lex_sign rfl ?_
   ((repeat' first|refine aw ?_|refine bw (fun _=>?_) fun _=>?_))
   exact WT_ret (P:=P0) rfl rfl rfl rfl rfl
 ·have hX:¬0≤X:=fun h=>h5 (h3.1 h)
  have he:=he3 h5
  subst he
  cases q with
  | true=>exact absurd (h61 rfl) h5
  | false=>
   clear he2 he3 h61
   rw [← hc0] at h2
   clear hc0 h3
   generalize c::t=s at *
   refine Ret_by is_lex_sign rfl ?_
   ((repeat' first|refine aw ?_|refine bw (fun _=>?_) fun _=>?_))
   exact WT_ret (P:=P0) rfl rfl rfl rfl rfl
def firstR (r:List UInt8):Tok×Bool:=match tokLen r with|none=>(⟨0,[],0,0⟩,false)|some (k,n,v)=>(⟨k,r.take n,v,0⟩,true)
def firstD (x:Tok×Bool):Dat:=.tuple [.agg (tokL x.1),.bool x.2]
def rulesD:Dat:=.slice 2 [[I 1,.func n_lex_name],[I 2,.func n_lex_number],[I 3,.func n_lex_sign]] false
theorem tokLen_kind {r:List UInt8} {k:Int} {n:Nat} {v:Int} (h:tokLen r=some (k,n,v)) :
  (k=1∧v=0∧n≤12)∨(k=2∧v=(valD (r.take n):Nat)∧(r.take n).all digB=true∧n≤10∧v<4294967296)∨(k=3∧v=0∧n≤2):=by
 cases r with
 | nil=>simp [tokLen] at h
 | cons c t=>
  by_cases h1:cls c=1
  ·rw [tokLen_name c t h1] at h
   split at h
   ·simp only [Option.some.injEq,Prod.mk.injEq] at h;omega
   ·cases h
  ·by_cases h2:cls c=2
   ·have ha:=all_dig c t h2
    rw [tokLen_dig c t h2] at h
    split at h
    ·rename_i hc
     simp only [Option.some.injEq,Prod.mk.injEq] at h
     obtain ⟨q1,q2,q3⟩:=h
     have hc:=hc.1
     have hel:=endOf_le c t
     rw [q2] at ha hc q3 hel
     have hl:((c::t).take n).length=n:=by simp;omega
     rw [numR] at q3 hc
     split at hc
     ·omega
     ·rename_i q4
      rw [if_neg q4] at q3
      split at hc
      ·omega
      ·rename_i q5
       rw [if_neg q5] at q3
       right;left
       exact ⟨q1.symm,q3.symm,ha,by omega,by omega⟩
    ·cases h
   ·by_cases h5:cls c=5
    ·rw [tokLen_sign c t h5] at h
     simp only [Option.some.injEq,Prod.mk.injEq] at h
     have:=endOf_sign c t h5
     split at this<;>omega
    ·rw [tokLen_other c t h1 h2 h5] at h;cases h
theorem first_facts (r:List UInt8):(nameLN r≠0→firstR r=(⟨1,r.take (nameLN r),0,0⟩,true)∧nameLN r≤r.length)∧
  (nameLN r=0→numbN r≠0→firstR r=(⟨2,r.take (numbN r),(valD (r.take (numbN r)):Nat),0⟩,true)∧(r.take (numbN r)).all digB=true∧numbN r≤10∧numbN r≤r.length)∧
  (nameLN r=0→numbN r=0→signN r≠0→firstR r=(⟨3,r.take (signN r),0,0⟩,true)∧signN r≤r.length)∧(nameLN r=0→numbN r=0→signN r=0→firstR r=(⟨0,[],0,0⟩,false)):=by
 rw [nameLN,numbN,signN,firstR]
 cases h:tokLen r with
 | none=>simp
 | some x=>
  obtain ⟨k,n,v⟩:=x
  have hn:=tokLen_le h
  rcases tokLen_kind h with ⟨rfl,rfl,_⟩|⟨rfl,rfl,h2,h3,_⟩|⟨rfl,rfl,_⟩
  ·simp only [if_true]
   exact ⟨fun _=>⟨trivial,hn.2⟩,fun h=>by omega,fun h=>by omega,fun h=>by omega⟩
  ·simp only [show ¬(2:Int)=1 by omega,if_false,if_true]
   exact ⟨fun h=>by omega,fun _ _=>⟨trivial,h2,h3,hn.2⟩,fun _ h=>by omega,fun _ h=>by omega⟩
  ·simp only [show ¬(3:Int)=1 by omega,show ¬(3:Int)=2 by omega,if_false,if_true]
   exact ⟨fun h=>by omega,fun _ h=>by omega,fun _ _ _=>⟨trivial,hn.2⟩,fun _ _ h=>by omega⟩
theorem s_lex_first (c:UInt8) (t:List UInt8) (hs:(c::t).length<1000000):Ret P0 n_lex_first [rulesD,.str (c::t)] (firstD (firstR (c::t))):=by
 have h1:=s_lex_name c t hs
 have h2:=s_lex_number c t hs
 have h3:=s_lex_sign c t hs
 obtain ⟨f1,f2,f3,f4⟩:=first_facts (c::t)
 have hv:=fun (q:(nameLN (c::t)=0∧numbN (c::t)≠0))=>s_lex_value (((c::t).take (numbN (c::t))).drop 0) (by rw [List.drop_zero];intro e;have:=congrArg List.length e;rw [List.length_take] at this;have:=(f2 q.1 q.2).2.2.2;simp at *;omega) (by rw [List.drop_zero];exact (f2 q.1 q.2).2.1) (by rw [List.drop_zero,List.length_take];have:=(f2 q.1 q.2).2.2.1;omega)
 simp only [List.drop_zero] at hv
 generalize nameLN (c::t)=A at *
 generalize numbN (c::t)=B at *
 generalize signN (c::t)=C at *
 generalize firstR (c::t)=R at *
 generalize c::t=s at *
 refine Ret_by is_lex_first rfl ?_
 ((repeat' first|refine aw ?_|refine bw (fun _=>?_) fun _=>?_))
 refine WT_loop (fun k:Nat=>⟨[(12,.d (I k)),(11,.d (I (↑[[I 1,Dat.func n_lex_name],[I 2,Dat.func n_lex_number],[I 3,Dat.func n_lex_sign]].length))),(10,.d rulesD),(4,.ptr 0 0),(1,.d (.str s))],[(0,.var [.d (I 0),.d (.str []),.d (I 0),.d (I 0)])],1,[],0⟩)
  (fun k=>k≤3∧(1≤k→A=0)∧(2≤k→B=0)∧(3≤k→C=0)) (fun k=>3 - k) 0 (by exact Uw.wW) (by omega) ?_
 rintro k ⟨k1,k2,k3,k4⟩
 have hk:k=0∨k=1∨k=2∨k=3:=by omega
 rcases hk with rfl|rfl|rfl|rfl
 ·by_cases hA:A=0
  ·clear f1 f2 f3 f4 hv
   subst hA
   ((repeat' first|refine aw ?_|refine bw (fun _=>?_) fun _=>?_))
   refine WT_elem _ rfl ?_
   ((repeat' first|refine aw ?_|refine bw (fun _=>?_) fun _=>?_))
   refine WT_subret _ is_lex_name.body rfl h1 ?_
   ((repeat' first|refine aw ?_|refine bw (fun _=>?_) fun _=>?_))
   exact WT_again 1 (by omega) (by omega) (by exact Uw.wW)
  ·obtain ⟨e,hle⟩:=f1 hA
   subst e
   clear f1 f2 f3 f4 hv
   ((repeat' first|refine aw ?_|refine bw (fun _=>?_) fun _=>?_))
   refine WT_elem _ rfl ?_
   ((repeat' first|refine aw ?_|refine bw (fun _=>?_) fun _=>?_))
   refine WT_subret _ is_lex_name.body rfl h1 ?_
   ((repeat' first|refine aw ?_|refine bw (fun _=>?_) fun _=>?_))
   refine WT_draw ⟨[(7,.ptr 1 0),(9,.ptr 2 0),(4,.ptr 0 0)],[(2,.var [.d (I 1),.d (.str ((s.take A).drop 0)),.d (I 0),.d (I 0)]),(1,.var [.d (I 1),.d (.func n_lex_name)]),(0,.var [.d (I 0),.d (.str []),.d (I 0),.d (I 0)])],3,[],0⟩ ?_ ?_
   ·((repeat' first|refine aw ?_|refine bw (fun _=>?_) fun _=>?_))
    exact WT_done (.inl ⟨rfl,by exact Uw.wW⟩)
   ·((repeat' first|refine aw ?_|refine bw (fun _=>?_) fun _=>?_))
    exact WT_leave (WT_ret (P:=P0) rfl rfl rfl rfl rfl)
 ·have hA:=k2 (by omega)
  by_cases hB:B=0
  ·clear f1 f2 f3 f4 hv
   subst hB
   ((repeat' first|refine aw ?_|refine bw (fun _=>?_) fun _=>?_))
   refine WT_elem _ rfl ?_
   ((repeat' first|refine aw ?_|refine bw (fun _=>?_) fun _=>?_))
   refine WT_subret _ is_lex_number.body rfl h2 ?_
   ((repeat' first|refine aw ?_|refine bw (fun _=>?_) fun _=>?_))
   exact WT_again 2 (by omega) (by omega) (by exact Uw.wW)
  ·obtain ⟨e,q1,q2,hle⟩:=f2 hA hB
   have hv:=hv ⟨hA,hB⟩
   subst e
   clear f1 f2 f3 f4
   ((repeat' first|refine aw ?_|refine bw (fun _=>?_) fun _=>?_))
   refine WT_elem _ rfl ?_
   ((repeat' first|refine aw ?_|refine bw (fun _=>?_) fun _=>?_))
   refine WT_subret _ is_lex_number.body rfl h2 ?_
   ((repeat' first|refine aw ?_|refine bw (fun _=>?_) fun _=>?_))
   refine WT_draw ⟨[(7,.ptr 1 0),(9,.ptr 2 0),(4,.ptr 0 0)],[(2,.var [.d (I 2),.d (.str ((s.take B).drop 0)),.d (I 0),.d (I 0)]),(1,.var [.d (I 2),.d (.func n_lex_number)]),(0,.var [.d (I 0),.d (.str []),.d (I 0),.d (I 0)])],3,[],0⟩ ?_ ?_
   ·((repeat' first|refine aw ?_|refine bw (fun _=>?_) fun _=>?_))
    exact WT_done (.inl ⟨rfl,by exact Uw.wW⟩)
   ·((repeat' first|refine aw ?_|refine bw (fun _=>?_) fun _=>?_))
    exact WT_leave (WT_ret (P:=P0) rfl rfl rfl rfl rfl)
 ·have hA:=k2 (by omega)
  have hB:=k3 (by omega)
  by_cases hC:C=0
  ·clear f1 f2 f3 f4 hv
   subst hC
   ((repeat' first|refine aw ?_|refine bw (fun _=>?_) fun _=>?_))
   refine WT_elem _ rfl ?_
   ((repeat' first|refine aw ?_|refine bw (fun _=>?_) fun _=>?_))
   refine WT_subret _ is_lex_sign.body rfl h3 ?_
   ((repeat' first|refine aw ?_|refine bw (fun _=>?_) fun _=>?_))
   exact WT_again 3 (by omega) (by omega) (by exact Uw.wW)
  ·obtain ⟨e,hle⟩:=f3 hA hB hC
   subst e
   clear f1 f2 f3 f4 hv
   ((repeat' first|refine aw ?_|refine bw (fun _=>?_) fun _=>?_))
   refine WT_elem _ rfl ?_
   ((repeat' first|refine aw ?_|refine bw (fun _=>?_) fun _=>?_))
   refine WT_subret _ is_lex_sign.body rfl h3 ?_
   ((repeat' first|refine aw ?_|refine bw (fun _=>?_) fun _=>?_))
   refine WT_draw ⟨[(7,.ptr 1 0),(9,.ptr 2 0),(4,.ptr 0 0)],[(2,.var [.d (I 3),.d (.str ((s.take C).drop 0)),.d (I 0),.d (I 0)]),(1,.var [.d (I 3),.d (.func n_lex_sign)]),(0,.var [.d (I 0),.d (.str []),.d (I 0),.d (I 0)])],3,[],0⟩ ?_ ?_
   ·((repeat' first|refine aw ?_|refine bw (fun _=>?_) fun _=>?_))
    exact WT_done (.inl ⟨rfl,by exact Uw.wW⟩)
   ·((repeat' first|refine aw ?_|refine bw (fun _=>?_) fun _=>?_))
    exact WT_leave (WT_ret (P:=P0) rfl rfl rfl rfl rfl)
 ·have hA:=k2 (by omega)
  have hB:=k3 (by omega)
  have hC:=k4 (by omega)
  have e:=f4 hA hB hC
  subst e
  clear f1 f2 f3 f4 hv k2 k3 k4
  ((repeat' first|refine aw ?_|refine bw (fun _=>?_) fun _=>?_))
  exact WT_ret (P:=P0) rfl rfl rfl rfl rfl
end Uw.Tryz
namespace Uw.Tryz
open Go Uw Go.Proofs Go.RowKit
theorem firstR_none {r:List UInt8} (h:tokLen r=none):firstR r=(⟨0,[],0,0⟩,false):=by rw [firstR,h]
theorem firstR_some {r:List UInt8} {k:Int} {n:Nat} {v:Int} (h:tokLen r=some (k,n,v)):firstR r=(⟨k,r.take n,v,0⟩,true):=by rw [firstR,h]
theorem nameB_low {b:UInt8} (h:nameB b=true):b.toNat<128:=by
 simp only [nameB,Bool.or_eq_true,decide_eq_true_eq] at h
 unfold cls at h
 repeat' split at h
 all_goals omega
theorem cls_low {b:UInt8} (h:cls b≠0):b.toNat<128:=by
 unfold cls at h
 repeat' split at h
 all_goals omega
theorem takeWhile_all {α:Type} (p:α→Bool) (l:List α):∀x∈l.takeWhile p,p x=true:=List.all_eq_true.1 (all_takeWhile p l)
theorem tok_low {r:List UInt8} {k:Int} {n:Nat} {v:Int} (h:tokLen r=some (k,n,v)):∀b∈r.take n,b.toNat<128:=by
 cases r with
 | nil=>simp [tokLen] at h
 | cons c t=>
  by_cases h1:cls c=1
  ·rw [tokLen_name c t h1] at h
   have e:endOf (c::t)=1+(t.takeWhile nameB).length:=by simp [endOf,h1]
   split at h
   ·simp only [Option.some.injEq,Prod.mk.injEq] at h
    rw [← h.2.1,e,Nat.add_comm,List.take_succ_cons,take_takeWhile]
    intro b hb
    rcases List.mem_cons.1 hb with rfl|hb
    ·exact cls_low (by omega)
    ·exact nameB_low (takeWhile_all _ _ b hb)
   ·cases h
  ·by_cases h2:cls c=2
   ·have hd:=take_dig c t h2
    rw [tokLen_dig c t h2] at h
    split at h
    ·simp only [Option.some.injEq,Prod.mk.injEq] at h
     rw [← h.2.1,hd]
     intro b hb
     rcases List.mem_cons.1 hb with rfl|hb
     ·exact cls_low (by omega)
     ·have:=digB_range (takeWhile_all _ _ b hb);omega
    ·cases h
   ·by_cases h5:cls c=5
    ·have he:=endOf_sign c t h5
     rw [tokLen_sign c t h5] at h
     simp only [Option.some.injEq,Prod.mk.injEq] at h
     rw [← h.2.1,he]
     intro b hb
     split at hb
     ·rename_i q
      cases t with
      | nil=>simp [eqq] at q
      | cons d u=>
       simp only [eqq,decide_eq_true_eq] at q
       simp at hb
       rcases hb with rfl|rfl<;>omega
     ·simp at hb;subst hb;exact cls_low (by omega)
    ·rw [tokLen_other c t h1 h2 h5] at h;cases h
def lowTo (s:List UInt8) (k b:Nat):Prop:=∀i,k≤i→i<b→∀c,s[i]? = some c→c.toNat<128
theorem s_lex_Words (s:List UInt8) (hs:s.length<1000000):Ret P0 n_lex_Words [.str s] (wordsD (wordsR s)):=by
 refine Ret.res (r:=rawW s) ?_ (raw_dle s)
 by_cases h4:4000<s.length
 ·have e:rawW s = .tuple [.nil,I 2]:=by rw [rawW,if_pos h4]
  rw [e]
  refine Ret_by is_lex_Words rfl ?_
  ((repeat' first|refine aw ?_|refine bw (fun _=>?_) fun _=>?_))
  exact WT_ret (P:=P0) rfl rfl rfl rfl rfl
 ·have bad:lexF s 0=none→rawW s = .tuple [.nil,I 3]:=fun h=>by rw [rawW,if_neg h4,h]
  have good:∀l,lexF s 0=some l→rawW s = .tuple [toksD l,I 0]:=fun l h=>by rw [rawW,if_neg h4,h]
  generalize rawW s=R at bad good
  refine Ret_by is_lex_Words rfl ?_
  ((repeat' first|refine aw ?_|refine bw (fun _=>?_) fun _=>?_))
  refine WT_loop (fun ((k,b,n,xs):Nat×Nat×Nat×List (List Dat))=>⟨[(19,.hnd 0),(6,.d (I b)),(5,.ref 1 0 0 n),(4,.d (Dat.slice 2 ((((List.replicate 3 [Dat.int IntKind.i64 0,Dat.nilFunc]).set 0 [Dat.int IntKind.i64 1,Dat.func n_lex_name]).set 1 [Dat.int IntKind.i64 2,Dat.func n_lex_number]).set 2 [Dat.int IntKind.i64 3,Dat.func n_lex_sign]) true)),(0,.d (.str s))],[(1,.arr 4 xs),(0,.iter s k)],2,[],0⟩)
   (fun (k,b,n,xs)=>k≤s.length∧b≤s.length∧n=xs.length∧n≤b∧n≤k∧lowTo s k b∧∃out,xs=out.map tokL∧Read s (max k b) out) (fun (k,_)=>s.length - k) (0,0,0,[]) (by exact Uw.wW) ⟨by omega,by omega,rfl,by omega,by omega,by intro i h1 h2;omega,[],rfl,Read.init s⟩ ?_
  rintro ⟨k,b,n,xs⟩ ⟨h1,h2,h3,h3',h3'',hlow,out,h5,h6⟩
  by_cases hk:k<s.length
  ·have hk' : s[k]? = some s[k]:=by simp [hk]
   have hd:s.drop k=s[k]::s.drop (k+1):=List.drop_eq_getElem_cons hk
   by_cases hkb:k<b
   ·have hl:=hlow k (Nat.le_refl _) hkb s[k] hk'
    have hr:=runeAt_low s k s[k] hk' hl
    have hr2:(runeAt s k).2=1:=by rw [hr]
    clear hr
    have hm:max (k+(runeAt s k).2) b=max k b:=by omega
    have h7:Read s (max (k+(runeAt s k).2) b) out:=by rw [hm];exact h6
    have hl2:lowTo s (k+(runeAt s k).2) b:=fun i q1 q2=>hlow i (by omega) q2
    clear good bad h6 hd hlow
    ((repeat' first|refine aw ?_|refine bw (fun _=>?_) fun _=>?_))
    exact WT_again (k+(runeAt s k).2,b,n,xs) ⟨by omega,h2,h3,h3',by omega,hl2,out,h5,h7⟩ (by simp only;omega) (by exact Uw.wW)
   ·have hm:max k b=k:=by omega
    rw [hm] at h6
    have hbl:=s_lex_blank ((runeAt s k).1:Int)
    have hfi:=(s_lex_first s[k] (s.drop (k+1)) (by rw [← hd];simp;omega)).args (ds:=[.slice 2 [[I 1,.func n_lex_name],[I 2,.func n_lex_number],[I 3,.func n_lex_sign]] true,.str (s[k]::s.drop (k+1))]) (.cons (.slice (.refl _)) (.refl _))
    rw [← hd] at hfi
    have hfi' : Ret P0 n_lex_first [.slice 2 [[I 1,.func n_lex_name],[I 2,.func n_lex_number],[I 3,.func n_lex_sign]] true,.str ((s.take s.length).drop k)] (firstD (firstR (s.drop k))):=by rw [List.take_length];exact hfi
    clear hfi
    by_cases hl:s[k].toNat<128
    ·have hr:=runeAt_low s k s[k] hk' hl
     have hr1:((runeAt s k).1:Int)=s[k].toNat:=by rw [hr]
     have hr2:(runeAt s k).2=1:=by rw [hr]
     clear hr
     rw [show blkR ((runeAt s k).1:Int)=decide (cls s[k]=4) by rw [hr1,blkR_cls]] at hbl
     by_cases k4:cls s[k]=4
     ·rw [decide_eq_true k4] at hbl
      have h7:Read s (max (k+(runeAt s k).2) b) out:=by rw [hr2,show max (k+1) b=k+1 by omega];exact h6.blank hk k4
      have hl2:lowTo s (k+(runeAt s k).2) b:=fun i q1 q2=>by omega
      clear good bad h6 hd hlow hfi'
      ((repeat' first|refine aw ?_|refine bw (fun _=>?_) fun _=>?_))
      exact WT_again (k+(runeAt s k).2,b,n,xs) ⟨by omega,h2,h3,h3',by omega,hl2,out,h5,h7⟩ (by simp only;omega) (by exact Uw.wW)
     ·rw [decide_eq_false k4] at hbl
      cases ht:tokLen (s.drop k) with
      | none=>
       rw [firstR_none ht] at hfi'
       have hb:=bad (h6.none hk k4 ht)
       subst hb
       clear good bad h6 hd hlow ht
       ((repeat' first|refine aw ?_|refine bw (fun _=>?_) fun _=>?_))
       exact WT_leave (WT_ret (P:=P0) rfl rfl rfl rfl rfl)
      | some x=>
       obtain ⟨K,N,v⟩:=x
       rw [firstR_some ht] at hfi'
       have hn:=tokLen_le ht
       have hlw:=tok_low ht
       have h8:=h6.tok hk k4 ht
       have hN:k+N≤s.length:=by have:=hn.2;simp at this;omega
       have hxl:((s.drop k).take N).length=N:=tok_len hN
       have h7:Read s (max (k+(runeAt s k).2) (k+N)) (out++[⟨K,(s.drop k).take N,v,k⟩]):=by rw [hr2,show max (k+1) (k+N)=k+N by omega];exact h8
       have hl2:lowTo s (k+(runeAt s k).2) (k+N):=by
        intro i q1 q2 c hc
        refine hlw c ?_
        rw [List.mem_take_iff_getElem]
        refine ⟨i - k,by simp;have:=(List.getElem?_eq_some_iff.1 hc).1;omega,?_⟩
        rw [List.getElem_drop]
        have:=(List.getElem?_eq_some_iff.1 hc).2
        simp only [show k+(i - k)=i by omega];exact this
       generalize (s.drop k).take N=w at *
       clear good bad h6 hd hlow ht h8 hlw
       have hen:(k:Int)+(w.length:Int)=((k+N:Nat):Int):=by omega
       ((repeat' first|refine aw ?_|refine bw (fun _=>?_) fun _=>?_))
       refine WT_again (k+(runeAt s k).2,k+N,n+1,xs++[[I K,.str w,I v,I k]]) ⟨by omega,hN,by simp [h3],by omega,by omega,hl2,out++[⟨K,w,v,k⟩],?_,h7⟩ (by simp only;omega) (by exact Uw.wW)
       rw [h5];simp [tokL]
    ·obtain ⟨a1,a2,a3,a4,a5⟩:=runeAt_high s k s[k] hk' (by omega)
     have hc0:cls s[k]=0:=by
      by_cases h:cls s[k]=0
      ·exact h
      ·exact absurd (cls_low h) hl
     have ht:tokLen (s.drop k)=none:=by rw [hd];exact tokLen_other _ _ (by omega) (by omega) (by omega)
     rw [show blkR ((runeAt s k).1:Int)=false by simp [blkR];omega] at hbl
     rw [firstR_none ht] at hfi'
     have hb:=bad (h6.none hk (by omega) ht)
     subst hb
     clear good bad h6 hd hlow ht a5
     ((repeat' first|refine aw ?_|refine bw (fun _=>?_) fun _=>?_))
     exact WT_leave (WT_ret (P:=P0) rfl rfl rfl rfl rfl)
  ·have hg:=good out (h6.end (by omega))
   subst hg
   clear good bad h6 hlow
   ((repeat' first|refine aw ?_|refine bw (fun _=>?_) fun _=>?_))
   exact WT_ret (P:=P0) rfl rfl rfl rfl (by rw [row_eq h3 h5];rfl)
end Uw.Tryz
namespace Uw.Tryz
open Go Uw
def rawP (x:List Dec×List Fn):Dat:=.agg [.slice 3 (x.1.map decL) false,.slice 3 (frows x.2 0) false,.slice 5 ((nodesF x.2 0).map nodL) false]
def noD:Dat:=.agg [.nil,.nil,.nil]
theorem of_calm (h:Heap) (nx:Nat):SatD P0 n_parse_Of_1 [.ptr 0 0,.ptr 1 0] h nx none (fun h' nx'=>h' = h∧nx' = nx):=by
 refine SatD_of_exec is_parse_Of_1 rfl ?_
 refine WT_f rfl ?_
 exact WT_done ⟨.inl rfl,rfl,rfl,rfl⟩
theorem of_caught (a b c d:V) (nx:Nat):SatD P0 n_parse_Of_1 [.ptr 0 0,.ptr 1 0] [(0,.var [a,b,c]),(1,.var [d])] nx (some wrongD) (fun h' nx'=>h' = (1,.var [.d (I 3)])::(0,.var [.d .nil,.d .nil,.d .nil])::[(0,.var [a,b,c]),(1,.var [d])]∧nx' = nx):=by
 refine SatD_of_exec is_parse_Of_1 rfl ?_
 refine WT_t rfl ?_
 exact WT_done ⟨.inl rfl,rfl,rfl,rfl⟩
theorem s_parse_Of_err (s:List UInt8) (hs:s.length<1000000) (l:List Tok) (e:Int) (hw:wordsR s=(l,e)) (he:e≠0):Ret P0 n_parse_Of [.str s] (.tuple [noD,I e]):=by
 have h1:=s_lex_Words s hs
 rw [hw] at h1
 refine Ret_of_execDW is_parse_Of rfl ?_
 ((repeat' first|refine aw ?_|refine bw (fun _=>?_) fun _=>?_))
 refine WT_draw ⟨[(3,.ptr 1 0),(2,.ptr 0 0)],[(1,.var [.d (I e)]),(0,.var [.d .nil,.d .nil,.d .nil])],2,[],0⟩ ?_ ?_
 ·((repeat' first|refine aw ?_|refine bw (fun _=>?_) fun _=>?_))
  exact WT_done (.inl ⟨rfl,by exact Uw.wW⟩)
 ·((repeat' first|refine aw ?_|refine bw (fun _=>?_) fun _=>?_))
  exact WT_done ⟨_,.inl rfl,.inl ⟨.inr rfl,rfl,_,_,rfl,rfl,rfl,rfl⟩⟩
theorem s_parse_Of_deep (s:List UInt8) (hs:s.length<1000000) (l:List Tok) (hl:l.length<1000000) (hw:wordsR s=(l,0)) (he:40<deepT l 0 0):Ret P0 n_parse_Of [.str s] (.tuple [noD,I 2]):=by
 have h1:=s_lex_Words s hs
 have h2:=s_parse_Depth l hl
 rw [hw] at h1
 generalize deepT l 0 0=d at *
 refine Ret_of_execDW is_parse_Of rfl ?_
 ((repeat' first|refine aw ?_|refine bw (fun _=>?_) fun _=>?_))
 exact WT_done ⟨_,.inl rfl,.inl ⟨.inr rfl,rfl,_,_,rfl,rfl,rfl,rfl⟩⟩
theorem s_parse_Of_bad (s:List UInt8) (hs:s.length<1000000) (l:List Tok) (hl:l.length<1000000) (hw:wordsR s=(l,0)) (he:deepT l 0 0≤40) (hb:SatP P0 n_parse_reader_program [.ptr 0 0] (rdN l 0 []) wrongD):Ret P0 n_parse_Of [.str s] (.tuple [noD,I 3]):=by
 have h1:=s_lex_Words s hs
 have h2:=s_parse_Depth l hl
 rw [hw] at h1
 generalize deepT l 0 0=d at *
 refine Ret_of_execDW is_parse_Of rfl ?_
 ((repeat' first|refine aw ?_|refine bw (fun _=>?_) fun _=>?_))
 refine WT_frPW 3 [2] hb ?_
 intro h0 n0
 ·refine WT_done ⟨⟨[(2,.ptr 0 0),(3,.ptr 1 0)],[(0,.var [.d .nil,.d .nil,.d .nil]),(1,.var [.d (I 0)])],2,_,0⟩,.inr (Weak.rest ?_ ?_ rfl rfl rfl),.inr ⟨some wrongD,n_parse_Of_1,[],[.ptr 0 0,.ptr 1 0],.inr ⟨_,rfl,rfl⟩,rfl,?_⟩⟩
  ·intro p hp
   simp only [List.mem_cons,List.not_mem_nil,or_false] at hp
   rcases hp with rfl|rfl
   ·exact ⟨rfl,rfl,rfl⟩
   ·exact ⟨rfl,rfl,rfl⟩
  ·intro p hp
   simp only [List.mem_cons,List.not_mem_nil,or_false] at hp
   rcases hp with rfl|rfl
   ·exact ⟨by decide,by decide,rfl,rfl,rfl,rfl⟩
   ·exact ⟨by decide,by decide,rfl,rfl,rfl,rfl⟩
  ·refine SatD.mono (of_caught _ _ _ _ _) ?_
   rintro h' nx' ⟨rfl,rfl⟩
   exact ⟨[.agg [.d .nil,.d .nil,.d .nil],.d (I 3)],_,rfl,rfl,rfl,rfl⟩
theorem s_parse_Of_ok (s:List UInt8) (hs:s.length<1000000) (l:List Tok) (hl:l.length<1000000) (hw:wordsR s=(l,0)) (he:deepT l 0 0≤40) (a b c:List (List Dat)) (ns:List Nod)
  (hb:SatE P0 n_parse_reader_program [.ptr 0 0] (rdN l 0 []) (.agg [.d (.slice 3 a false),.d (.slice 3 b false),.d (.slice 5 c false)]) (rdN l l.length ns)):Ret P0 n_parse_Of [.str s] (.tuple [.agg [.slice 3 a false,.slice 3 b false,.slice 5 c false],I 0]):=by
 have h1:=s_lex_Words s hs
 have h2:=s_parse_Depth l hl
 rw [hw] at h1
 generalize deepT l 0 0=d at *
 refine Ret_of_execDW is_parse_Of rfl ?_
 ((repeat' first|refine aw ?_|refine bw (fun _=>?_) fun _=>?_))
 refine WT_frE 3 [2] hb ?_
 ((repeat' first|refine aw ?_|refine bw (fun _=>?_) fun _=>?_))
 refine WT_done ⟨_,.inl rfl,.inr ⟨none,n_parse_Of_1,[],[.ptr 0 0,.ptr 1 0],.inl ⟨.inr rfl,rfl⟩,rfl,?_⟩⟩
 refine SatD.mono (of_calm _ _) ?_
 rintro h' nx' ⟨rfl,rfl⟩
 exact ⟨[.agg [.d (.slice 3 a false),.d (.slice 3 b false),.d (.slice 5 c false)],.d (I 0)],_,rfl,rfl,rfl,rfl⟩
def ofOut (x:Pg×Int):Dat:=.tuple [pgD x.1,I x.2]
theorem frows_le:∀(fs:List Fn) (b:Nat),DLeE (frows fs b) ((funsF fs b).map fuL)
 | [],b=>.refl _
 | f::fs,b=>by
  refine .cons (.cons (.refl _) (.cons ?_ (.refl _))) (frows_le fs _)
  show DLe (strsD f.args) (strsC f.args)
  unfold strsD
  split
  ·rename_i h;rw [h];exact .nil 1
  ·exact .refl _
theorem ofD_le {x:Nod} (h:x.kind=1∨x.kind=2∨x.kind=12→x.of=[]):DLe (ofD x.kind x.of) (intsD (x.of.map fun (i:Nat)=>(i:Int))):=by
 have e:(x.of.map fun (i:Nat)=>[I i])=((x.of.map fun (i:Nat)=>(i:Int)).map fun i=>[I i]):=by simp
 unfold ofD intsD
 split
 ·rename_i hk;rw [h hk];exact .nil 1
 ·split
  ·split
   ·rename_i h0;rw [h0];exact .nil 1
   ·rw [e];exact .refl _
  ·split
   ·rw [e];exact .refl _
   ·rw [e];exact .slice (.refl _)
def NoOf (l:List Nod):Prop:=∀x∈l,x.kind=1∨x.kind=2∨x.kind=12→x.of=[]
theorem NoOf.app {a b:List Nod} (h1:NoOf a) (h2:NoOf b):NoOf (a++b):=fun x hx=>(List.mem_append.1 hx).elim (h1 x) (h2 x)
theorem NoOf.one {x:Nod} (h:x.kind=1∨x.kind=2∨x.kind=12→x.of=[]):NoOf [x]:=fun y hy=>by simp at hy;subst hy;exact h
end Uw.Tryz
namespace Uw.Tryz
open Go Uw
def NameS (s:Str):Prop:=tokLen s=some (1,s.length,0)
def NameOk (s:Str):Prop:=NameS s∧keyw s=false
def NumOk (n:Int):Prop:=0≤n∧n<4294967296
structure TokOk (t:Tok):Prop where
 name:t.kind=1→NameS t.text
 num:t.kind=2→NumOk t.n
 wf:Wf t
mutual
def Ex.good:Ex→Prop
 | .num n=>NumOk n
 | .name s=>NameOk s
 | .bin k a b=>(3≤k∧k≤7)∧a.good∧b.good
 | .call o v ar=>NameOk o∧NameOk v∧ar.good
def Exs.good:Exs→Prop
 | .nil=>True
 | .cons e r=>e.good∧r.good
end
mutual
def Stm.good:Stm→Prop
 | .set s e=>NameOk s∧e.good
 | .task par to f ar=>(to=[]∨NameOk to)∧NameOk f∧ar.good∧(par=true→ar.length=2)
 | .sync=>True
 | .if1 e a=>e.good∧a.good
 | .if2 e a b=>e.good∧a.good∧b.good
 | .loop e a=>e.good∧a.good
 | .one k e=>(k=15∨k=16)∧e.good
 | .act o v ar=>NameOk o∧NameOk v∧ar.good
def Bl.good:Bl→Prop
 | .nil=>True
 | .cons s r=>s.good∧r.good
end
structure Dec.good (d:Dec):Prop where
 kind:0≤d.kind∧d.kind≤3
 name:NameOk d.name
 n:NumOk d.n
 zero:d.kind≠0→d.n=0
structure Fn.good (f:Fn):Prop where
 name:NameOk f.name
 args:∀s∈f.args,NameOk s
 body:f.body.good
def VV {α:Type} (p:List Tok→R α) (Q:α→Prop):Prop:=∀r a r',(∀t∈r,TokOk t)→p r = .ok a r'→Q a∧∀t∈r',TokOk t
section
variable {α β : Type} {Q : α → Prop} {Q1 : β → Prop}
theorem VV.ret {a:α} (h:Q a):VV (cRet a) Q:=by
 intro r b r' ht he
 injection he with h1 h2
 subst h1 h2
 exact ⟨h,ht⟩
theorem VV.bad:VV (cBad (α:=α)) Q:=by intro r b r' ht he;cases he
theorem VV.out:VV (fun _=>(.out:R α)) Q:=by intro r b r' ht he;cases he
theorem VV.bind {p:List Tok→R β} {f:β→List Tok→R α} (h1:VV p Q1) (h2:∀b,Q1 b→VV (f b) Q):VV (cBind p f) Q:=by
 intro r a r' ht he
 obtain ⟨b,r1,e1,e2⟩:=bind_ok.1 he
 obtain ⟨g1,g2⟩:=h1 _ _ _ ht e1
 exact h2 b g1 _ _ _ g2 e2
theorem VV.want {s:Str} {p:List Tok→R α} (h:VV p Q):VV (cWant s p) Q:=by
 intro r a r' ht he
 obtain ⟨b,r1,e1,e2⟩:=bind_ok.1 he
 obtain ⟨_,rfl⟩:=want_ok e1
 exact h _ _ _ (fun t h=>ht t (List.mem_of_mem_tail h)) e2
theorem VV.skip {s:Str} {p q:List Tok→R α} (h1:VV p Q) (h2:VV q Q):VV (cSkip s p q) Q:=by
 intro r a r' ht he
 unfold cSkip at he
 split at he
 ·exact h1 _ _ _ (fun t h=>ht t (List.mem_of_mem_tail h)) he
 ·exact h2 _ _ _ ht he
theorem VV.peek {s:Str} {p q:List Tok→R α} (h1:VV p Q) (h2:VV q Q):VV (cPeek s p q) Q:=by
 intro r a r' ht he
 unfold cPeek at he
 split at he
 ·exact h1 _ _ _ ht he
 ·exact h2 _ _ _ ht he
theorem VV.name {f:Str→List Tok→R α} (h:∀s,NameOk s→VV (f s) Q):VV (cName f) Q:=by
 intro r a r' ht he
 obtain ⟨b,r1,e1,e2⟩:=bind_ok.1 he
 obtain ⟨t,rfl,rfl,h4,h5⟩:=name_ok e1
 exact h _ ⟨(ht t (List.mem_cons_self ..)).name h4,h5⟩ _ _ _ (fun t h=>ht t (List.mem_cons_of_mem _ h)) e2
theorem VV.word {k:Int} {f:Str→Int→List Tok→R α} (h:∀s n,(k=2→NumOk n)→VV (f s n) Q):VV (cWord k f) Q:=by
 intro r a r' ht he
 obtain ⟨t,r1,e1,e2⟩:=bind_ok.1 he
 obtain ⟨q,rfl,rfl,h4⟩:=word_ok e1
 exact h _ _ (fun e=>(ht t (List.mem_cons_self ..)).num (by omega)) _ _ _ (fun t h=>ht t (List.mem_cons_of_mem _ h)) e2
theorem VV.num {f:Int→List Tok→R α} {q:List Tok→R α} (h1:∀n,NumOk n→VV (f n) Q) (h2:VV q Q):VV (cNum f q) Q:=by
 intro r a r' ht he
 unfold cNum at he
 split at he
 ·rename_i hn
  cases r with
  | nil=>cases hn
  | cons t l=>
   have hk:t.kind=2:=by simpa [isNum] using hn
   exact h1 _ ((ht t (List.mem_cons_self ..)).num hk) _ _ _ (fun t h=>ht t (List.mem_cons_of_mem _ h)) he
 ·exact h2 _ _ _ ht he
theorem VV.mono {Q' : α→Prop} {p:List Tok→R α} (h:VV p Q) (hq:∀a,Q a→Q' a):VV p Q':=fun r a r' ht he=>⟨hq a (h r a r' ht he).1,(h r a r' ht he).2⟩
end
theorem vv_out {α:Type} {Q:α→Prop} {p:List Tok→R α} (h:∀r,p r = .out):VV p Q:=by
 intro r a r' _ he;rw [h] at he;cases he
structure VE (n:Nat):Prop where
 prim:VV (pPrim n) Ex.good
 call:∀s,VV (pCall n s) fun x=>NameOk x.1∧x.2.good
 args:VV (pArgs n) Exs.good
 argsT:VV (pArgsT n) Exs.good
 prod:VV (pProd n) Ex.good
 prodT:∀l,l.good→VV (pProdT n l) Ex.good
 sum:VV (pSum n) Ex.good
 sumT:∀l,l.good→VV (pSumT n l) Ex.good
 expr:VV (pExpr n) Ex.good
theorem ve:∀n,VE n
 | 0=>⟨vv_out fun r=>by rw [pPrim],fun s=>vv_out fun r=>by rw [pCall],vv_out fun r=>by rw [pArgs],vv_out fun r=>by rw [pArgsT],vv_out fun r=>by rw [pProd],fun l _=>vv_out fun r=>by rw [pProdT],vv_out fun r=>by rw [pSum],fun l _=>vv_out fun r=>by rw [pSumT],vv_out fun r=>by rw [pExpr]⟩
 | n+1=>by
  have ih:=ve n
  refine ⟨?_,?_,?_,?_,?_,?_,?_,?_,?_⟩
  ·rw [pPrim_eq n]
   exact .skip (.bind ih.expr fun e he=>.want (.ret he)) (.num (fun v hv=>.ret hv) (.name fun s hs=>.peek (.bind (ih.call s) fun x hx=>.ret ⟨hs,hx.1,hx.2⟩) (.ret hs)))
  ·intro s
   rw [pCall_eq n]
   exact .want (.name fun v hv=>.bind ih.args fun ar har=>.ret ⟨hv,har⟩)
  ·rw [pArgs_eq n]
   exact .want (.skip (.ret trivial) (.bind ih.expr fun e he=>.bind ih.argsT fun es hes=>.ret ⟨he,hes⟩))
  ·rw [pArgsT_eq n]
   exact .skip (.bind ih.expr fun e he=>.bind ih.argsT fun es hes=>.ret ⟨he,hes⟩) (.want (.ret trivial))
  ·rw [pProd_eq n]
   exact .bind ih.prim fun e he=>ih.prodT e he
  ·intro l hl
   rw [pProdT_eq n]
   exact .skip (.bind ih.prim fun e he=>ih.prodT _ ⟨by omega,hl,he⟩) (.ret hl)
  ·rw [pSum_eq n]
   exact .bind ih.prod fun e he=>ih.sumT e he
  ·intro l hl
   rw [pSumT_eq n]
   exact .skip (.bind ih.prod fun e he=>ih.sumT _ ⟨by omega,hl,he⟩) (.skip (.bind ih.prod fun e he=>ih.sumT _ ⟨by omega,hl,he⟩) (.ret hl))
  ·rw [pExpr_eq n]
   exact .bind ih.sum fun l hl=>.skip (.bind ih.sum fun e he=>.ret ⟨by omega,hl,he⟩) (.skip (.bind ih.sum fun e he=>.ret ⟨by omega,hl,he⟩) (.ret hl))
theorem vv_child (n:Nat) (to:Str) (hto:to=[]∨NameOk to):VV (pChild n to) Stm.good:=by
 rw [pChild_eq n]
 refine .bind (Q1:=fun _=>True) (.skip (.ret trivial) (.want (.ret trivial))) fun par _=>.name fun f hf=>.bind (ve n).args fun ar har=>?_
 split
 ·exact .bad
 ·rename_i h
  refine .ret ⟨hto,hf,har,fun hp=>?_⟩
  exact Classical.byContradiction fun hn=>h ⟨hp,hn⟩
theorem vv_simple (n:Nat):VV (pSimple n) Stm.good:=by
 rw [pSimple_eq n]
 exact .peek (vv_child n [] (.inl rfl)) (.peek (vv_child n [] (.inl rfl)) (.skip (.ret trivial) (.skip (.bind (ve n).expr fun e he=>.ret ⟨.inl rfl,he⟩) (.skip (.bind (ve n).expr fun e he=>.ret ⟨.inr rfl,he⟩)
  (.name fun s hs=>.peek (.bind ((ve n).call s) fun x hx=>.ret ⟨hs,hx.1,hx.2⟩) (.want (.peek (vv_child n s (.inr hs)) (.peek (vv_child n s (.inr hs)) (.bind (ve n).expr fun e he=>.ret ⟨hs,he⟩)))))))))
structure VS (n:Nat):Prop where
 stmt:VV (pStmt n) Stm.good
 block:VV (pBlock n) Bl.good
 stmts:VV (pStmts n) Bl.good
theorem vs_:∀n,VS n
 | 0=>⟨vv_out fun r=>by rw [pStmt],vv_out fun r=>by rw [pBlock],vv_out fun r=>by rw [pStmts]⟩
 | n+1=>by
  have ih:=vs_ n
  refine ⟨?_,?_,?_⟩
  ·rw [pStmt_eq n]
   exact .skip (.bind (ve n).expr fun e he=>.bind ih.block fun a ha=>.skip (.bind ih.block fun b hb=>.ret ⟨he,ha,hb⟩) (.ret ⟨he,ha⟩)) (.skip (.bind (ve n).expr fun e he=>.bind ih.block fun a ha=>.ret ⟨he,ha⟩) (.bind (vv_simple n) fun s hs=>.want (.ret hs)))
  ·rw [pBlock_eq n]
   exact .want ih.stmts
  ·rw [pStmts_eq n]
   exact .skip (.ret trivial) (.bind ih.stmt fun s hs=>.bind ih.stmts fun ss hss=>.ret ⟨hs,hss⟩)
theorem vv_namesT:∀n,VV (pNamesT n) fun l=>∀s∈l,NameOk s
 | 0=>vv_out fun r=>by rw [pNamesT]
 | n+1=>by
  rw [pNamesT_eq n]
  refine .skip (.name fun s hs=>.bind (vv_namesT n) fun l hl=>.ret ?_) (.want (.ret (by simp)))
  intro x hx
  rcases List.mem_cons.1 hx with rfl|hx
  ·exact hs
  ·exact hl x hx
theorem vv_fun (n:Nat):VV (pFun n) Fn.good:=by
 rw [pFun_eq n]
 refine .want (.name fun s hs=>.bind (Q1:=fun l=>∀s∈l,NameOk s) ?_ fun l hl=>.bind (vs_ n).block fun b hb=>.ret ⟨hs,hl,hb⟩)
 rw [pNames_eq n]
 refine .want (.skip (.ret (by simp)) (.name fun s hs=>.bind (vv_namesT n) fun l hl=>.ret ?_))
 intro x hx
 rcases List.mem_cons.1 hx with rfl|hx
 ·exact hs
 ·exact hl x hx
theorem kindOf_le {s:Str} {k:Int} (h:kindOf s=some k):0≤k∧k≤3:=by
 unfold kindOf at h
 repeat' split at h
 all_goals first|(injection h with h;omega)|cases h
theorem num0:NumOk 0:=⟨by decide,by decide⟩
theorem vv_decl:VV pDecl Dec.good:=by
 rw [pDecl_eq]
 refine .word fun t _ _=>?_
 unfold cKind
 cases hk:kindOf t with
 | none=>exact .bad
 | some k=>
  have:=kindOf_le hk
  refine .name fun s hs=>?_
  show VV (if k=0 then _ else _) _
  split
  ·exact .skip (.word fun _ n hn=>.want (.ret ⟨this,hs,hn rfl,fun h=>absurd ‹k=0› h⟩)) (.want (.ret ⟨this,hs,num0,fun h=>rfl⟩))
  ·exact .want (.ret ⟨this,hs,num0,fun h=>rfl⟩)
theorem Decs.good {r r' : List Tok} {ds:List Dec} (h:Decs r ds r'):(∀t∈r,TokOk t)→(∀d∈ds,d.good)∧∀t∈r',TokOk t:=by
 induction h with
 | stop _=>exact fun ht=>⟨by simp,ht⟩
 | cons _ h1 _ ih=>
  intro ht
  obtain ⟨g1,g2⟩:=vv_decl _ _ _ ht h1
  obtain ⟨g3,g4⟩:=ih g2
  exact ⟨fun d hd=>(List.mem_cons.1 hd).elim (fun e=>e ▸ g1) (g3 d),g4⟩
theorem Funs.good {r:List Tok} {fs:List Fn} (h:Funs r fs):(∀t∈r,TokOk t)→∀f∈fs,f.good:=by
 induction h with
 | nil=>exact fun ht=>by simp
 | cons h1 _ ih=>
  intro ht
  obtain ⟨n,h1⟩:=h1
  obtain ⟨g1,g2⟩:=vv_fun n _ _ _ ht h1
  exact fun d hd=>(List.mem_cons.1 hd).elim (fun e=>e ▸ g1) (ih g2 d)
theorem Prg.good {l:List Tok} {ds:List Dec} {fs:List Fn} (h:Prg l ds fs) (ht:∀t∈l,TokOk t):(∀d∈ds,d.good)∧∀f∈fs,f.good:=by
 obtain ⟨r,h1,h2⟩:=h
 obtain ⟨g1,g2⟩:=h1.good ht
 exact ⟨g1,h2.good g2⟩
theorem take_of_takeWhile {α:Type} (p:α→Bool):∀(l:List α),l.take (l.takeWhile p).length=l.takeWhile p
 | []=>rfl
 | a::l=>by
  rw [List.takeWhile_cons]
  by_cases h:p a=true
  ·rw [if_pos h,List.length_cons,List.take_succ_cons,take_of_takeWhile p l]
  ·rw [if_neg h];rfl
theorem takeWhile_idem2 {α:Type} (p:α→Bool):∀(l:List α),(l.takeWhile p).takeWhile p=l.takeWhile p
 | []=>rfl
 | a::l=>by
  rw [List.takeWhile_cons]
  by_cases h:p a=true
  ·rw [if_pos h,List.takeWhile_cons,if_pos h,takeWhile_idem2 p l]
  ·rw [if_neg h];rfl
theorem dropWhile_takeWhile {α:Type} (p:α→Bool):∀(l:List α),(l.takeWhile p).dropWhile p=[]
 | []=>rfl
 | a::l=>by
  rw [List.takeWhile_cons]
  by_cases h:p a=true
  ·rw [if_pos h,List.dropWhile_cons,if_pos h,dropWhile_takeWhile p l]
  ·rw [if_neg h];rfl
theorem tokLen_one {r:List UInt8} {k:Int} {n:Nat} {v:Int} (h:tokLen r=some (k,n,v)):tokLen (r.take n)=some (k,n,v)∧(k=1∨k=2∨k=3)∧(k=2→NumOk v)∧(k=1→v=0):=by
 cases r with
 | nil=>simp [tokLen] at h
 | cons c t=>
  rw [tokLen] at h
  by_cases a1:cls c=1
  ·rw [if_pos a1] at h
   split at h
   ·rename_i hl
    simp only [Option.some.injEq,Prod.mk.injEq] at h
    obtain ⟨rfl,rfl,rfl⟩:=h
    refine ⟨?_,.inl rfl,fun h=>by omega,fun _=>rfl⟩
    rw [Nat.add_comm,List.take_succ_cons,take_of_takeWhile,tokLen,if_pos a1,takeWhile_idem2,if_pos hl,Nat.add_comm]
   ·cases h
  ·rw [if_neg a1] at h
   by_cases a2:cls c=2
   ·rw [if_pos a2] at h
    split at h
    ·rename_i hl
     simp only [Option.some.injEq,Prod.mk.injEq] at h
     obtain ⟨rfl,rfl,rfl⟩:=h
     obtain ⟨h1,h2,h3,h4⟩:=hl
     refine ⟨?_,.inr (.inl rfl),fun h=>⟨by omega,by omega⟩,fun h=>by omega⟩
     rw [Nat.add_comm,List.take_succ_cons,take_of_takeWhile,tokLen,if_neg a1,if_pos a2,takeWhile_idem2,dropWhile_takeWhile,if_pos ⟨h1,h2,h3,rfl⟩,Nat.add_comm]
    ·cases h
   ·rw [if_neg a2] at h
    by_cases a5:cls c=5
    ·rw [if_pos a5] at h
     split at h
     ·rename_i hq
      simp only [Option.some.injEq,Prod.mk.injEq] at h
      obtain ⟨rfl,rfl,rfl⟩:=h
      cases t with
      | nil=>simp [eqq] at hq
      | cons b u=>
       refine ⟨?_,.inr (.inr rfl),fun h=>by omega,fun h=>by omega⟩
       show tokLen [c,b]=_
       rw [tokLen,if_neg a1,if_neg a2,if_pos a5,if_pos ⟨hq.1,by have:=hq.2;simpa [eqq] using this⟩]
     ·rename_i hq
      simp only [Option.some.injEq,Prod.mk.injEq] at h
      obtain ⟨rfl,rfl,rfl⟩:=h
      refine ⟨?_,.inr (.inr rfl),fun h=>by omega,fun h=>by omega⟩
      show tokLen [c]=_
      rw [tokLen,if_neg a1,if_neg a2,if_pos a5,if_neg (by simp [eqq])]
    ·rw [if_neg a5] at h;cases h
theorem delta_sign {s:Str} (h:delta s≠0):∃c,s=[c]∧cls c=5:=by
 unfold delta at h
 split at h
 ·rename_i h1
  rcases h1 with rfl|rfl
  ·exact ⟨_,rfl,by decide⟩
  ·exact ⟨_,rfl,by decide⟩
 ·split at h
  ·rename_i h1
   rcases h1 with rfl|rfl
   ·exact ⟨_,rfl,by decide⟩
   ·exact ⟨_,rfl,by decide⟩
  ·exact absurd rfl h
theorem tok_ok {r:List UInt8} {k:Int} {n:Nat} {v:Int} (h:tokLen r=some (k,n,v)) (a:Int):TokOk ⟨k,r.take n,v,a⟩:=by
 obtain ⟨h1,h2,h3,h4⟩:=tokLen_one h
 have hl:=tokLen_le h
 refine ⟨fun hk=>?_,h3,fun hk=>?_⟩
 ·have hk:k=1:=hk
  subst hk
  show tokLen (r.take n)=some (1,(r.take n).length,0)
  rw [h1,h4 rfl,List.length_take,Nat.min_eq_left hl.2]
 ·refine Classical.byContradiction fun hd=>?_
  obtain ⟨c,e,hc⟩:=delta_sign hd
  have e:r.take n=[c]:=e
  rw [e] at h1
  rw [tokLen,if_neg (by omega),if_neg (by omega),if_pos hc,if_neg (by simp [eqq])] at h1
  injection h1 with h1
  injection h1 with h1 _
  exact hk h1.symm
theorem lexK_ok:∀(f:Nat) (r:List UInt8) (a:Int) (l:List Tok),lexK f r a=some l→∀t∈l,TokOk t
 | 0,[],a,l,h=>by rw [lexK] at h;injection h with h;subst h;simp
 | _+1,[],a,l,h=>by rw [lexK] at h;injection h with h;subst h;simp
 | 0,c::t,a,l,h=>by unfold lexK at h;cases h
 | f+1,c::t,a,l,h=>by
  rw [lexK] at h
  split at h
  ·exact lexK_ok f _ _ _ h
  ·split at h
   ·cases h
   ·rename_i k n v ht
    rw [Option.map_eq_some_iff] at h
    obtain ⟨l',h1,rfl⟩:=h
    intro x hx
    rcases List.mem_cons.1 hx with rfl|hx
    ·exact tok_ok ht a
    ·exact lexK_ok f _ _ _ h1 x hx
theorem words_ok (s:List UInt8):∀t∈(wordsR s).1,TokOk t:=by
 unfold wordsR
 split
 ·simp
 ·split
  ·simp
  ·rename_i l h
   exact lexK_ok _ _ _ _ h
end Uw.Tryz
namespace Uw.Tryz
open Go Uw
mutual
theorem Ex.noOf:∀(e:Ex) (b:Nat),e.good→NoOf (e.flat b)
 | .num _,b,_=>.one (fun _=>rfl)
 | .name _,b,_=>.one (fun _=>rfl)
 | .bin k x y,b,⟨hk,hx,hy⟩=>((x.noOf b hx).app (y.noOf _ hy)).app (.one (by simp only;omega))
 | .call o v ar,b,⟨_,_,h⟩=>(ar.noOf b h).app (.one (by simp))
theorem Exs.noOf:∀(e:Exs) (b:Nat),e.good→NoOf (e.flat b)
 | .nil,b,_=>by simp [NoOf,Exs.flat]
 | .cons e r,b,⟨h1,h2⟩=>(e.noOf b h1).app (r.noOf _ h2)
end
theorem Bl.all_noOf {x:Bl} {b:Nat} (h:NoOf (x.flat b)):NoOf (x.all b):=h.app (.one (by simp))
mutual
theorem Stm.noOf:∀(e:Stm) (b:Nat),e.good→NoOf (e.flat b)
 | .set s e,b,⟨_,h⟩=>(e.noOf b h).app (.one (by simp))
 | .task par to f ar,b,⟨_,_,h,_⟩=>(ar.noOf b h).app (.one (by simp only;split<;>omega))
 | .sync,b,_=>.one (fun _=>rfl)
 | .if1 e x,b,⟨h1,h2⟩=>((e.noOf b h1).app (Bl.all_noOf (x.noOf _ h2))).app (.one (by simp))
 | .if2 e x y,b,⟨h1,h2,h3⟩=>(((e.noOf b h1).app (Bl.all_noOf (x.noOf _ h2))).app (Bl.all_noOf (y.noOf _ h3))).app (.one (by simp))
 | .loop e x,b,⟨h1,h2⟩=>((e.noOf b h1).app (Bl.all_noOf (x.noOf _ h2))).app (.one (by simp))
 | .one k e,b,⟨hk,h⟩=>(e.noOf b h).app (.one (by simp only;omega))
 | .act o v ar,b,⟨_,_,h⟩=>((ar.noOf b h).app (.one (by simp))).app (.one (by simp))
theorem Bl.noOf:∀(e:Bl) (b:Nat),e.good→NoOf (e.flat b)
 | .nil,b,_=>by simp [NoOf,Bl.flat]
 | .cons e r,b,⟨h1,h2⟩=>(e.noOf b h1).app (r.noOf _ h2)
end
theorem nodesF_noOf:∀(fs:List Fn) (b:Nat),(∀f∈fs,f.good)→NoOf (nodesF fs b)
 | [],b,_=>by simp [NoOf,nodesF]
 | f::fs,b,h=>(Bl.all_noOf (f.body.noOf b (h f (List.mem_cons_self ..)).body)).app (nodesF_noOf fs _ fun x hx=>h x (List.mem_cons_of_mem _ hx))
theorem nodes_le:∀(l:List Nod),NoOf l→DLeE (l.map nodL) ((l.map Nod.nd).map ndL)
 | [],_=>.refl _
 | x::l,h=>.cons (.cons (.refl _) (.cons (.refl _) (.cons (.refl _) (.cons (.refl _) (.cons (ofD_le (h x (List.mem_cons_self ..))) (.refl _)))))) (nodes_le l fun y hy=>h y (List.mem_cons_of_mem _ hy))
theorem raw_le {x:List Dec×List Fn} (h:∀f∈x.2,f.good):DLe (rawP x) (pgD (pgOf x)):=
 .agg (.cons (.refl _) (.cons (.slice (frows_le x.2 0)) (.cons (.slice (nodes_le _ (nodesF_noOf x.2 0 h))) (.refl _))))
theorem no_le:DLe noD (pgD noPg):=.agg (.cons (.nil 3) (.cons (.nil 3) (.cons (.nil 5) (.refl _))))
theorem lexK_len:∀(f:Nat) (r:List UInt8) (a:Int) (l:List Tok),lexK f r a=some l→l.length≤r.length
 | 0,[],a,l,h=>by rw [lexK] at h;injection h with h;subst h;simp
 | _+1,[],a,l,h=>by rw [lexK] at h;injection h with h;subst h;simp
 | 0,c::t,a,l,h=>by unfold lexK at h;cases h
 | f+1,c::t,a,l,h=>by
  rw [lexK] at h
  split at h
  ·have:=lexK_len f _ _ _ h
   simp;omega
  ·split at h
   ·cases h
   ·rename_i k n v ht
    rw [Option.map_eq_some_iff] at h
    obtain ⟨l',h1,rfl⟩:=h
    have:=lexK_len f _ _ _ h1
    have:=tokLen_le ht
    simp at *
    omega
theorem words_len' (s:List UInt8):(wordsR s).1.length≤s.length:=by
 unfold wordsR
 split
 ·simp
 ·split
  ·simp
  ·rename_i l h
   exact lexK_len _ _ _ _ h
theorem s_parse_Of (s:List UInt8) (hs:s.length<1000000):Ret P0 n_parse_Of [.str s] (ofOut (ofR s)):=by
 have hno:∀e:Int,DLe (.tuple [noD,I e]) (.tuple [pgD noPg,I e]):=fun e=>.tuple (.cons no_le (.refl _))
 generalize hw:wordsR s=w
 obtain ⟨l,e⟩:=w
 have hl:l.length<1000000:=by
  have:=words_len' s
  rw [hw] at this
  simp only at this
  omega
 unfold ofR
 rw [hw]
 simp only
 by_cases he:e≠0
 ·rw [if_pos he]
  exact (s_parse_Of_err s hs l e hw he).res (hno e)
 ·rw [if_neg he]
  have he:e=0:=Classical.byContradiction he
  subst he
  by_cases hd:40<deepT l 0 0
  ·rw [if_pos hd]
   exact (s_parse_Of_deep s hs l hl hw hd).res (hno 2)
  ·rw [if_neg hd]
   have hc:=c_prog l hl (fuelP l)
   have hno2:=no_prog l
   unfold progF
   cases hp:pProg (fuelP l) l with
   | out=>exact absurd hp hno2
   | bad=>
    rw [hp] at hc
    exact (s_parse_Of_bad s hs l hl hw (by omega) hc).res (hno 3)
   | ok x r=>
    obtain ⟨ds,fs⟩:=x
    rw [hp] at hc
    refine (s_parse_Of_ok s hs l hl hw (by omega) _ _ _ (nodesF fs 0) hc).res ?_
    refine .tuple (.cons (raw_le (x:=(ds,fs)) ?_) (.refl _))
    have:=words_ok s
    rw [hw] at this
    exact ((prog_of hp).good this).2
end Uw.Tryz
namespace Uw.Tryz
open Go Uw Go.Proofs Go.RowKit
end Uw.Tryz
namespace Uw.Tryz
open Go Uw
set_option maxHeartbeats 1000000 in
theorem s_law06_why {s:List UInt8} (hs:s.length<1000000) {c:Int} (he:(ofR s).2=0) (hl:fewP (ofR s).1=true) (hw:whyP (ofR s).1=c):Ret P0 n_law06_why [.str s] (I c):=by
 have ho:=s_parse_Of s hs
 have hy:=s_check_Why (ofR s).1 (few_lim hl)
 rw [hw] at hy
 generalize ofR s=x at *
 obtain ⟨p,e⟩:=x
 simp only at he hy
 subst he
 have ho:Ret P0 n_parse_Of [.str s] (.tuple [pgD p,I 0]):=ho
 refine Ret_by is_law06_why rfl ?_
 repeat refine aw ?_
 exact WT_ret rfl rfl rfl rfl rfl
theorem s_law06_few (p:Pg):Ret P0 n_law06_few [pgD p] (.bool (fewP p)):=by
 have h:=s_ref06_Few p
 refine Ret_by is_law06_few rfl ?_
 repeat refine aw ?_
 exact WT_ret rfl rfl rfl rfl rfl
def akT0:List UInt8:=[99,101,108,108,32,99,59,32,102,117,110,99,32,102,40,97,44,32,98,41,32,123,32,98,32,61,32,97,59,32,120,32,61,32,115,112,97,119,110,32,102,40,49,44,32,99,41,59,32,114,101,116,117,114,110,32,120,59,32,125,32,102,117,110,99,32,109,97,105,110,40,41,32,123,125]
def akT1:List UInt8:=[99,101,108,108,32,99,59,32,102,117,110,99,32,109,97,105,110,40,41,32,123,32,99,32,61,32,120,59,32,125]
def akT2:List UInt8:=[99,101,108,108,32,99,59,32,102,117,110,99,32,109,97,105,110,40,41,32,123,32,99,32,61,32,120,59,32,120,32,61,32,49,59,32,125]
def akT3:List UInt8:=[109,97,112,32,109,59,32,102,117,110,99,32,109,97,105,110,40,41,32,123,32,109,46,112,117,115,104,40,49,41,59,32,125]
def akT4:List UInt8:=[102,117,110,99,32,109,97,105,110,40,97,41,32,123,125]
def akT5:List UInt8:=[99,101,108,108,32,99,59,32,99,101,108,108,32,99,59,32,102,117,110,99,32,109,97,105,110,40,41,32,123,125]
set_option maxRecDepth 8000 in
set_option maxHeartbeats 2000000 in
theorem s_law06_awake:Ret P0 n_law06_awake [] (.bool true):=by
 have h0:=s_parse_Of akT0 (by decide)
 have e0:(ofR akT0).2=0:=by kernel_rfl
 have l0:fewP (ofR akT0).1=true:=by kernel_rfl
 have hfm:=s_check_Formed (ofR akT0).1 (few_lim l0)
 have hlo0:=s_check_Locals (ofR akT0).1 (few_lim l0) 0
 have hlo1:=s_check_Locals (ofR akT0).1 (few_lim l0) 1
 have f0:formedP (ofR akT0).1=true:=by kernel_rfl
 have f1:localsOf (ofR akT0).1 0=[[97],[98],[120]]:=by kernel_rfl
 have f2:localsOf (ofR akT0).1 1=[]:=by kernel_rfl
 rw [f0] at hfm
 rw [f1] at hlo0
 rw [f2] at hlo1
 have h1:Ret P0 n_law06_why [.str akT1] (I 4):=s_law06_why (by decide) (by kernel_rfl) (by kernel_rfl) (by kernel_rfl)
 have h2:Ret P0 n_law06_why [.str akT2] (I 0):=s_law06_why (by decide) (by kernel_rfl) (by kernel_rfl) (by kernel_rfl)
 have h3:Ret P0 n_law06_why [.str akT3] (I 6):=s_law06_why (by decide) (by kernel_rfl) (by kernel_rfl) (by kernel_rfl)
 have h4:Ret P0 n_law06_why [.str akT4] (I 7):=s_law06_why (by decide) (by kernel_rfl) (by kernel_rfl) (by kernel_rfl)
 have h5:Ret P0 n_law06_why [.str akT5] (I 5):=s_law06_why (by decide) (by kernel_rfl) (by kernel_rfl) (by kernel_rfl)
 have hsa:Ret P0 n_ref06_Same [strsC [[97],[98],[120]],.slice 1 [[.str [97]],[.str [98]],[.str [120]]] true] (.bool true):=by
  have h:=s_ref06_Same [[97],[98],[120]] [[97],[98],[120]] (by decide) (by decide)
  rw [decide_eq_true rfl] at h
  exact h.args (.cons (.refl _) (.cons (.slice (.refl _)) (.refl _)))
 clear f0 f1 f2 l0
 generalize ofR akT0=x at *
 obtain ⟨p,e⟩:=x
 simp only at e0 hfm hlo0 hlo1
 subst e0
 have h0:Ret P0 n_parse_Of [.str akT0] (.tuple [pgD p,I 0]):=h0
 refine Ret_by is_law06_awake rfl ?_
 repeat refine aw ?_
 exact WT_ret rfl rfl rfl rfl rfl
theorem DLeE.app {x y:List Dat} (h:DLeL x y):∀l:List (List Dat),DLeE (l++[x]) (l++[y])
 | []=>.cons h (.refl _)
 | a::l=>.cons (.refl _) (DLeE.app h l)
end Uw.Tryz
namespace Uw.Tryz
open Go Uw
def Seg (ks:Nat→Int):Nat→List Nod→Prop
 | _,[]=>True
 | b,x::r=>ks b=x.kind∧Seg ks (b+1) r
theorem Seg.app {ks:Nat→Int}:∀{x y:List Nod} {b:Nat},Seg ks b (x++y)→Seg ks b x∧Seg ks (b+x.length) y
 | [],y,b,h=>⟨trivial,h⟩
 | a::x,y,b,⟨h1,h2⟩=>by
  obtain ⟨h3,h4⟩:=Seg.app h2
  exact ⟨⟨h1,h3⟩,by rw [List.length_cons,show b+(x.length+1)=b+1+x.length by omega];exact h4⟩
def shapedK (ks:Nat→Int) (x:Nod):Bool:=shapedS x.kind x.n (x.of.map fun k=>sortI (ks k)) (ks (x.of.headD 0))
def ShN (ks:Nat→Int) (l:List Nod):Prop:=∀x∈l,shapedK ks x=true
theorem ShN.app {ks:Nat→Int} {x y:List Nod} (h1:ShN ks x) (h2:ShN ks y):ShN ks (x++y):=fun a h=>(List.mem_append.1 h).elim (h1 a) (h2 a)
theorem ShN.one {ks:Nat→Int} {x:Nod} (h:shapedK ks x=true):ShN ks [x]:=by intro a ha;simp at ha;subst ha;exact h
def AllS (ks:Nat→Int) (s:Int) (l:List Nat):Prop:=∀k∈l,sortI (ks k)=s
theorem AllS.cons {ks:Nat→Int} {s:Int} {k:Nat} {l:List Nat} (h1:sortI (ks k)=s) (h2:AllS ks s l):AllS ks s (k::l):=fun a h=>(List.mem_cons.1 h).elim (fun e=>e ▸ h1) (h2 a)
theorem AllS.nil {ks:Nat→Int} {s:Int}:AllS ks s []:=fun a h=>by simp at h
theorem sort_ex {k:Int} (h:1≤k∧k≤8):sortI k=1:=by rw [sortI,if_pos h]
theorem sort_st {k:Int} (h:9≤k∧k≤17):sortI k=2:=by rw [sortI,if_neg (by omega),if_pos h]
theorem shp_bin {ks:Nat→Int} {k:Int} (hk:3≤k∧k≤7) {a b:Nat} (ha:sortI (ks a)=1) (hb:sortI (ks b)=1):shapedK ks ⟨k,0,[],[],[a,b]⟩=true:=by
 unfold shapedK shapedS
 rw [if_neg (by simp;omega),if_neg (by simp;omega),if_pos (by simp;omega)]
 simp [ha,hb]
theorem shp_all {ks:Nat→Int} {k:Int} (hk:k=8∨k=10) {n:Int} {s t:Str} {l:List Nat} (hl:AllS ks 1 l):shapedK ks ⟨k,n,s,t,l⟩=true:=by
 unfold shapedK shapedS
 rw [if_neg (by simp;omega),if_neg (by simp;omega),if_neg (by simp;omega),if_pos hk]
 simp only [List.all_eq_true,List.mem_map]
 rintro _ ⟨k,hk,rfl⟩
 simpa using hl k hk
theorem shp_one {ks:Nat→Int} {k:Int} (hk:k=9∨k=15∨k=16) {n:Int} {s t:Str} {a:Nat} (ha:sortI (ks a)=1):shapedK ks ⟨k,n,s,t,[a]⟩=true:=by
 unfold shapedK shapedS
 rw [if_neg (by simp;omega),if_neg (by simp;omega),if_neg (by simp;omega),if_neg (by simp;omega),if_pos hk]
 simp [ha]
theorem shp_blk {ks:Nat→Int} {l:List Nat} (hl:AllS ks 2 l):shapedK ks ⟨18,0,[],[],l⟩=true:=by
 unfold shapedK shapedS
 simp only [Int.reduceEq,or_self,if_false,if_true,List.all_eq_true,List.mem_map]
 rintro _ ⟨k,hk,rfl⟩
 simpa using hl k hk
mutual
theorem Ex.shp {ks:Nat→Int}:∀(e:Ex) (b:Nat),e.good→Seg ks b (e.flat b)→ShN ks (e.flat b)∧sortI (ks (b+e.sz - 1))=1
 | .num n,b,hg,h=>by
  refine ⟨ShN.one ?_,?_⟩
  ·have:0≤n∧n<4294967296:=hg
   simp [shapedK,shapedS,this.1,this.2]
  ·show sortI (ks b)=1
   rw [h.1];rfl
 | .name s,b,hg,h=>by
  refine ⟨ShN.one rfl,?_⟩
  show sortI (ks b)=1
  rw [h.1];rfl
 | .bin k x y,b,hg,h=>by
  obtain ⟨h12,h3⟩:=Seg.app h
  obtain ⟨h1,h2⟩:=Seg.app h12
  rw [Ex.flat_len] at h2
  obtain ⟨a1,a2⟩:=x.shp b hg.2.1 h1
  obtain ⟨b1,b2⟩:=y.shp _ hg.2.2 h2
  refine ⟨(a1.app b1).app (ShN.one (shp_bin hg.1 a2 b2)),?_⟩
  have e:ks (b+(Ex.bin k x y).sz - 1)=k:=by
   have:=h3.1
   rw [List.length_append,Ex.flat_len,Ex.flat_len] at this
   rw [Ex.sz,show b+(x.sz+y.sz+1) - 1=b+(x.sz+y.sz) by omega];exact this
  rw [e];exact sort_ex ⟨by have:=hg.1;omega,by have:=hg.1;omega⟩
 | .call o v ar,b,hg,h=>by
  obtain ⟨h1,h3⟩:=Seg.app h
  obtain ⟨a1,a2⟩:=ar.shp b hg.2.2 h1
  refine ⟨a1.app (ShN.one (shp_all (.inl rfl) a2)),?_⟩
  have e:ks (b+(Ex.call o v ar).sz - 1)=8:=by
   have:=h3.1
   rw [Exs.flat_len] at this
   rw [Ex.sz,show b+(ar.sz+1) - 1=b+ar.sz by omega];exact this
  rw [e];rfl
theorem Exs.shp {ks:Nat→Int}:∀(e:Exs) (b:Nat),e.good→Seg ks b (e.flat b)→ShN ks (e.flat b)∧AllS ks 1 (e.places b)
 | .nil,b,_,_=>⟨fun a h=>by simp [Exs.flat] at h,AllS.nil⟩
 | .cons e r,b,hg,h=>by
  obtain ⟨h1,h2⟩:=Seg.app h
  rw [Ex.flat_len] at h2
  obtain ⟨a1,a2⟩:=e.shp b hg.1 h1
  obtain ⟨b1,b2⟩:=r.shp _ hg.2 h2
  exact ⟨a1.app b1,AllS.cons a2 b2⟩
end
theorem Exs.two {ks:Nat→Int} {ar:Exs} {b:Nat} (h:ar.length=2) (ha:AllS ks 1 (ar.places b)):((ar.places b).map fun k=>sortI (ks k))=[1,1]:=by
 cases ar with
 | nil=>cases h
 | cons x r=>cases r with
  | nil=>cases h
  | cons y r=>cases r with
   | nil=>
    simp only [Exs.places,List.map_cons,List.map_nil]
    rw [ha _ (by simp [Exs.places]),ha _ (by simp [Exs.places])]
   | cons z r=>simp [Exs.length] at h
theorem Bl.all_shp {ks:Nat→Int} {x:Bl} {b:Nat} (h:Seg ks b (x.flat b)→ShN ks (x.flat b)∧AllS ks 2 (x.places b)) (hs:Seg ks b (x.all b)):ShN ks (x.all b)∧sortI (ks (b+(x.sz+1) - 1))=3:=by
 obtain ⟨h1,h2⟩:=Seg.app hs
 obtain ⟨a1,a2⟩:=h h1
 refine ⟨a1.app (ShN.one (shp_blk a2)),?_⟩
 have e:ks (b+(x.sz+1) - 1)=18:=by
  have:=h2.1
  rw [Bl.flat_len] at this
  rw [show b+(x.sz+1) - 1=b+x.sz by omega];exact this
 rw [e];rfl
mutual
theorem Stm.shp {ks:Nat→Int}:∀(e:Stm) (b:Nat),e.good→Seg ks b (e.flat b)→ShN ks (e.flat b)∧sortI (ks (b+e.sz - 1))=2
 | .set s e,b,hg,h=>by
  obtain ⟨h1,h3⟩:=Seg.app h
  obtain ⟨a1,a2⟩:=e.shp b hg.2 h1
  refine ⟨a1.app (ShN.one (shp_one (.inl rfl) a2)),?_⟩
  have e:ks (b+(Stm.set s e).sz - 1)=9:=by
   have:=h3.1
   rw [Ex.flat_len] at this
   rw [Stm.sz,show b+(e.sz+1) - 1=b+e.sz by omega];exact this
  rw [e];rfl
 | .task par to f ar,b,hg,h=>by
  obtain ⟨h1,h3⟩:=Seg.app h
  obtain ⟨a1,a2⟩:=ar.shp b hg.2.2.1 h1
  refine ⟨a1.app (ShN.one ?_),?_⟩
  ·cases par with
   | false=>exact shp_all (.inr rfl) a2
   | true=>
    have:=Exs.two (hg.2.2.2 rfl) a2
    simp [shapedK,shapedS,this]
  ·have e:ks (b+(Stm.task par to f ar).sz - 1)=if par then 11 else 10:=by
    have:=h3.1
    rw [Exs.flat_len] at this
    rw [Stm.sz,show b+(ar.sz+1) - 1=b+ar.sz by omega];exact this
   rw [e];cases par<;>rfl
 | .sync,b,hg,h=>by
  refine ⟨ShN.one rfl,?_⟩
  show sortI (ks b)=2
  rw [h.1];rfl
 | .if1 e x,b,hg,h=>by
  obtain ⟨h12,h3⟩:=Seg.app h
  obtain ⟨h1,h2⟩:=Seg.app h12
  rw [Ex.flat_len] at h2
  obtain ⟨a1,a2⟩:=e.shp b hg.1 h1
  obtain ⟨b1,b2⟩:=Bl.all_shp (x.shp _ hg.2) h2
  have b3:sortI (ks (b+e.sz+x.sz))=3:=by rw [show b+e.sz+x.sz=b+e.sz+(x.sz+1) - 1 by omega];exact b2
  refine ⟨(a1.app b1).app (ShN.one (by simp [shapedK,shapedS,a2,b3])),?_⟩
  have e:ks (b+(Stm.if1 e x).sz - 1)=13:=by
   have:=h3.1
   rw [List.length_append,Ex.flat_len,show (x.flat (b+e.sz)++[(⟨18,0,[],[],x.places (b+e.sz)⟩:Nod)]).length=x.sz+1 from x.all_len _] at this
   rw [Stm.sz,show b+(e.sz+(x.sz+1)+1) - 1=b+(e.sz+(x.sz+1)) by omega];exact this
  rw [e];rfl
 | .if2 e x y,b,hg,h=>by
  obtain ⟨h123,h4⟩:=Seg.app h
  obtain ⟨h12,h3⟩:=Seg.app h123
  obtain ⟨h1,h2⟩:=Seg.app h12
  rw [Ex.flat_len] at h2
  rw [List.length_append,Ex.flat_len,show (x.flat (b+e.sz)++[(⟨18,0,[],[],x.places (b+e.sz)⟩:Nod)]).length=x.sz+1 from x.all_len _,← Nat.add_assoc] at h3
  obtain ⟨a1,a2⟩:=e.shp b hg.1 h1
  obtain ⟨b1,b2⟩:=Bl.all_shp (x.shp _ hg.2.1) h2
  obtain ⟨c1,c2⟩:=Bl.all_shp (y.shp _ hg.2.2) h3
  have b3:sortI (ks (b+e.sz+x.sz))=3:=by rw [show b+e.sz+x.sz=b+e.sz+(x.sz+1) - 1 by omega];exact b2
  have c3:sortI (ks (b+e.sz+(x.sz+1)+y.sz))=3:=by rw [show b+e.sz+(x.sz+1)+y.sz=b+e.sz+(x.sz+1)+(y.sz+1) - 1 by omega];exact c2
  refine ⟨((a1.app b1).app c1).app (ShN.one (by simp [shapedK,shapedS,a2,b3,c3])),?_⟩
  have e:ks (b+(Stm.if2 e x y).sz - 1)=13:=by
   have:=h4.1
   rw [List.length_append,List.length_append,Ex.flat_len,show (x.flat (b+e.sz)++[(⟨18,0,[],[],x.places (b+e.sz)⟩:Nod)]).length=x.sz+1 from x.all_len _,show (y.flat (b+e.sz+(x.sz+1))++[(⟨18,0,[],[],y.places (b+e.sz+(x.sz+1))⟩:Nod)]).length=y.sz+1 from y.all_len _] at this
   rw [Stm.sz,show b+(e.sz+(x.sz+1)+(y.sz+1)+1) - 1=b+(e.sz+(x.sz+1)+(y.sz+1)) by omega];exact this
  rw [e];rfl
 | .loop e x,b,hg,h=>by
  obtain ⟨h12,h3⟩:=Seg.app h
  obtain ⟨h1,h2⟩:=Seg.app h12
  rw [Ex.flat_len] at h2
  obtain ⟨a1,a2⟩:=e.shp b hg.1 h1
  obtain ⟨b1,b2⟩:=Bl.all_shp (x.shp _ hg.2) h2
  have b3:sortI (ks (b+e.sz+x.sz))=3:=by rw [show b+e.sz+x.sz=b+e.sz+(x.sz+1) - 1 by omega];exact b2
  refine ⟨(a1.app b1).app (ShN.one (by simp [shapedK,shapedS,a2,b3])),?_⟩
  have e:ks (b+(Stm.loop e x).sz - 1)=14:=by
   have:=h3.1
   rw [List.length_append,Ex.flat_len,show (x.flat (b+e.sz)++[(⟨18,0,[],[],x.places (b+e.sz)⟩:Nod)]).length=x.sz+1 from x.all_len _] at this
   rw [Stm.sz,show b+(e.sz+(x.sz+1)+1) - 1=b+(e.sz+(x.sz+1)) by omega];exact this
  rw [e];rfl
 | .one k e,b,hg,h=>by
  obtain ⟨h1,h3⟩:=Seg.app h
  obtain ⟨a1,a2⟩:=e.shp b hg.2 h1
  refine ⟨a1.app (ShN.one (shp_one (.inr hg.1) a2)),?_⟩
  have e:ks (b+(Stm.one k e).sz - 1)=k:=by
   have:=h3.1
   rw [Ex.flat_len] at this
   rw [Stm.sz,show b+(e.sz+1) - 1=b+e.sz by omega];exact this
  rw [e];exact sort_st (by have:=hg.1;omega)
 | .act o v ar,b,hg,h=>by
  obtain ⟨h12,h3⟩:=Seg.app h
  obtain ⟨h1,h2⟩:=Seg.app h12
  obtain ⟨a1,a2⟩:=ar.shp b hg.2.2 h1
  have e8:ks (b+ar.sz)=8:=by have:=h2.1;rw [Exs.flat_len] at this;exact this
  refine ⟨(a1.app (ShN.one (shp_all (.inl rfl) a2))).app (ShN.one ?_),?_⟩
  ·simp [shapedK,shapedS,show b+ar.sz+1 - 1=b+ar.sz by omega,e8,sortI]
  ·have e:ks (b+(Stm.act o v ar).sz - 1)=17:=by
    have:=h3.1
    rw [List.length_append,Exs.flat_len] at this
    rw [Stm.sz,show b+(ar.sz+1+1) - 1=b+(ar.sz+1) by omega];exact this
   rw [e];rfl
theorem Bl.shp {ks:Nat→Int}:∀(e:Bl) (b:Nat),e.good→Seg ks b (e.flat b)→ShN ks (e.flat b)∧AllS ks 2 (e.places b)
 | .nil,b,_,_=>⟨fun a h=>by simp [Bl.flat] at h,AllS.nil⟩
 | .cons e r,b,hg,h=>by
  obtain ⟨h1,h2⟩:=Seg.app h
  rw [Stm.flat_len] at h2
  obtain ⟨a1,a2⟩:=e.shp b hg.1 h1
  obtain ⟨b1,b2⟩:=r.shp _ hg.2 h2
  exact ⟨a1.app b1,AllS.cons a2 b2⟩
end
theorem nodesF_shp {ks:Nat→Int}:∀(fs:List Fn) (b:Nat),(∀f∈fs,f.good)→Seg ks b (nodesF fs b)→ShN ks (nodesF fs b)∧∀k∈bodies fs b,ks k=18
 | [],b,_,_=>⟨fun a h=>by simp [nodesF] at h,fun k h=>by simp [bodies] at h⟩
 | f::fs,b,hg,h=>by
  obtain ⟨h1,h2⟩:=Seg.app h
  rw [show (f.body.all b).length=f.sz from f.body.all_len _] at h2
  obtain ⟨a1,a2⟩:=Bl.all_shp (f.body.shp _ (hg f (by simp)).body) h1
  obtain ⟨b1,b2⟩:=nodesF_shp fs _ (fun g hgm=>hg g (by simp [hgm])) h2
  refine ⟨a1.app b1,fun k hk=>?_⟩
  rcases List.mem_cons.1 hk with rfl|hk
  ·have:=(Seg.app h1).2.1
   rw [Bl.flat_len] at this
   exact this
  ·exact b2 k hk
theorem seg_self:∀(l pre:List Nod),Seg (fun k=>((pre++l).getD k default).kind) pre.length l
 | [],_=>trivial
 | x::l,pre=>by
  refine ⟨by simp [List.getD],?_⟩
  have:=seg_self l (pre++[x])
  simpa using this
theorem funs_bodies:∀(fs:List Fn) (b:Nat),(funsF fs b).map (·.body)=(bodies fs b).map fun (k:Nat)=>(k:Int)
 | [],_=>rfl
 | f::fs,b=>by simp [funsF,bodies,funs_bodies fs]
theorem ofs_nd (l:List Nod):(l.map Nod.nd).flatMap (·.of)=(ofs l).map fun (k:Nat)=>(k:Int):=by
 induction l with
 | nil=>rfl
 | cons x l ih=>
  rw [List.map_cons,List.flatMap_cons,ih,show ofs (x::l)=x.of++ofs l by simp [ofs],List.map_append];rfl
theorem kindAt_nd (l:List Nod) (k:Nat):kindAt (l.map Nod.nd) (k:Int)=(l.getD k default).kind:=by
 unfold kindAt
 simp only [Int.toNat_natCast,List.getD,List.getElem?_map]
 cases l[k]?<;>rfl
theorem shapedF_nd (l:List Nod) (x:Nod):shapedF (l.map Nod.nd) x.nd=shapedK (fun k=>(l.getD k default).kind) x:=by
 unfold shapedF shapedK
 have e1:sortsOf (l.map Nod.nd) x.nd=x.of.map fun k=>sortI ((l.getD k default).kind):=by
  simp only [sortsOf,Nod.nd,List.map_map]
  refine List.map_congr_left fun k _=>?_
  simp only [Function.comp,kindAt_nd]
 have e2:kindAt (l.map Nod.nd) (x.nd.of.headD 0)=(l.getD (x.of.headD 0) default).kind:=by
  rw [← kindAt_nd]
  cases h:x.of<;>simp [Nod.nd,h]
 rw [e1,e2];rfl
theorem nodesOK_of {ns:List Nd}:∀{l:List Nod} {b:Nat},Low b l→(∀x∈l,shapedF ns x.nd=true)→nodesOK ns b (l.map Nod.nd)=true
 | [],_,_,_=>rfl
 | x::l,b,⟨h1,h2⟩,h=>by
  simp only [List.map_cons,nodesOK,Bool.and_eq_true]
  refine ⟨?_,nodesOK_of h2 fun y hy=>h y (by simp [hy])⟩
  simp only [nodeOK,Bool.and_eq_true,List.all_eq_true]
  refine ⟨fun k hk=>?_,h x (by simp)⟩
  simp only [Nod.nd,List.mem_map] at hk
  obtain ⟨c,hc,rfl⟩:=hk
  have:=h1 c hc
  simp;omega
theorem count_cast (l:List Nat) (k:Nat):(l.map fun (i:Nat)=>(i:Int)).count (k:Int)=l.count k:=by
 induction l with
 | nil=>rfl
 | cons x l ih=>simp only [List.map_cons,List.count_cons,ih,beq_iff_eq,Int.natCast_inj]
theorem formed_of (x:List Dec×List Fn) (hg:∀f∈x.2,f.good):formedP (pgOf x)=true:=by
 have hs:=seg_self (nodesF x.2 0) []
 obtain ⟨h1,h2⟩:=nodesF_shp x.2 0 hg hs
 simp only [List.nil_append] at h1 h2
 have hlow:=nodesF_low x.2 0
 have hperm:=nodesF_perm x.2 0
 simp only [formedP,Bool.and_eq_true,List.all_eq_true,pgOf]
 refine ⟨⟨nodesOK_of hlow fun y hy=>?_,fun f hf=>?_⟩,fun k hk=>?_⟩
 ·rw [shapedF_nd];exact h1 y hy
 ·have hb:f.body∈(funsF x.2 0).map (·.body):=List.mem_map.2 ⟨f,hf,rfl⟩
  rw [funs_bodies] at hb
  obtain ⟨k,hk,hkb⟩:=List.mem_map.1 hb
  have hlt:k<sizeF x.2:=by
   have:=(hperm.mem_iff (a:=k)).1 (List.mem_append.2 (.inr hk))
   simpa using this
  simp only [bodyOK,Bool.and_eq_true,decide_eq_true_eq,← hkb,kindAt_nd,List.length_map,nodesF_len]
  exact ⟨⟨by omega,by omega⟩,h2 k hk⟩
 ·have hk:k<sizeF x.2:=by simpa [nodesF_len] using hk
  have e:usesL (pgOf x)=(ofs (nodesF x.2 0)++bodies x.2 0).map fun (i:Nat)=>(i:Int):=by
   simp only [usesL,pgOf,ofs_nd,funs_bodies,List.map_append]
  have h3:=count_cast (ofs (nodesF x.2 0)++bodies x.2 0) k
  rw [← e,hperm.count_eq,List.count_range'] at h3
  refine decide_eq_true ?_
  refine Eq.trans h3 ?_
  simp [hk]
end Uw.Tryz
