/- M9: Pc Pd Pe Pf Pg Ph Pi Pj Pk Pl Pm Pn Pn2 Pp Po Xb Xc Xd Xe Xf Xg Xh Xi Xj Pq Ps Px Ho Ia Dj Ea Eb (merged by merge2.py from the working texts). -/
import Derived.Test.YtkmkjfkpnmhaiaaGreatDoorM8
import Derived.Test.YtkmkjfkpnmhaiaaGreatDoorM5
import Derived.Test.YtkmkjfkpnmhaiaaGreatDoorM6
import Derived.Test.YtkmkjfkpnmhaiaaGreatDoorM4
import Derived.Test.YtkmkjfkpnmhaiaaGreatDoorMs
import Derived.Lib.AtoiErrMem
import Derived.Test.YtkmkjfkpnmhaiaaGreatDoorM7
set_option maxRecDepth 8000
set_option maxHeartbeats 4000000
set_option linter.unusedSimpArgs false
set_option linter.unnecessarySimpa false
set_option linter.unusedVariables false
set_option linter.unusedSectionVars false
namespace Uw.Tryz
open Go Uw
def rdN (l:List Tok) (k:Nat) (ns:List Nod):List Blk:=rd l k (ns.map bU)
inductive Out where
 | ok (v:V) (bs:List Blk)
 | bad
 | out
def c6 (f:FuncId) (vs:List V) (bs:List Blk) (x:Out):Prop:=
 match x with
 | .ok v bs'=>bm P0 f vs bs v bs'
 | .bad=>kH P0 f vs bs cZ
 | .out=>True
def OQ (b:Nat) (res:List gI) (x:Out):aG->St->Prop:=
 match x with
 | .ok v bs'=>EQ b res v bs'
 | .bad=>PQ res cZ
 | .out=>fun _ _=>True
theorem sF {f:FuncId} {m:bp} {vs:List V} {bs:List Blk} {x:Out} (hf:aM P0 f m) (hn:Nat.ble vs.length m.n=true) (hx:x≠.out) (hw:WT P0 (OQ bs.length m.res x) (exec m.code ⟨eK 0 vs,bu 0 bs,bs.length,[],bs.length⟩ Tree.done)):c6 f vs bs x:=by
 cases x with
 | ok v bs'=>exact aJ hf hn hw
 | bad=>exact aP hf hn hw
 | out=>exact absurd rfl hx
theorem vV (b:Nat) {res:List gI} {x:Out} {v:V} {bs' : List Blk} {vs' : List V} {st:St} (hx:x = .ok v bs') (hd:st.defers=[]) (hr:resV st res=some vs') (hw:Weak ⟨[(0,mE vs')],st.heap,st.next,[],b⟩ ⟨[(0,v)],bu 0 bs',bs'.length,[],b⟩):WT P0 (OQ b res x) (.done .ret st):=by
 subst hx;exact aI b hd hr hw
theorem lY (b:Nat) {res:List gI} {x:Out} {st:St} (hx:x = .bad) (hd:st.defers=[]):WT P0 (OQ b res x) (.done (.panic cZ) st):=by
 subst hx;exact aQ hd
def Iq (l:List Tok) (ns:List Nod) (x:R Ex):Out:=
 match x with
 | .ok e r=>.ok (.d (I ((ns.length+e.sz - 1:Nat)))) (rdN l (l.length - r.length) (ns++e.flat ns.length))
 | .bad=>.bad
 | .out=>.out
abbrev OkE (f:FuncId) (l:List Tok) (k:Nat) (ns:List Nod) (x:R Ex):Prop:=c6 f [.ptr 0 0] (rdN l k ns) (Iq l ns x)
theorem K2 {l:List Tok} {ns:List Nod} {x:R Ex} (h:x≠.out):Iq l ns x≠.out:=by cases x<;>first|exact absurd rfl h|(intro h;cases h)
theorem PG (k:Int) (of:List Nat):ofD k of = .nil\/∃ys z,ofD k of = .slice 1 ys z:=by
 unfold ofD
 repeat' split
 all_goals first|exact .inl rfl|exact .inr ⟨_,_,rfl⟩
theorem qd (l:List Tok) (k:Nat) (ns ms:List Nod) (nd:Nod) (hms:ms=ns++[nd]) (p:Nat) (hp:p=ns.length) (hx:ns.length<1000000) :
  bm P0 bF [.ptr 0 0,.agg [.d (I nd.kind),.d (I nd.n),.d (.str nd.name),.d (.str nd.name2),.d (ofD nd.kind nd.of)]] (rdN l k ns) (.d (I p)) (rdN l k ms):=by
 subst hms hp;have:=uE l k (ns.map bU) (by simpa using hx) nd.kind nd.n nd.name nd.name2 (ofD nd.kind nd.of) (PG _ _);have e:(ns++[nd]).map bU=ns.map bU++[[I nd.kind,I nd.n,.str nd.name,.str nd.name2,ofD nd.kind nd.of]]:=by simp [bU]
 rw [rdN,rdN,e];simpa using this
theorem eo {l:List Tok} {k:Nat} {s:Str} (h:hd (l.drop k)=s) (hs:s≠[]):k<l.length:=by
 rcases Zg k l.length with h1|h1
 ·exact h1
 ·rw [Zu h1] at h;exact absurd h.symm hs
theorem len_drop {l:List Tok} {k:Nat} (h:k<=l.length):l.length - (l.drop k).length=k:=by simp;omega
theorem rX {l r:List Tok} {k s:Nat} (h:Suf (l.drop k) r s) (hk:k<=l.length):∃k',k'<=l.length/\r=l.drop k'/\k+s<=k':=by
 obtain ⟨j,h1,rfl,h3⟩:=h;simp at h1;exact ⟨k+j,by omega,by rw [aag],by omega⟩
def Exs.A3 (es:Exs) (b:Nat):Dat:=ofD 8 (es.places b)
def outA (l:List Tok) (ns:List Nod) (x:R Exs):Out:=
 match x with
 | .ok es r=>.ok (.d (es.A3 ns.length)) (rdN l (l.length - r.length) (ns++es.flat ns.length))
 | .bad=>.bad
 | .out=>.out
def PH (l:List Tok) (ns:List Nod) (s:Str) (x:R (Str×Exs)):Out:=
 match x with
 | .ok y r=>.ok (.d (I ((ns.length+(Ex.call s y.1 y.2).sz - 1:Nat)))) (rdN l (l.length - r.length) (ns++(Ex.call s y.1 y.2).flat ns.length))
 | .bad=>.bad
 | .out=>.out
structure CE (l:List Tok) (n:Nat):Prop where
 args:∀k ns,k<=l.length->ns.length<=k->c6 fr [.ptr 0 0] (rdN l k ns) (outA l ns (gq n (l.drop k)))
 call:∀s k ns,k<=l.length->ns.length<=k->c6 cY [.ptr 0 0,.d (.str s)] (rdN l k ns) (PH l ns s (gP n s (l.drop k)))
 qC:∀k ns,k<=l.length->ns.length<=k->OkE fX l k ns (jg n (l.drop k))
 prod:∀k ns,k<=l.length->ns.length<=k->OkE fW l k ns (iC n (l.drop k))
 sum:∀k ns,k<=l.length->ns.length<=k->OkE i7 l k ns (m9 n (l.drop k))
 expr:∀k ns,k<=l.length->ns.length<=k->OkE bS l k ns (dM n (l.drop k))
theorem xm {f:FuncId} {l:List Tok} {k:Nat} {ns:List Nod} {x:R Ex} (h:OkE f l k ns x) (hk:k<=l.length) (hs:∀e r,x = .ok e r->Suf (l.drop k) r e.sz) :
  x = .out\/(x = .bad/\kH P0 f [.ptr 0 0] (rdN l k ns) cZ)\/∃e k',x = .ok e (l.drop k')/\k'<=l.length/\k+e.sz<=k'/\bm P0 f [.ptr 0 0] (rdN l k ns) (.d (I ((ns.length+e.sz - 1:Nat)))) (rdN l k' (ns++e.flat ns.length)):=by
 cases x with
 | out=>exact .inl rfl
 | bad=>exact .inr (.inl ⟨rfl,h⟩)
 | ok e r=>
  obtain ⟨k',h1,rfl,h2⟩:=rX (hs e r rfl) hk;refine .inr (.inr ⟨e,k',rfl,h1,h2,?_⟩);have h:bm P0 f [.ptr 0 0] (rdN l k ns) (.d (I ((ns.length+e.sz - 1:Nat)))) (rdN l (l.length - (l.drop k').length) (ns++e.flat ns.length)):=h;rw [len_drop h1] at h;exact h
theorem PI (ns:List Nod) (k:Int) (x y:Ex):ns++(Ex.bin k x y).flat ns.length=ns++x.flat ns.length++y.flat (ns++x.flat ns.length).length++[⟨k,0,[],[],[ns.length+x.sz - 1,(ns++x.flat ns.length).length+y.sz - 1]⟩]:=by
 simp [Ex.flat,Ex.ax]
theorem vW (l:List Tok) (k:Nat) (ns:List Nod) (K:Int) (x y:Ex) (hx:(ns++x.flat ns.length++y.flat (ns++x.flat ns.length).length).length<1000000) (hK:3<=K/\K<=7) :
  bm P0 bF [.ptr 0 0,.agg [.d (I K),.d (I 0),.d (.str []),.d (.str []),.d (.slice 1 [[I ((ns.length+x.sz - 1:Nat))],[I (((ns++x.flat ns.length).length+y.sz - 1:Nat))]] true)]] (rdN l k (ns++x.flat ns.length++y.flat (ns++x.flat ns.length).length)) (.d (I ((ns.length+(Ex.bin K x y).sz - 1:Nat)))) (rdN l k (ns++(Ex.bin K x y).flat ns.length)):=by
 have:=qd l k _ _ _ (PI ns K x y) (ns.length+(Ex.bin K x y).sz - 1) (by simp [Ex.sz,Ex.ax];try omega) hx;have e:ofD K [ns.length+x.sz - 1,(ns++x.flat ns.length).length+y.sz - 1] = .slice 1 [[I ((ns.length+x.sz - 1:Nat))],[I (((ns++x.flat ns.length).length+y.sz - 1:Nat))]] true:=by
  unfold ofD;rw [if_neg (by omega),if_neg (by omega),if_neg (by omega)];rfl
 simp only [e] at this;exact this
theorem Vn (l:List Tok) (hl:l.length<1000000) (n:Nat) (ih:∀m,m<=n->CE l m) (k:Nat) (ns:List Nod) (hk:k<=l.length) (hn:ns.length<=k):OkE fW l k ns (iC (n+1) (l.drop k)):=by
 rw [iC]
 rcases xm ((ih n (YN _)).qC k ns hk hn) hk (fun e r h=>(eN n).qC _ _ _ h) with h0|⟨h0,h1⟩|⟨e,k1,h0,hk1,mY,h1⟩
 ·rw [h0];exact trivial
 ·rw [h0]
  refine aP jl rfl ?_
  repeat' first|refine aw ?_|refine bw (fun _=>?_) fun _=>?_
  refine bk 2 [0,1] h1 ?_;intro h m
  repeat' first|refine aw ?_|refine bw (fun _=>?_) fun _=>?_
  exact aQ rfl
 ·rw [h0]
  show OkE _ _ _ _ (eM n e (l.drop k1));by_cases hout:eM n e (l.drop k1) = .out
  ·rw [hout];exact trivial
  generalize hR:eM n e (l.drop k1)=R at hout;refine sF jl rfl (K2 hout) ?_
  repeat' first|refine aw ?_|refine bw (fun _=>?_) fun _=>?_
  refine ag 2 [0,1] h1 ?_
  repeat' first|refine aw ?_|refine bw (fun _=>?_) fun _=>?_
  refine dO (fun ((e,k1,m):Ex×Nat×Nat)=>⟨[(3,.d (I ↑(ns.length+e.sz - 1))),(0,.ptr 0 0)],bu 0 (rdN l k1 (ns++e.flat ns.length)),2,[],2⟩) (fun (e,k1,m)=>eM m e (l.drop k1)=R/\m<=n/\k1<=l.length/\k+e.sz<=k1) (fun (_,_,m)=>m) (e,k1,n) (by exact Uw.wW) ⟨hR,YN _,hk1,mY⟩ ?_;clear hR h0 h1 hk1 mY;rintro ⟨e,k1,m⟩ ⟨hR,hm,hk1,hk2⟩
  cases m with
  | zero=>rw [eM] at hR;exact absurd hR.symm hout
  | succ m=>
   rw [eM] at hR;have pk:=bO l k1 ((ns++e.flat ns.length).map bU) hk1;have hfl:(ns++e.flat ns.length).length=ns.length+e.sz:=by simp [Ex.ax]
   by_cases hs:hd (l.drop k1)=[42]
   ·have hlt:=eo hs (by simp)
    rw [if_pos hs,YX] at hR;rw [hs] at pk
    rcases xm ((ih m (by omega)).qC (k1+1) (ns++e.flat ns.length) (by omega) (by omega)) (by omega) (fun e r h=>(eN m).qC _ _ _ h) with h0|⟨h0,h1⟩|⟨y,k2,h0,hk3,Ir,h1⟩
    ·rw [h0] at hR;exact absurd hR.symm hout
    ·rw [h0] at hR
     have hb:Iq l ns R = .bad:=by rw [<- hR];rfl
     clear ih hR hout hs
     repeat' first|refine aw ?_|refine bw (fun _=>?_) fun _=>?_
     refine ag 2 [0,1] pk ?_
     repeat' first|refine aw ?_|refine bw (fun _=>?_) fun _=>?_
     refine dG bW rfl ?_
     repeat' first|refine aw ?_|refine bw (fun _=>?_) fun _=>?_
     refine bk 2 [0,1] h1 ?_;intro h q
     repeat' first|refine aw ?_|refine bw (fun _=>?_) fun _=>?_
     refine nk rfl ?_
     repeat' first|refine aw ?_|refine bw (fun _=>?_) fun _=>?_
     exact mF (lY 2 hb rfl)
    ·rw [h0] at hR
     have hR:eM m (.bin 5 e y) (l.drop k2)=R:=hR;have hp:=vW l k2 ns 5 e y (by simp [Ex.ax];omega) (by omega);clear ih hout hs
     repeat' first|refine aw ?_|refine bw (fun _=>?_) fun _=>?_
     refine ag 2 [0,1] pk ?_
     repeat' first|refine aw ?_|refine bw (fun _=>?_) fun _=>?_
     refine dG bW rfl ?_
     repeat' first|refine aw ?_|refine bw (fun _=>?_) fun _=>?_
     refine ag 2 [0,1] h1 ?_
     repeat' first|refine aw ?_|refine bw (fun _=>?_) fun _=>?_
     refine ag 2 [0,1] hp ?_
     repeat' first|refine aw ?_|refine bw (fun _=>?_) fun _=>?_
     refine dW rfl rfl ?_
     repeat' first|refine aw ?_|refine bw (fun _=>?_) fun _=>?_
     exact cJ (.bin 5 e y,k2,m) ⟨hR,by omega,hk3,by rw [Ex.sz];omega⟩ (by simp only;omega) (by exact Uw.wW)
   ·rw [if_neg hs] at hR
    have hb:Iq l ns R = .ok (.d (I ((ns.length+e.sz - 1:Nat)))) (rdN l k1 (ns++e.flat ns.length)):=by rw [<- hR];show Out.ok _ (rdN l (l.length - (l.drop k1).length) _)=_;rw [len_drop hk1]
    generalize hd (l.drop k1)=p at *;clear ih hR hout
    repeat' first|refine aw ?_|refine bw (fun _=>?_) fun _=>?_
    refine ag 2 [0,1] pk ?_
    repeat' first|refine aw ?_|refine bw (fun _=>?_) fun _=>?_
    exact vV 2 hb rfl rfl (by exact Uw.wW)
end Uw.Tryz
namespace Uw.Tryz
open Go Uw
theorem WO (l:List Tok) (hl:l.length<1000000) (n:Nat) (ih:∀m,m<=n->CE l m) (k:Nat) (ns:List Nod) (hk:k<=l.length) (hn:ns.length<=k):OkE i7 l k ns (m9 (n+1) (l.drop k)):=by
 rw [m9]
 rcases xm ((ih n (YN _)).prod k ns hk hn) hk (fun e r h=>(eN n).prod _ _ _ h) with h0|⟨h0,h1⟩|⟨e,k1,h0,hk1,mY,h1⟩
 ·rw [h0];exact trivial
 ·rw [h0]
  refine aP lH rfl ?_
  repeat' first|refine aw ?_|refine bw (fun _=>?_) fun _=>?_
  refine bk 2 [0,1] h1 ?_;intro h m
  repeat' first|refine aw ?_|refine bw (fun _=>?_) fun _=>?_
  exact aQ rfl
 ·rw [h0]
  show OkE _ _ _ _ (fN n e (l.drop k1));by_cases hout:fN n e (l.drop k1) = .out
  ·rw [hout];exact trivial
  generalize hR:fN n e (l.drop k1)=R at hout;refine sF lH rfl (K2 hout) ?_
  repeat' first|refine aw ?_|refine bw (fun _=>?_) fun _=>?_
  refine ag 2 [0,1] h1 ?_
  repeat' first|refine aw ?_|refine bw (fun _=>?_) fun _=>?_
  refine dO (fun ((e,k1,m):Ex×Nat×Nat)=>⟨[(3,.d (I ↑(ns.length+e.sz - 1))),(0,.ptr 0 0)],bu 0 (rdN l k1 (ns++e.flat ns.length)),2,[],2⟩) (fun (e,k1,m)=>fN m e (l.drop k1)=R/\m<=n/\k1<=l.length/\k+e.sz<=k1) (fun (_,_,m)=>m) (e,k1,n) (by exact Uw.wW) ⟨hR,YN _,hk1,mY⟩ ?_;clear hR h0 h1 hk1 mY;rintro ⟨e,k1,m⟩ ⟨hR,hm,hk1,hk2⟩
  cases m with
  | zero=>rw [fN] at hR;exact absurd hR.symm hout
  | succ m=>
   rw [fN] at hR;have pk:=bO l k1 ((ns++e.flat ns.length).map bU) hk1;have hfl:(ns++e.flat ns.length).length=ns.length+e.sz:=by simp [Ex.ax]
   by_cases hs:hd (l.drop k1)=[43]\/hd (l.drop k1)=[45]
   ·have hlt:k1<l.length:=by rcases hs with hs|hs<;>exact eo hs (by simp)
    rcases xm ((ih m (by omega)).prod (k1+1) (ns++e.flat ns.length) (by omega) (by omega)) (by omega) (fun e r h=>(eN m).prod _ _ _ h) with h0|⟨h0,h1⟩|⟨y,k2,h0,hk3,Ir,h1⟩
    ·exfalso
     rcases hs with hs|hs
     ·rw [if_pos hs,YX,h0] at hR;exact hout hR.symm
     ·rw [if_neg (by rw [hs];decide),if_pos hs,YX,h0] at hR;exact hout hR.symm
    ·have hb:Iq l ns R = .bad:=by
      rcases hs with hs|hs
      ·rw [if_pos hs,YX,h0] at hR;rw [<- hR];rfl
      ·rw [if_neg (by rw [hs];decide),if_pos hs,YX,h0] at hR;rw [<- hR];rfl
     clear ih hR hout
     rcases hs with hs|hs
     all_goals
      rw [hs] at pk;clear hs
      repeat' first|refine aw ?_|refine bw (fun _=>?_) fun _=>?_
      refine ag 2 [0,1] pk ?_
      repeat' first|refine aw ?_|refine bw (fun _=>?_) fun _=>?_
      refine dG bW rfl ?_
      repeat' first|refine aw ?_|refine bw (fun _=>?_) fun _=>?_
      refine bk 2 [0,1] h1 ?_;intro h q
      repeat' first|refine aw ?_|refine bw (fun _=>?_) fun _=>?_
      refine nk rfl ?_
      repeat' first|refine aw ?_|refine bw (fun _=>?_) fun _=>?_
      exact mF (lY 2 hb rfl)
    ·rcases hs with hs|hs
     ·have hR:fN m (.bin 3 e y) (l.drop k2)=R:=by rw [if_pos hs,YX,h0] at hR;exact hR
      have hp:=vW l k2 ns 3 e y (by simp [Ex.ax];omega) (by omega);rw [hs] at pk;clear ih hout hs
      repeat' first|refine aw ?_|refine bw (fun _=>?_) fun _=>?_
      refine ag 2 [0,1] pk ?_
      repeat' first|refine aw ?_|refine bw (fun _=>?_) fun _=>?_
      refine dG bW rfl ?_
      repeat' first|refine aw ?_|refine bw (fun _=>?_) fun _=>?_
      refine ag 2 [0,1] h1 ?_
      repeat' first|refine aw ?_|refine bw (fun _=>?_) fun _=>?_
      refine ag 2 [0,1] hp ?_
      repeat' first|refine aw ?_|refine bw (fun _=>?_) fun _=>?_
      refine dW rfl rfl ?_
      repeat' first|refine aw ?_|refine bw (fun _=>?_) fun _=>?_
      exact cJ (.bin 3 e y,k2,m) ⟨hR,by omega,hk3,by rw [Ex.sz];omega⟩ (by simp only;omega) (by exact Uw.wW)
     ·have hR:fN m (.bin 4 e y) (l.drop k2)=R:=by rw [if_neg (by rw [hs];decide),if_pos hs,YX,h0] at hR;exact hR
      have hp:=vW l k2 ns 4 e y (by simp [Ex.ax];omega) (by omega);rw [hs] at pk;clear ih hout hs
      repeat' first|refine aw ?_|refine bw (fun _=>?_) fun _=>?_
      refine ag 2 [0,1] pk ?_
      repeat' first|refine aw ?_|refine bw (fun _=>?_) fun _=>?_
      refine dG bW rfl ?_
      repeat' first|refine aw ?_|refine bw (fun _=>?_) fun _=>?_
      refine ag 2 [0,1] h1 ?_
      repeat' first|refine aw ?_|refine bw (fun _=>?_) fun _=>?_
      refine ag 2 [0,1] hp ?_
      repeat' first|refine aw ?_|refine bw (fun _=>?_) fun _=>?_
      refine dW rfl rfl ?_
      repeat' first|refine aw ?_|refine bw (fun _=>?_) fun _=>?_
      exact cJ (.bin 4 e y,k2,m) ⟨hR,by omega,hk3,by rw [Ex.sz];omega⟩ (by simp only;omega) (by exact Uw.wW)
   ·rw [if_neg (fun h=>hs (.inl h)),if_neg (fun h=>hs (.inr h))] at hR
    have hb:Iq l ns R = .ok (.d (I ((ns.length+e.sz - 1:Nat)))) (rdN l k1 (ns++e.flat ns.length)):=by rw [<- hR];show Out.ok _ (rdN l (l.length - (l.drop k1).length) _)=_;rw [len_drop hk1]
    generalize hd (l.drop k1)=p at *;have hs1:¬p=[43]:=fun h=>hs (.inl h);have hs2:¬p=[45]:=fun h=>hs (.inr h);clear ih hR hout hs
    repeat' first|refine aw ?_|refine bw (fun _=>?_) fun _=>?_
    refine ag 2 [0,1] pk ?_
    repeat' first|refine aw ?_|refine bw (fun _=>?_) fun _=>?_
    exact aN (vV 2 hb rfl rfl (by exact Uw.wW))
theorem Vo (l:List Tok) (hl:l.length<1000000) (n:Nat) (ih:∀m,m<=n->CE l m) (k:Nat) (ns:List Nod) (hk:k<=l.length) (hn:ns.length<=k):OkE bS l k ns (dM (n+1) (l.drop k)):=by
 rw [dM]
 rcases xm ((ih n (YN _)).sum k ns hk hn) hk (fun e r h=>(eN n).sum _ _ _ h) with h0|⟨h0,h1⟩|⟨e,k1,h0,hk1,mY,h1⟩
 ·rw [h0];exact trivial
 ·rw [h0]
  refine aP cj rfl ?_
  repeat' first|refine aw ?_|refine bw (fun _=>?_) fun _=>?_
  refine bk 2 [0,1] h1 ?_;intro h m
  repeat' first|refine aw ?_|refine bw (fun _=>?_) fun _=>?_
  exact aQ rfl
 ·rw [h0]
  have pk:=bO l k1 ((ns++e.flat ns.length).map bU) hk1;have hfl:(ns++e.flat ns.length).length=ns.length+e.sz:=by simp [Ex.ax]
  show OkE _ _ _ _ (if hd (l.drop k1)=[60] then _ else _);by_cases hs:hd (l.drop k1)=[60]\/hd (l.drop k1)=[61,61]
  ·have hlt:k1<l.length:=by rcases hs with hs|hs<;>exact eo hs (by simp)
   rcases xm ((ih n (YN _)).sum (k1+1) (ns++e.flat ns.length) (by omega) (by omega)) (by omega) (fun e r h=>(eN n).sum _ _ _ h) with h2|⟨h2,h3⟩|⟨y,k2,h2,hk3,Ir,h3⟩
   ·rcases hs with hs|hs
    ·rw [if_pos hs,YX,h2];exact trivial
    ·rw [if_neg (by rw [hs];decide),if_pos hs,YX,h2];exact trivial
   ·rcases hs with hs|hs
    ·rw [if_pos hs,YX,h2]
     rw [hs] at pk;clear hs ih;refine aP cj rfl ?_
     repeat' first|refine aw ?_|refine bw (fun _=>?_) fun _=>?_
     refine ag 2 [0,1] h1 ?_
     repeat' first|refine aw ?_|refine bw (fun _=>?_) fun _=>?_
     refine ag 2 [0,1] pk ?_
     repeat' first|refine aw ?_|refine bw (fun _=>?_) fun _=>?_
     refine dG bW rfl ?_
     repeat' first|refine aw ?_|refine bw (fun _=>?_) fun _=>?_
     refine bk 2 [0,1] h3 ?_;intro h q
     repeat' first|refine aw ?_|refine bw (fun _=>?_) fun _=>?_
     refine nk rfl ?_
     repeat' first|refine aw ?_|refine bw (fun _=>?_) fun _=>?_
     exact aQ rfl
    ·rw [if_neg (by rw [hs];decide),if_pos hs,YX,h2]
     rw [hs] at pk;clear hs ih;refine aP cj rfl ?_
     repeat' first|refine aw ?_|refine bw (fun _=>?_) fun _=>?_
     refine ag 2 [0,1] h1 ?_
     repeat' first|refine aw ?_|refine bw (fun _=>?_) fun _=>?_
     refine ag 2 [0,1] pk ?_
     repeat' first|refine aw ?_|refine bw (fun _=>?_) fun _=>?_
     refine dG bW rfl ?_
     repeat' first|refine aw ?_|refine bw (fun _=>?_) fun _=>?_
     refine bk 2 [0,1] h3 ?_;intro h q
     repeat' first|refine aw ?_|refine bw (fun _=>?_) fun _=>?_
     refine nk rfl ?_
     repeat' first|refine aw ?_|refine bw (fun _=>?_) fun _=>?_
     exact aQ rfl
   ·rcases hs with hs|hs
    ·rw [if_pos hs,YX,h2]
     have hp:=vW l k2 ns 6 e y (by simp [Ex.ax];omega) (by omega);rw [hs] at pk;show bm _ _ _ _ _ (rdN l (l.length - (l.drop k2).length) _);rw [len_drop hk3];clear hs ih;refine aJ cj rfl ?_
     repeat' first|refine aw ?_|refine bw (fun _=>?_) fun _=>?_
     refine ag 2 [0,1] h1 ?_
     repeat' first|refine aw ?_|refine bw (fun _=>?_) fun _=>?_
     refine ag 2 [0,1] pk ?_
     repeat' first|refine aw ?_|refine bw (fun _=>?_) fun _=>?_
     refine dG bW rfl ?_
     repeat' first|refine aw ?_|refine bw (fun _=>?_) fun _=>?_
     refine ag 2 [0,1] h3 ?_
     repeat' first|refine aw ?_|refine bw (fun _=>?_) fun _=>?_
     refine ag 2 [0,1] hp ?_
     repeat' first|refine aw ?_|refine bw (fun _=>?_) fun _=>?_
     refine dW rfl rfl ?_
     repeat' first|refine aw ?_|refine bw (fun _=>?_) fun _=>?_
     exact aI 2 rfl rfl (by exact Uw.wW)
    ·rw [if_neg (by rw [hs];decide),if_pos hs,YX,h2]
     have hp:=vW l k2 ns 7 e y (by simp [Ex.ax];omega) (by omega);rw [hs] at pk;show bm _ _ _ _ _ (rdN l (l.length - (l.drop k2).length) _);rw [len_drop hk3];clear hs ih;refine aJ cj rfl ?_
     repeat' first|refine aw ?_|refine bw (fun _=>?_) fun _=>?_
     refine ag 2 [0,1] h1 ?_
     repeat' first|refine aw ?_|refine bw (fun _=>?_) fun _=>?_
     refine ag 2 [0,1] pk ?_
     repeat' first|refine aw ?_|refine bw (fun _=>?_) fun _=>?_
     refine dG bW rfl ?_
     repeat' first|refine aw ?_|refine bw (fun _=>?_) fun _=>?_
     refine ag 2 [0,1] h3 ?_
     repeat' first|refine aw ?_|refine bw (fun _=>?_) fun _=>?_
     refine ag 2 [0,1] hp ?_
     repeat' first|refine aw ?_|refine bw (fun _=>?_) fun _=>?_
     refine dW rfl rfl ?_
     repeat' first|refine aw ?_|refine bw (fun _=>?_) fun _=>?_
     exact aI 2 rfl rfl (by exact Uw.wW)
  ·rw [if_neg (fun h=>hs (.inl h)),if_neg (fun h=>hs (.inr h))]
   show bm _ _ _ _ _ (rdN l (l.length - (l.drop k1).length) _);rw [len_drop hk1];generalize hd (l.drop k1)=p at *;have hs1:¬p=[60]:=fun h=>hs (.inl h);have hs2:¬p=[61,61]:=fun h=>hs (.inr h);clear ih hs;refine aJ cj rfl ?_
   repeat' first|refine aw ?_|refine bw (fun _=>?_) fun _=>?_
   refine ag 2 [0,1] h1 ?_
   repeat' first|refine aw ?_|refine bw (fun _=>?_) fun _=>?_
   refine ag 2 [0,1] pk ?_
   repeat' first|refine aw ?_|refine bw (fun _=>?_) fun _=>?_
   exact aI 2 rfl rfl (by exact Uw.wW)
end Uw.Tryz
namespace Uw.Tryz
open Go Uw
def Exs.app:Exs->Exs->Exs
 | .nil,b=>b
 | .cons e r,b=>.cons e (r.app b)
theorem Exs.A4:∀(a b:Exs),(a.app b).sz=a.sz+b.sz
 | .nil,b=>by simp [Exs.app,Exs.sz]
 | .cons e r,b=>by rw [Exs.app,Exs.sz,Exs.sz,Exs.A4 r b];omega
theorem Exs.rY:∀(a b:Exs) (n:Nat),(a.app b).flat n=a.flat n++b.flat (n+a.sz)
 | .nil,b,n=>by simp [Exs.app,Exs.flat,Exs.sz]
 | .cons e r,b,n=>by rw [Exs.app,Exs.flat,Exs.flat,Exs.rY r b,Exs.sz,Ze,ZG]
theorem Exs.mZ:∀(a b:Exs) (n:Nat),(a.app b).places n=a.places n++b.places (n+a.sz)
 | .nil,b,n=>by simp [Exs.app,Exs.places,Exs.sz]
 | .cons e r,b,n=>by rw [Exs.app,Exs.places,Exs.places,Exs.mZ r b,Exs.sz,Za,ZG]
theorem Exs.vX:∀(a:Exs),a.app .nil=a
 | .nil=>rfl
 | .cons e r=>by rw [Exs.app,Exs.vX r]
theorem Exs.pj:∀(a b c:Exs),(a.app b).app c=a.app (b.app c)
 | .nil,b,c=>rfl
 | .cons e r,b,c=>by rw [Exs.app,Exs.app,Exs.app,Exs.pj r b c]
def eR (ys:List Nat):List (List Dat):=ys.map fun (i:Nat)=>[I i]
theorem B6 (l:List Tok) (k k' : Nat) (ns ms:List Nod) (p:Nat) (h:bm P0 bS [.ptr 0 0] (rdN l k ns) (.d (I p)) (rdN l k' ms)) :
  bm P0 ck [.ptr 3 0,.ptr 2 0] (rdN l k ns++[.var [.ptr 0 0],.var [.d .nil]]) (.tuple []) (rdN l k' ms++[.var [.ptr 0 0],.var [.ref 4 0 0 (eR [p]).length],.arr 1 (eR [p])]):=by
 refine aJ dt rfl ?_;refine b9 ⟨[],bu 0 (rdN l k' ms++[.var [.ptr 0 0],.var [.ref 4 0 0 (eR [p]).length],.arr 1 (eR [p])]),5,[],4⟩ ?_ ?_
 ·repeat' first|refine aw ?_|refine bw (fun _=>?_) fun _=>?_
  refine ag 4 [0,1] h ?_
  repeat' first|refine aw ?_|refine bw (fun _=>?_) fun _=>?_
  exact bg (.inl ⟨rfl,by exact Uw.wW⟩)
 ·repeat' first|refine aw ?_|refine bw (fun _=>?_) fun _=>?_
  exact dr 4 rfl rfl (by exact Uw.wW)
theorem F8 (l:List Tok) (k k' : Nat) (ns ms:List Nod) (ys:List Nat) (p:Nat) (hy:ys.length<1000000) (h:bm P0 bS [.ptr 0 0] (rdN l k ns) (.d (I p)) (rdN l k' ms)) :
  bm P0 ck [.ptr 3 0,.ptr 2 0] (rdN l k ns++[.var [.ptr 0 0],.var [.ref 4 0 0 (eR ys).length],.arr 1 (eR ys)]) (.tuple []) (rdN l k' ms++[.var [.ptr 0 0],.var [.ref 4 0 0 (eR (ys++[p])).length],.arr 1 (eR (ys++[p]))]):=by
 have e:eR (ys++[p])=eR ys++[[I p]]:=by simp [eR]
 have hy' : (eR ys).length<1000000:=by simpa [eR] using hy
 rw [e];generalize eR ys=zs at *;refine aJ dt rfl ?_;refine b9 ⟨[],bu 0 (rdN l k' ms++[.var [.ptr 0 0],.var [.ref 4 0 0 (zs++[[I p]]).length],.arr 1 (zs++[[I p]])]),5,[],5⟩ ?_ ?_
 ·repeat' first|refine aw ?_|refine bw (fun _=>?_) fun _=>?_
  refine ag 5 [0,1] h ?_
  repeat' first|refine aw ?_|refine bw (fun _=>?_) fun _=>?_
  exact bg (.inl ⟨rfl,by exact Uw.wW⟩)
 ·repeat' first|refine aw ?_|refine bw (fun _=>?_) fun _=>?_
  exact dr 5 rfl rfl (by exact Uw.wW)
theorem B7 (l:List Tok) (k:Nat) (ns:List Nod) (h:kH P0 bS [.ptr 0 0] (rdN l k ns) cZ) :
  kH P0 ck [.ptr 3 0,.ptr 2 0] (rdN l k ns++[.var [.ptr 0 0],.var [.d .nil]]) cZ:=by
 refine aP dt rfl ?_;refine oL ?_
 repeat' first|refine aw ?_|refine bw (fun _=>?_) fun _=>?_
 refine bk 4 [0,1] h ?_;intro H n
 repeat' first|refine aw ?_|refine bw (fun _=>?_) fun _=>?_
 exact bg ⟨cZ,rfl,aQ rfl⟩
theorem F9 (l:List Tok) (k:Nat) (ns:List Nod) (ys:List Nat) (h:kH P0 bS [.ptr 0 0] (rdN l k ns) cZ) :
  kH P0 ck [.ptr 3 0,.ptr 2 0] (rdN l k ns++[.var [.ptr 0 0],.var [.ref 4 0 0 (eR ys).length],.arr 1 (eR ys)]) cZ:=by
 generalize eR ys=zs at *;refine aP dt rfl ?_;refine oL ?_
 repeat' first|refine aw ?_|refine bw (fun _=>?_) fun _=>?_
 refine bk 5 [0,1] h ?_;intro H n
 repeat' first|refine aw ?_|refine bw (fun _=>?_) fun _=>?_
 exact bg ⟨cZ,rfl,aQ rfl⟩
theorem Vp {l:List Tok} {k:Nat} {ns:List Nod} {f:FuncId} {x:R Exs} (h:c6 f [.ptr 0 0] (rdN l k ns) (outA l ns x)) (hk:k<=l.length) (hs:∀e r,x = .ok e r->Suf (l.drop k) r (e.sz+1)) :
  x = .out\/(x = .bad/\kH P0 f [.ptr 0 0] (rdN l k ns) cZ)\/∃e k',x = .ok e (l.drop k')/\k'<=l.length/\k+(e.sz+1)<=k'/\bm P0 f [.ptr 0 0] (rdN l k ns) (.d (e.A3 ns.length)) (rdN l k' (ns++e.flat ns.length)):=by
 cases x with
 | out=>exact .inl rfl
 | bad=>exact .inr (.inl ⟨rfl,h⟩)
 | ok e r=>
  obtain ⟨k',h1,rfl,h2⟩:=rX (hs e r rfl) hk;refine .inr (.inr ⟨e,k',rfl,h1,h2,?_⟩);have h:bm P0 f [.ptr 0 0] (rdN l k ns) (.d (e.A3 ns.length)) (rdN l (l.length - (l.drop k').length) (ns++e.flat ns.length)):=h;rw [len_drop h1] at h;exact h
theorem R7 {l:List Tok} {ns:List Nod} {x:R Exs} (h:x≠.out):outA l ns x≠.out:=by cases x<;>first|exact absurd rfl h|(intro h;cases h)
theorem Vq (l:List Tok) (hl:l.length<1000000) (n:Nat) (ih:∀m,m<=n->CE l m) (k:Nat) (ns:List Nod) (hk:k<=l.length) (hn:ns.length<=k):c6 fr [.ptr 0 0] (rdN l k ns) (outA l ns (gq (n+1) (l.drop k))):=by
 rw [gq];by_cases h0:hd (l.drop k)=[40]
 ·have hlt:=eo h0 (by simp)
  have w0:=aR l k (ns.map bU) hk hl [40] (by simp) h0;have hv:=bK l (k+1) (ns.map bU) hlt hl [41] (by simp);rw [want,if_pos h0,YX];show c6 _ _ _ (outA l ns (if hd (l.drop (k+1))=[41] then _ else _));by_cases h1:hd (l.drop (k+1))=[41]
  ·have hlt1:=eo h1 (by simp)
   rw [if_pos h1,YX];rw [if_pos h1,decide_eq_true h1] at hv;show bm _ _ _ _ (.d .nil) (rdN l (l.length - (l.drop (k+1+1)).length) (ns++[]));rw [len_drop (by omega),ZA];clear ih h0 h1;refine aJ dI rfl ?_
   repeat' first|refine aw ?_|refine bw (fun _=>?_) fun _=>?_
   refine dG cB rfl ?_
   repeat' first|refine aw ?_|refine bw (fun _=>?_) fun _=>?_
   refine ag 4 [0,1] w0 ?_
   repeat' first|refine aw ?_|refine bw (fun _=>?_) fun _=>?_
   refine ag 4 [0,1] hv ?_
   repeat' first|refine aw ?_|refine bw (fun _=>?_) fun _=>?_
   refine dW rfl rfl ?_
   repeat' first|refine aw ?_|refine bw (fun _=>?_) fun _=>?_
   exact aI 2 rfl rfl (by exact Uw.wW)
  ·rw [if_neg h1]
   rw [if_neg h1,decide_eq_false h1] at hv
   rcases xm ((ih n (YN _)).expr (k+1) ns hlt (by omega)) hlt (fun e r h=>(eN n).expr _ _ _ h) with h2|⟨h2,h3⟩|⟨e,k1,h2,hk1,mY,h3⟩
   ·rw [h2];exact trivial
   ·rw [h2]
    have a1:=B7 l (k+1) ns h3;clear ih h0 h1;refine aP dI rfl ?_
    repeat' first|refine aw ?_|refine bw (fun _=>?_) fun _=>?_
    refine dG cB rfl ?_
    repeat' first|refine aw ?_|refine bw (fun _=>?_) fun _=>?_
    refine ag 4 [0,1] w0 ?_
    repeat' first|refine aw ?_|refine bw (fun _=>?_) fun _=>?_
    refine ag 4 [0,1] hv ?_
    repeat' first|refine aw ?_|refine bw (fun _=>?_) fun _=>?_
    refine bk 4 [0,1,2,3] a1 ?_;intro H q
    repeat' first|refine aw ?_|refine bw (fun _=>?_) fun _=>?_
    refine nk rfl ?_
    repeat' first|refine aw ?_|refine bw (fun _=>?_) fun _=>?_
    exact aQ rfl
   ·rw [h2]
    show c6 _ _ _ (outA l ns ((dR n (l.drop k1)).bind fun es r=>.ok (.cons e es) r));have hf1:ns++e.flat ns.length=ns++(Exs.cons e .nil).flat ns.length:=by simp [Exs.flat]
    have a1:=B6 l (k+1) k1 ns (ns++e.flat ns.length) _ h3;rw [hf1] at a1;have hz1:(Exs.cons e .nil).sz=e.sz:=rfl;generalize hR:(dR n (l.drop k1)).bind (fun es r=>R.ok (Exs.cons e es) r)=Rr;by_cases hout:Rr = .out
    ·rw [hout];exact trivial
    refine sF dI rfl (R7 hout) ?_
    repeat' first|refine aw ?_|refine bw (fun _=>?_) fun _=>?_
    refine dG cB rfl ?_
    repeat' first|refine aw ?_|refine bw (fun _=>?_) fun _=>?_
    refine ag 4 [0,1] w0 ?_
    repeat' first|refine aw ?_|refine bw (fun _=>?_) fun _=>?_
    refine ag 4 [0,1] hv ?_
    repeat' first|refine aw ?_|refine bw (fun _=>?_) fun _=>?_
    refine ag 4 [0,1,2,3] a1 ?_
    repeat' first|refine aw ?_|refine bw (fun _=>?_) fun _=>?_
    refine dO (fun ((d,k1,m):Exs×Nat×Nat)=>⟨[(0,.ptr 0 0),(1,V.func ck [] [V.ptr 3 0,V.ptr 2 0])],bu 0 (rdN l k1 (ns++d.flat ns.length)++[.var [.ptr 0 0],.var [.ref 4 0 0 (eR (d.places ns.length)).length],.arr 1 (eR (d.places ns.length))]),5,[],4⟩)
     (fun (d,k1,m)=>(dR m (l.drop k1)).bind (fun es r=>R.ok (d.app es) r)=Rr/\m<=n/\k1<=l.length/\k+d.sz+1<=k1/\d.places ns.length≠[]) (fun (_,_,m)=>m) (.cons e .nil,k1,n) (by exact Uw.wW) ⟨hR,YN _,hk1,by omega,by simp [Exs.places]⟩ ?_
    clear hR h0 h1 h2 h3 hk1 mY a1 hf1 hz1 w0 hv;rintro ⟨d,k1,m⟩ ⟨hR,hm,hk1,hk2,hd0⟩
    cases m with
    | zero=>rw [dR] at hR;exact absurd hR.symm hout
    | succ m=>
     rw [dR] at hR;have hfl:(ns++d.flat ns.length).length=ns.length+d.sz:=by simp [Exs.ax]
     have hv:=bK l k1 ((ns++d.flat ns.length).map bU) hk1 hl [44] (by simp);by_cases hs:hd (l.drop k1)=[44]
     ·have hlt:=eo hs (by simp)
      rw [if_pos hs,YX] at hR;rw [if_pos hs,decide_eq_true hs] at hv
      rcases xm ((ih m (by omega)).expr (k1+1) (ns++d.flat ns.length) (by omega) (by omega)) (by omega) (fun e r h=>(eN m).expr _ _ _ h) with h0|⟨h0,h1⟩|⟨y,k2,h0,hk3,Ir,h1⟩
      ·rw [h0] at hR;exact absurd hR.symm hout
      ·rw [h0] at hR
       have hb:outA l ns Rr = .bad:=by rw [<- hR];rfl
       have a1:=F9 l (k1+1) _ (d.places ns.length) h1;clear ih hR hout hs h0 h1 hd0
       repeat' first|refine aw ?_|refine bw (fun _=>?_) fun _=>?_
       refine ag 5 [0,1] hv ?_
       repeat' first|refine aw ?_|refine bw (fun _=>?_) fun _=>?_
       refine bk 5 [0,1,2,3,4] a1 ?_;intro h q
       repeat' first|refine aw ?_|refine bw (fun _=>?_) fun _=>?_
       refine mF (nk rfl ?_)
       repeat' first|refine aw ?_|refine bw (fun _=>?_) fun _=>?_
       exact lY 2 hb rfl
      ·rw [h0] at hR
       have hR:(dR m (l.drop k2)).bind (fun es r=>R.ok ((d.app (.cons y .nil)).app es) r)=Rr:=by
        rw [<- hR];show _=((dR m (l.drop k2)).bind fun es r=>R.ok (Exs.cons y es) r).bind fun es r=>R.ok (d.app es) r
        cases dR m (l.drop k2) with
        | ok es r=>show R.ok _ _=R.ok _ _;rw [Exs.pj];rfl
        | bad=>rfl
        | out=>rfl
       have a1:=F8 l (k1+1) k2 _ _ (d.places ns.length) _ (by
        have:∀(d:Exs) (b:Nat),(d.places b).length<=d.sz:=by
         intro d
         induction d using Exs.rec (motive_1:=fun _=>True) with
         | nil=>simp [Exs.places]
         | cons e r _ ih=>intro b;have:=ih (b+e.sz);have:=e.i6;simp [Exs.places,Exs.sz];omega
         | _=>trivial
        have:=this d ns.length;omega) h1
       have hpl:d.places ns.length++[(ns++d.flat ns.length).length+y.sz - 1]=(d.app (.cons y .nil)).places ns.length:=by rw [Exs.mZ,hfl];rfl
       have hff:ns++d.flat ns.length++y.flat (ns++d.flat ns.length).length=ns++(d.app (.cons y .nil)).flat ns.length:=by rw [Exs.rY,hfl];simp [Exs.flat]
       have hsz:(d.app (.cons y .nil)).sz=d.sz+y.sz:=by rw [Exs.A4];rfl
       have hd1:(d.app (.cons y .nil)).places ns.length≠[]:=by rw [<- hpl];simp
       rw [hpl,hff] at a1;clear ih hout hs h0 h1 hd0 hpl hff
       repeat' first|refine aw ?_|refine bw (fun _=>?_) fun _=>?_
       refine ag 5 [0,1] hv ?_
       repeat' first|refine aw ?_|refine bw (fun _=>?_) fun _=>?_
       refine ag 5 [0,1,2,3,4] a1 ?_
       repeat' first|refine aw ?_|refine bw (fun _=>?_) fun _=>?_
       exact cJ (d.app (.cons y .nil),k2,m) ⟨hR,by omega,hk3,by omega,hd1⟩ (by simp only;omega) (by exact Uw.wW)
     ·rw [if_neg hs] at hR
      rw [if_neg hs,decide_eq_false hs] at hv;by_cases hw:hd (l.drop k1)=[41]
      ·have hlt:=eo hw (by simp)
       have w1:=aR l k1 ((ns++d.flat ns.length).map bU) hk1 hl [41] (by simp) hw;have hb:outA l ns Rr = .ok (.d (.slice 1 (eR (d.places ns.length)) false)) (rdN l (k1+1) (ns++d.flat ns.length)):=by
        rw [want,if_pos hw,YX] at hR;have hR:R.ok (d.app .nil) (l.drop (k1+1))=Rr:=hR;rw [<- hR,Exs.vX];show Out.ok (.d (ofD 8 (d.places ns.length))) (rdN l (l.length - (l.drop (k1+1)).length) _)=_;rw [len_drop (by omega)];have:ofD 8 (d.places ns.length) = .slice 1 (eR (d.places ns.length)) false:=by
         unfold ofD;rw [if_neg (by omega),if_pos (by omega),if_neg hd0];rfl
        rw [this]
       have hfz:((eR (d.places ns.length)).drop 0).take (eR (d.places ns.length)).length=eR (d.places ns.length):=by simp
       clear ih hR hout hs hw hd0
       repeat' first|refine aw ?_|refine bw (fun _=>?_) fun _=>?_
       refine ag 5 [0,1] hv ?_
       repeat' first|refine aw ?_|refine bw (fun _=>?_) fun _=>?_
       refine aA ?_;refine ag 5 [0,1] w1 ?_
       repeat' first|refine aw ?_|refine bw (fun _=>?_) fun _=>?_
       refine uY rfl rfl ?_
       repeat' first|refine aw ?_|refine bw (fun _=>?_) fun _=>?_
       exact vV 2 hb rfl rfl (by exact Uw.wW)
      ·have w1:=bh l k1 ((ns++d.flat ns.length).map bU) hk1 hl [41] (by simp) hw
       have hb:outA l ns Rr = .bad:=by
        rw [want,if_neg hw] at hR;rw [<- hR];rfl
       clear ih hR hout hs hw hd0
       repeat' first|refine aw ?_|refine bw (fun _=>?_) fun _=>?_
       refine ag 5 [0,1] hv ?_
       repeat' first|refine aw ?_|refine bw (fun _=>?_) fun _=>?_
       refine aA ?_;refine bk 5 [0,1] w1 ?_;intro h q
       repeat' first|refine aw ?_|refine bw (fun _=>?_) fun _=>?_
       refine nk rfl ?_
       repeat' first|refine aw ?_|refine bw (fun _=>?_) fun _=>?_
       exact lY 2 hb rfl
 ·rw [want,if_neg h0]
  have w0:=bh l k (ns.map bU) hk hl [40] (by simp) h0;clear ih h0;refine aP dI rfl ?_
  repeat' first|refine aw ?_|refine bw (fun _=>?_) fun _=>?_
  refine dG cB rfl ?_
  repeat' first|refine aw ?_|refine bw (fun _=>?_) fun _=>?_
  refine bk 4 [0,1] w0 ?_;intro H q
  repeat' first|refine aw ?_|refine bw (fun _=>?_) fun _=>?_
  refine nk rfl ?_
  repeat' first|refine aw ?_|refine bw (fun _=>?_) fun _=>?_
  exact aQ rfl
end Uw.Tryz
namespace Uw.Tryz
open Go Uw
theorem eh (l:List Tok) (k:Nat) (xs:List (List Dat)) (hk:k<=l.length) (hl:l.length<1000000) :
  (eS (l.drop k) = .bad/\kH P0 cg [.ptr 0 0] (rd l k xs) cZ)\/∃s,eS (l.drop k) = .ok s (l.drop (k+1))/\k<l.length/\bm P0 cg [.ptr 0 0] (rd l k xs) (.d (.str s)) (rd l (k+1) xs):=by
 by_cases h:k<l.length
 ·have hd:l.drop k=l[k]::l.drop (k+1):=Zo h
  by_cases h1:l[k].kind=1
  ·have hw:iM 1 (l.drop k) = .ok l[k] (l.drop (k+1)):=by rw [hd,iM,if_pos h1]
   cases h2:BJ l[k].text with
   | true=>
    refine .inl ⟨?_,iJ l k xs hk hl (fun _=>.inr h2)⟩;rw [eS,hw];show (if BJ l[k].text=true then _ else _)=_;rw [if_pos h2]
   | false=>
    refine .inr ⟨l[k].text,?_,h,s5 l k xs hk hl h h1 h2⟩;rw [eS,hw];show (if BJ l[k].text=true then _ else _)=_;rw [if_neg (by rw [h2];decide)]
  ·refine .inl ⟨?_,iJ l k xs hk hl (fun _=>.inl h1)⟩
   rw [eS,hd,iM,if_neg h1];rfl
 ·refine .inl ⟨?_,iJ l k xs hk hl (fun h'=>absurd h' h)⟩
  rw [eS,Zu (by omega),iM];rfl
theorem sG (es:Exs) (b:Nat):es.A3 b = .nil\/es.A3 b = .slice 1 (eR (es.places b)) false:=by
 unfold Exs.A3 ofD;rw [if_neg (by omega),if_pos (by omega)]
 split
 ·exact .inl rfl
 ·exact .inr rfl
theorem c_call (l:List Tok) (hl:l.length<1000000) (n:Nat) (ih:∀m,m<=n->CE l m) (s:Str) (k:Nat) (ns:List Nod) (hk:k<=l.length) (hn:ns.length<=k):c6 cY [.ptr 0 0,.d (.str s)] (rdN l k ns) (PH l ns s (gP (n+1) s (l.drop k))):=by
 rw [gP];by_cases h0:hd (l.drop k)=[46]
 ·have hlt:=eo h0 (by simp)
  have w0:=aR l k (ns.map bU) hk hl [46] (by simp) h0;rw [want,if_pos h0,YX];show c6 _ _ _ (PH l ns s ((eS (l.drop (k+1))).bind _))
  rcases eh l (k+1) (ns.map bU) hlt hl with ⟨h1,h2⟩|⟨v,h1,hlt1,h2⟩
  ·rw [h1]
   clear ih h0;refine aP fh rfl ?_
   repeat' first|refine aw ?_|refine bw (fun _=>?_) fun _=>?_
   refine ag 2 [0,1] w0 ?_
   repeat' first|refine aw ?_|refine bw (fun _=>?_) fun _=>?_
   refine bk 2 [0,1] h2 ?_;intro H q
   repeat' first|refine aw ?_|refine bw (fun _=>?_) fun _=>?_
   exact aQ rfl
  ·rw [h1]
   show c6 _ _ _ (PH l ns s ((gq n (l.drop (k+1+1))).bind _))
   rcases Vp ((ih n (YN _)).args (k+1+1) ns (by omega) (by omega)) (by omega) (fun e r h=>(eN n).args _ _ _ h) with h3|⟨h3,h4⟩|⟨es,k1,h3,hk1,mY,h4⟩
   ·rw [h3];exact trivial
   ·rw [h3]
    clear ih h0;refine aP fh rfl ?_
    repeat' first|refine aw ?_|refine bw (fun _=>?_) fun _=>?_
    refine ag 2 [0,1] w0 ?_
    repeat' first|refine aw ?_|refine bw (fun _=>?_) fun _=>?_
    refine ag 2 [0,1] h2 ?_
    repeat' first|refine aw ?_|refine bw (fun _=>?_) fun _=>?_
    refine bk 3 [0,1] h4 ?_;intro H q
    repeat' first|refine aw ?_|refine bw (fun _=>?_) fun _=>?_
    exact aQ rfl
   ·rw [h3]
    show bm _ _ _ _ (.d (I ((ns.length+(Ex.call s v es).sz - 1:Nat)))) (rdN l (l.length - (l.drop k1).length) (ns++(Ex.call s v es).flat ns.length));rw [len_drop hk1];have hp:=qd l k1 (ns++es.flat ns.length) (ns++(Ex.call s v es).flat ns.length) ⟨8,0,s,v,es.places ns.length⟩ (by simp [Ex.flat]) (ns.length+(Ex.call s v es).sz - 1) (by simp [Ex.sz,Exs.ax];try omega) (by simp [Exs.ax];omega);have hp:bm P0 bF [.ptr 0 0,.agg [.d (I 8),.d (I 0),.d (.str s),.d (.str v),.d (es.A3 ns.length)]] (rdN l k1 (ns++es.flat ns.length)) (.d (I ((ns.length+(Ex.call s v es).sz - 1:Nat)))) (rdN l k1 (ns++(Ex.call s v es).flat ns.length)):=hp;clear ih h0
    rcases sG es ns.length with e|e
    all_goals
     rw [e] at hp h4;refine aJ fh rfl ?_
     repeat' first|refine aw ?_|refine bw (fun _=>?_) fun _=>?_
     refine ag 2 [0,1] w0 ?_
     repeat' first|refine aw ?_|refine bw (fun _=>?_) fun _=>?_
     refine ag 2 [0,1] h2 ?_
     repeat' first|refine aw ?_|refine bw (fun _=>?_) fun _=>?_
     refine ag 3 [0,1] h4 ?_
     repeat' first|refine aw ?_|refine bw (fun _=>?_) fun _=>?_
     refine ag 3 [0,1] hp ?_
     repeat' first|refine aw ?_|refine bw (fun _=>?_) fun _=>?_
     exact aI 2 rfl rfl (by exact Uw.wW)
 ·rw [want,if_neg h0]
  have w0:=bh l k (ns.map bU) hk hl [46] (by simp) h0;clear ih h0;refine aP fh rfl ?_
  repeat' first|refine aw ?_|refine bw (fun _=>?_) fun _=>?_
  refine bk 2 [0,1] w0 ?_;intro H q
  repeat' first|refine aw ?_|refine bw (fun _=>?_) fun _=>?_
  exact aQ rfl
theorem WQ {l:List Tok} {k:Nat} {ns:List Nod} {s:Str} {x:R (Str×Exs)} (h:c6 cY [.ptr 0 0,.d (.str s)] (rdN l k ns) (PH l ns s x)) (hk:k<=l.length) (hs:∀e r,x = .ok e r->Suf (l.drop k) r (e.2.sz+1)) :
  x = .out\/(x = .bad/\kH P0 cY [.ptr 0 0,.d (.str s)] (rdN l k ns) cZ)\/∃v e k',x = .ok (v,e) (l.drop k')/\k'<=l.length/\k+(e.sz+1)<=k'/\bm P0 cY [.ptr 0 0,.d (.str s)] (rdN l k ns) (.d (I ((ns.length+(Ex.call s v e).sz - 1:Nat)))) (rdN l k' (ns++(Ex.call s v e).flat ns.length)):=by
 cases x with
 | out=>exact .inl rfl
 | bad=>exact .inr (.inl ⟨rfl,h⟩)
 | ok e r=>
  obtain ⟨v,e⟩:=e;obtain ⟨k',h1,rfl,h2⟩:=rX (hs _ r rfl) hk;refine .inr (.inr ⟨v,e,k',rfl,h1,h2,?_⟩);have h:bm P0 cY [.ptr 0 0,.d (.str s)] (rdN l k ns) (.d (I ((ns.length+(Ex.call s v e).sz - 1:Nat)))) (rdN l (l.length - (l.drop k').length) (ns++(Ex.call s v e).flat ns.length)):=h;rw [len_drop h1] at h;exact h
theorem PK {l:List Tok} {k:Nat} (h:isNum (l.drop k)=true):∃h:k<l.length,l[k].kind=2/\numOf (l.drop k)=l[k].n:=by
 rcases Zg k l.length with h1|h1
 ·rw [Zo h1] at h ⊢
  exact ⟨h1,by simpa [isNum] using h,rfl⟩
 ·rw [Zu h1] at h;cases h
theorem Vr (l:List Tok) (hl:l.length<1000000) (n:Nat) (ih:∀m,m<=n->CE l m) (k:Nat) (ns:List Nod) (hk:k<=l.length) (hn:ns.length<=k):OkE fX l k ns (jg (n+1) (l.drop k)):=by
 have e1:(l.map rb).length=l.length:=by simp
 rw [jg];have hv:=bK l k (ns.map bU) hk hl [40] (by simp);by_cases h0:hd (l.drop k)=[40]
 ·have hlt:=eo h0 (by simp)
  rw [if_pos h0,decide_eq_true h0] at hv;rw [if_pos h0,YX]
  rcases xm ((ih n (YN _)).expr (k+1) ns hlt (by omega)) hlt (fun e r h=>(eN n).expr _ _ _ h) with h2|⟨h2,h3⟩|⟨e,k1,h2,hk1,mY,h3⟩
  ·rw [h2];exact trivial
  ·rw [h2]
   clear ih h0;refine aP bH rfl ?_
   repeat' first|refine aw ?_|refine bw (fun _=>?_) fun _=>?_
   refine ag 2 [0,1] hv ?_
   repeat' first|refine aw ?_|refine bw (fun _=>?_) fun _=>?_
   refine bk 2 [0,1] h3 ?_;intro H q
   repeat' first|refine aw ?_|refine bw (fun _=>?_) fun _=>?_
   exact aQ rfl
  ·rw [h2]
   show c6 _ _ _ (Iq l ns ((want [41] (l.drop k1)).bind _));by_cases h4:hd (l.drop k1)=[41]
   ·have hlt1:=eo h4 (by simp)
    have w1:=aR l k1 ((ns++e.flat ns.length).map bU) hk1 hl [41] (by simp) h4;rw [want,if_pos h4,YX];show bm _ _ _ _ (.d (I ((ns.length+e.sz - 1:Nat)))) (rdN l (l.length - (l.drop (k1+1)).length) _);rw [len_drop hlt1];clear ih h0 h4;refine aJ bH rfl ?_
    repeat' first|refine aw ?_|refine bw (fun _=>?_) fun _=>?_
    refine ag 2 [0,1] hv ?_
    repeat' first|refine aw ?_|refine bw (fun _=>?_) fun _=>?_
    refine ag 2 [0,1] h3 ?_
    repeat' first|refine aw ?_|refine bw (fun _=>?_) fun _=>?_
    refine ag 2 [0,1] w1 ?_
    repeat' first|refine aw ?_|refine bw (fun _=>?_) fun _=>?_
    exact aI 2 rfl rfl (by exact Uw.wW)
   ·have w1:=bh l k1 ((ns++e.flat ns.length).map bU) hk1 hl [41] (by simp) h4
    rw [want,if_neg h4];clear ih h0 h4;refine aP bH rfl ?_
    repeat' first|refine aw ?_|refine bw (fun _=>?_) fun _=>?_
    refine ag 2 [0,1] hv ?_
    repeat' first|refine aw ?_|refine bw (fun _=>?_) fun _=>?_
    refine ag 2 [0,1] h3 ?_
    repeat' first|refine aw ?_|refine bw (fun _=>?_) fun _=>?_
    refine bk 2 [0,1] w1 ?_;intro H q
    repeat' first|refine aw ?_|refine bw (fun _=>?_) fun _=>?_
    exact aQ rfl
 ·rw [if_neg h0,decide_eq_false h0] at hv
  rw [if_neg h0]
  cases hnum:isNum (l.drop k) with
  | true=>
   rw [if_pos rfl,YX];obtain ⟨hlt,hkd,hno⟩:=PK hnum;rw [hno];have wd:=fz l k (ns.map bU) hk hl 2 hlt hkd;have hp:=qd l (k+1) ns (ns++(Ex.num l[k].n).flat ns.length) ⟨1,l[k].n,[],[],[]⟩ rfl (ns.length+(Ex.num l[k].n).sz - 1) (by simp [Ex.sz]) (by omega);have hp:bm P0 bF [.ptr 0 0,.agg [.d (I 1),.d (I l[k].n),.d (.str []),.d (.str []),.d .nil]] (rdN l (k+1) ns) (.d (I ((ns.length+(Ex.num l[k].n).sz - 1:Nat)))) (rdN l (k+1) (ns++(Ex.num l[k].n).flat ns.length)):=hp;show bm _ _ _ _ (.d (I ((ns.length+(Ex.num l[k].n).sz - 1:Nat)))) (rdN l (l.length - (l.drop (k+1)).length) _);rw [len_drop hlt];clear ih h0 hnum hno;refine aJ bH rfl ?_
   repeat' first|refine aw ?_|refine bw (fun _=>?_) fun _=>?_
   refine ag 2 [0,1] hv ?_
   repeat' first|refine aw ?_|refine bw (fun _=>?_) fun _=>?_
   refine ag 2 [0,1] wd ?_
   repeat' first|refine aw ?_|refine bw (fun _=>?_) fun _=>?_
   refine ag 2 [0,1] hp ?_
   repeat' first|refine aw ?_|refine bw (fun _=>?_) fun _=>?_
   exact aI 2 rfl rfl (by exact Uw.wW)
  | false=>
   rw [if_neg (by decide)];have hkd:∀(h:k<l.length),¬l[k].kind=2:=by
    intro h h2;rw [Zo h] at hnum;simp [isNum,h2] at hnum
   rcases eh l k (ns.map bU) hk hl with ⟨h1,h2⟩|⟨s,h1,hlt,h2⟩
   ·rw [h1]
    clear ih h0 hnum h1;by_cases hlt:k<l.length
    ·have hkd:=hkd hlt
     refine aP bH rfl ?_
     repeat' first|refine aw ?_|refine bw (fun _=>?_) fun _=>?_
     refine ag 2 [0,1] hv ?_
     repeat' first|refine aw ?_|refine bw (fun _=>?_) fun _=>?_
     refine bk 2 [0,1] h2 ?_;intro H q
     repeat' first|refine aw ?_|refine bw (fun _=>?_) fun _=>?_
     exact aQ rfl
    ·clear hkd
     refine aP bH rfl ?_
     repeat' first|refine aw ?_|refine bw (fun _=>?_) fun _=>?_
     refine ag 2 [0,1] hv ?_
     repeat' first|refine aw ?_|refine bw (fun _=>?_) fun _=>?_
     refine bk 2 [0,1] h2 ?_;intro H q
     repeat' first|refine aw ?_|refine bw (fun _=>?_) fun _=>?_
     exact aQ rfl
   ·rw [h1]
    have hkd:=hkd hlt;have pk:=bO l (k+1) (ns.map bU) hlt;show c6 _ _ _ (Iq l ns (if hd (l.drop (k+1))=[46] then _ else _));by_cases h3:hd (l.drop (k+1))=[46]
    ·rw [if_pos h3]
     rw [h3] at pk
     rcases WQ ((ih n (YN _)).call s (k+1) ns hlt (by omega)) hlt (fun e r h=>(eN n).call _ _ _ _ h) with h4|⟨h4,h5⟩|⟨v,es,k1,h4,hk1,mY,h5⟩
     ·rw [h4];exact trivial
     ·rw [h4]
      clear ih h0 hnum h1;refine aP bH rfl ?_
      repeat' first|refine aw ?_|refine bw (fun _=>?_) fun _=>?_
      refine ag 2 [0,1] hv ?_
      repeat' first|refine aw ?_|refine bw (fun _=>?_) fun _=>?_
      refine ag 2 [0,1] h2 ?_
      repeat' first|refine aw ?_|refine bw (fun _=>?_) fun _=>?_
      refine ag 2 [0,1] pk ?_
      repeat' first|refine aw ?_|refine bw (fun _=>?_) fun _=>?_
      refine bk 2 [0,1] h5 ?_;intro H q
      repeat' first|refine aw ?_|refine bw (fun _=>?_) fun _=>?_
      exact aQ rfl
     ·rw [h4]
      show bm _ _ _ _ (.d (I ((ns.length+(Ex.call s v es).sz - 1:Nat)))) (rdN l (l.length - (l.drop k1).length) _);rw [len_drop hk1];clear ih h0 hnum h1;refine aJ bH rfl ?_
      repeat' first|refine aw ?_|refine bw (fun _=>?_) fun _=>?_
      refine ag 2 [0,1] hv ?_
      repeat' first|refine aw ?_|refine bw (fun _=>?_) fun _=>?_
      refine ag 2 [0,1] h2 ?_
      repeat' first|refine aw ?_|refine bw (fun _=>?_) fun _=>?_
      refine ag 2 [0,1] pk ?_
      repeat' first|refine aw ?_|refine bw (fun _=>?_) fun _=>?_
      refine ag 2 [0,1] h5 ?_
      repeat' first|refine aw ?_|refine bw (fun _=>?_) fun _=>?_
      exact aI 2 rfl rfl (by exact Uw.wW)
    ·rw [if_neg h3]
     have hp:=qd l (k+1) ns (ns++(Ex.name s).flat ns.length) ⟨2,0,s,[],[]⟩ rfl (ns.length+(Ex.name s).sz - 1) (by simp [Ex.sz]) (by omega);have hp:bm P0 bF [.ptr 0 0,.agg [.d (I 2),.d (I 0),.d (.str s),.d (.str []),.d .nil]] (rdN l (k+1) ns) (.d (I ((ns.length+(Ex.name s).sz - 1:Nat)))) (rdN l (k+1) (ns++(Ex.name s).flat ns.length)):=hp;show bm _ _ _ _ (.d (I ((ns.length+(Ex.name s).sz - 1:Nat)))) (rdN l (l.length - (l.drop (k+1)).length) _);rw [len_drop hlt];generalize hd (l.drop (k+1))=p at *;clear ih h0 hnum h1;refine aJ bH rfl ?_
     repeat' first|refine aw ?_|refine bw (fun _=>?_) fun _=>?_
     refine ag 2 [0,1] hv ?_
     repeat' first|refine aw ?_|refine bw (fun _=>?_) fun _=>?_
     refine ag 2 [0,1] h2 ?_
     repeat' first|refine aw ?_|refine bw (fun _=>?_) fun _=>?_
     refine ag 2 [0,1] pk ?_
     repeat' first|refine aw ?_|refine bw (fun _=>?_) fun _=>?_
     refine ag 2 [0,1] hp ?_
     repeat' first|refine aw ?_|refine bw (fun _=>?_) fun _=>?_
     exact aI 2 rfl rfl (by exact Uw.wW)
theorem ce (l:List Tok) (hl:l.length<1000000):∀n,∀m,m<=n->CE l m
 | 0,m,hm=>by
  obtain rfl:m=0:=by omega
  refine ⟨?_,?_,?_,?_,?_,?_⟩
  ·intro k ns _ _;rw [gq];exact trivial
  ·intro s k ns _ _;rw [gP];exact trivial
  ·intro k ns _ _;rw [jg];exact trivial
  ·intro k ns _ _;rw [iC];exact trivial
  ·intro k ns _ _;rw [m9];exact trivial
  ·intro k ns _ _;rw [dM];exact trivial
 | n+1,m,hm=>by
  have ih:=ce l hl n;by_cases h:m<=n
  ·exact ih m h
  ·obtain rfl:m=n+1:=by omega
   exact ⟨fun k ns=>Vq l hl n ih k ns,fun s k ns=>c_call l hl n ih s k ns,fun k ns=>Vr l hl n ih k ns,fun k ns=>Vn l hl n ih k ns,fun k ns=>WO l hl n ih k ns,fun k ns=>Vo l hl n ih k ns⟩
end Uw.Tryz
namespace Uw.Tryz
open Go Uw
def ou (l:List Tok) (ns:List Nod) (x:R Stm):Out:=
 match x with
 | .ok s r=>.ok (.d (I ((ns.length+s.sz - 1:Nat)))) (rdN l (l.length - r.length) (ns++s.flat ns.length))
 | .bad=>.bad
 | .out=>.out
theorem L9 {f:FuncId} {vs:List V} {l:List Tok} {k:Nat} {ns:List Nod} {x:R Stm} (h:c6 f vs (rdN l k ns) (ou l ns x)) (hk:k<=l.length) (hs:∀e r,x = .ok e r->Suf (l.drop k) r e.sz) :
  x = .out\/(x = .bad/\kH P0 f vs (rdN l k ns) cZ)\/∃e k',x = .ok e (l.drop k')/\k'<=l.length/\k+e.sz<=k'/\bm P0 f vs (rdN l k ns) (.d (I ((ns.length+e.sz - 1:Nat)))) (rdN l k' (ns++e.flat ns.length)):=by
 cases x with
 | out=>exact .inl rfl
 | bad=>exact .inr (.inl ⟨rfl,h⟩)
 | ok e r=>
  obtain ⟨k',h1,rfl,h2⟩:=rX (hs e r rfl) hk;refine .inr (.inr ⟨e,k',rfl,h1,h2,?_⟩);have h:bm P0 f vs (rdN l k ns) (.d (I ((ns.length+e.sz - 1:Nat)))) (rdN l (l.length - (l.drop k').length) (ns++e.flat ns.length)):=h;rw [len_drop h1] at h;exact h
theorem uF:∀(d:Exs) (b:Nat),(d.places b).length=d.length
 | .nil,b=>rfl
 | .cons e r,b=>by rw [Exs.places,YR,uF r,Exs.length]
theorem K3 (l:List Tok) (hl:l.length<1000000) (n:Nat) (to:Str) (k:Nat) (ns:List Nod) (hk:k<=l.length) (hn:ns.length<=k):c6 g9 [.ptr 0 0,.d (.str to)] (rdN l k ns) (ou l ns (gk n to (l.drop k))):=by
 rw [gk];have hv:=bK l k (ns.map bU) hk hl gj (by decide)
 -- behind the word
 have tail:∀(par:Bool) (k1:Nat),k1<=l.length->k+1<=k1->
   (∀{x:Out},c6 g9 [.ptr 0 0,.d (.str to)] (rdN l k ns) x->True)->True:=fun _ _ _ _ _=>trivial
 clear tail;by_cases h0:hd (l.drop k)=gj
 ·have hlt:=eo h0 (by decide)
  rw [if_pos h0,decide_eq_true h0] at hv;rw [if_pos h0,YX];show c6 _ _ _ (ou l ns ((eS (l.drop (k+1))).bind _))
  rcases eh l (k+1) (ns.map bU) hlt hl with ⟨h1,h2⟩|⟨f,h1,hlt1,h2⟩
  ·rw [h1]
   clear h0;refine aP cf rfl ?_
   repeat' first|refine aw ?_|refine bw (fun _=>?_) fun _=>?_
   refine ag 2 [0,1] hv ?_
   repeat' first|refine aw ?_|refine bw (fun _=>?_) fun _=>?_
   refine bk 2 [0,1] h2 ?_;intro H q
   repeat' first|refine aw ?_|refine bw (fun _=>?_) fun _=>?_
   exact aQ rfl
  ·rw [h1]
   show c6 _ _ _ (ou l ns ((gq n (l.drop (k+1+1))).bind _))
   rcases Vp ((ce l hl n n (YN _)).args (k+1+1) ns (by omega) (by omega)) (by omega) (fun e r h=>(eN n).args _ _ _ h) with h3|⟨h3,h4⟩|⟨es,k1,h3,hk1,mY,h4⟩
   ·rw [h3];exact trivial
   ·rw [h3]
    clear h0;refine aP cf rfl ?_
    repeat' first|refine aw ?_|refine bw (fun _=>?_) fun _=>?_
    refine ag 2 [0,1] hv ?_
    repeat' first|refine aw ?_|refine bw (fun _=>?_) fun _=>?_
    refine ag 2 [0,1] h2 ?_
    repeat' first|refine aw ?_|refine bw (fun _=>?_) fun _=>?_
    refine bk 3 [0,1] h4 ?_;intro H q
    repeat' first|refine aw ?_|refine bw (fun _=>?_) fun _=>?_
    exact aQ rfl
   ·rw [h3]
    show c6 _ _ _ (ou l ns (if false=true/\es.length≠2 then .bad else .ok (.task false to f es) (l.drop k1)));rw [if_neg (by rintro ⟨q,_⟩;cases q)];show bm _ _ _ _ (.d (I ((ns.length+(Stm.task false to f es).sz - 1:Nat)))) (rdN l (l.length - (l.drop k1).length) (ns++(Stm.task false to f es).flat ns.length));rw [len_drop hk1];have hp:=qd l k1 (ns++es.flat ns.length) (ns++(Stm.task false to f es).flat ns.length) ⟨10,0,to,f,es.places ns.length⟩ (by simp [Stm.flat]) (ns.length+(Stm.task false to f es).sz - 1) (by simp [Stm.sz,Exs.ax]) (by simp [Exs.ax];omega);have hp:bm P0 bF [.ptr 0 0,.agg [.d (I 10),.d (I 0),.d (.str to),.d (.str f),.d (es.A3 ns.length)]] (rdN l k1 (ns++es.flat ns.length)) (.d (I ((ns.length+(Stm.task false to f es).sz - 1:Nat)))) (rdN l k1 (ns++(Stm.task false to f es).flat ns.length)):=hp;clear h0
    rcases sG es ns.length with e|e
    all_goals
     rw [e] at hp h4;refine aJ cf rfl ?_
     repeat' first|refine aw ?_|refine bw (fun _=>?_) fun _=>?_
     refine ag 2 [0,1] hv ?_
     repeat' first|refine aw ?_|refine bw (fun _=>?_) fun _=>?_
     refine ag 2 [0,1] h2 ?_
     repeat' first|refine aw ?_|refine bw (fun _=>?_) fun _=>?_
     refine ag 3 [0,1] h4 ?_
     repeat' first|refine aw ?_|refine bw (fun _=>?_) fun _=>?_
     refine ag 3 [0,1] hp ?_
     repeat' first|refine aw ?_|refine bw (fun _=>?_) fun _=>?_
     exact aI 2 rfl rfl (by exact Uw.wW)
 ·rw [if_neg h0,decide_eq_false h0] at hv
  rw [if_neg h0];by_cases hp0:hd (l.drop k)=pL
  ·have hlt:=eo hp0 (by decide)
   have w0:=aR l k (ns.map bU) hk hl pL (by decide) hp0;rw [want,if_pos hp0,YX];show c6 _ _ _ (ou l ns ((eS (l.drop (k+1))).bind _))
   rcases eh l (k+1) (ns.map bU) hlt hl with ⟨h1,h2⟩|⟨f,h1,hlt1,h2⟩
   ·rw [h1]
    clear h0 hp0;refine aP cf rfl ?_
    repeat' first|refine aw ?_|refine bw (fun _=>?_) fun _=>?_
    refine ag 2 [0,1] hv ?_
    repeat' first|refine aw ?_|refine bw (fun _=>?_) fun _=>?_
    refine ag 2 [0,1] w0 ?_
    repeat' first|refine aw ?_|refine bw (fun _=>?_) fun _=>?_
    refine bk 2 [0,1] h2 ?_;intro H q
    repeat' first|refine aw ?_|refine bw (fun _=>?_) fun _=>?_
    exact aQ rfl
   ·rw [h1]
    show c6 _ _ _ (ou l ns ((gq n (l.drop (k+1+1))).bind _))
    rcases Vp ((ce l hl n n (YN _)).args (k+1+1) ns (by omega) (by omega)) (by omega) (fun e r h=>(eN n).args _ _ _ h) with h3|⟨h3,h4⟩|⟨es,k1,h3,hk1,mY,h4⟩
    ·rw [h3];exact trivial
    ·rw [h3]
     clear h0 hp0;refine aP cf rfl ?_
     repeat' first|refine aw ?_|refine bw (fun _=>?_) fun _=>?_
     refine ag 2 [0,1] hv ?_
     repeat' first|refine aw ?_|refine bw (fun _=>?_) fun _=>?_
     refine ag 2 [0,1] w0 ?_
     repeat' first|refine aw ?_|refine bw (fun _=>?_) fun _=>?_
     refine ag 2 [0,1] h2 ?_
     repeat' first|refine aw ?_|refine bw (fun _=>?_) fun _=>?_
     refine bk 3 [0,1] h4 ?_;intro H q
     repeat' first|refine aw ?_|refine bw (fun _=>?_) fun _=>?_
     exact aQ rfl
    ·rw [h3]
     show c6 _ _ _ (ou l ns (if true=true/\es.length≠2 then .bad else .ok (.task true to f es) (l.drop k1)));have hlen:(eR (es.places ns.length)).length=es.length:=by rw [eR,Y5,uF]
     by_cases h2' : es.length=2
     ·rw [if_neg (by rintro ⟨_,q⟩;exact q h2')]
      show bm _ _ _ _ (.d (I ((ns.length+(Stm.task true to f es).sz - 1:Nat)))) (rdN l (l.length - (l.drop k1).length) (ns++(Stm.task true to f es).flat ns.length));rw [len_drop hk1];have hp:=qd l k1 (ns++es.flat ns.length) (ns++(Stm.task true to f es).flat ns.length) ⟨11,0,to,f,es.places ns.length⟩ (by simp [Stm.flat]) (ns.length+(Stm.task true to f es).sz - 1) (by simp [Stm.sz,Exs.ax]) (by simp [Exs.ax];omega);have hp:bm P0 bF [.ptr 0 0,.agg [.d (I 11),.d (I 0),.d (.str to),.d (.str f),.d (es.A3 ns.length)]] (rdN l k1 (ns++es.flat ns.length)) (.d (I ((ns.length+(Stm.task true to f es).sz - 1:Nat)))) (rdN l k1 (ns++(Stm.task true to f es).flat ns.length)):=hp;have e:es.A3 ns.length = .slice 1 (eR (es.places ns.length)) false:=by
       rcases sG es ns.length with e|e
       ·exfalso
        have hne:es.places ns.length≠[]:=by intro h;have:=uF es ns.length;rw [h] at this;simp at this;omega
        unfold Exs.A3 ofD at e;rw [if_neg (by omega),if_pos (by omega),if_neg hne] at e
        cases e
       ·exact e
      rw [e] at hp h4;clear h0 hp0;refine aJ cf rfl ?_
      repeat' first|refine aw ?_|refine bw (fun _=>?_) fun _=>?_
      refine ag 2 [0,1] hv ?_
      repeat' first|refine aw ?_|refine bw (fun _=>?_) fun _=>?_
      refine ag 2 [0,1] w0 ?_
      repeat' first|refine aw ?_|refine bw (fun _=>?_) fun _=>?_
      refine ag 2 [0,1] h2 ?_
      repeat' first|refine aw ?_|refine bw (fun _=>?_) fun _=>?_
      refine ag 3 [0,1] h4 ?_
      repeat' first|refine aw ?_|refine bw (fun _=>?_) fun _=>?_
      refine ag 3 [0,1] hp ?_
      repeat' first|refine aw ?_|refine bw (fun _=>?_) fun _=>?_
      exact aI 2 rfl rfl (by exact Uw.wW)
     ·rw [if_pos ⟨rfl,h2'⟩]
      clear h0 hp0
      rcases sG es ns.length with e|e
      all_goals
       rw [e] at h4;refine aP cf rfl ?_
       repeat' first|refine aw ?_|refine bw (fun _=>?_) fun _=>?_
       refine ag 2 [0,1] hv ?_
       repeat' first|refine aw ?_|refine bw (fun _=>?_) fun _=>?_
       refine ag 2 [0,1] w0 ?_
       repeat' first|refine aw ?_|refine bw (fun _=>?_) fun _=>?_
       refine ag 2 [0,1] h2 ?_
       repeat' first|refine aw ?_|refine bw (fun _=>?_) fun _=>?_
       refine ag 3 [0,1] h4 ?_
       repeat' first|refine aw ?_|refine bw (fun _=>?_) fun _=>?_
       exact aQ rfl
  ·have w0:=bh l k (ns.map bU) hk hl pL (by decide) hp0
   rw [want,if_neg hp0];clear h0 hp0;refine aP cf rfl ?_
   repeat' first|refine aw ?_|refine bw (fun _=>?_) fun _=>?_
   refine ag 2 [0,1] hv ?_
   repeat' first|refine aw ?_|refine bw (fun _=>?_) fun _=>?_
   refine bk 2 [0,1] w0 ?_;intro H q
   repeat' first|refine aw ?_|refine bw (fun _=>?_) fun _=>?_
   exact aQ rfl
end Uw.Tryz
namespace Uw.Tryz
open Go Uw
theorem Gi (l:List Tok) (k:Nat) (ns:List Nod) (K:Int) (s:Str) (e:Ex) (ms:List Nod) (hms:ms=ns++e.flat ns.length++[⟨K,0,s,[],[ns.length+e.sz - 1]⟩]) (p:Nat) (hp:p=ns.length+e.sz) (hx:(ns++e.flat ns.length).length<1000000) (hK:K=9\/K=15\/K=16\/K=17) :
  bm P0 bF [.ptr 0 0,.agg [.d (I K),.d (I 0),.d (.str s),.d (.str []),.d (.slice 1 [[I ((ns.length+e.sz - 1:Nat))]] true)]] (rdN l k (ns++e.flat ns.length)) (.d (I p)) (rdN l k ms):=by
 have:=qd l k _ _ _ hms p (by rw [hp];simp [Ex.ax]) hx;have e:ofD K [ns.length+e.sz - 1] = .slice 1 [[I ((ns.length+e.sz - 1:Nat))]] true:=by
  unfold ofD;rw [if_neg (by omega),if_neg (by omega),if_neg (by omega)];rfl
 simp only [e] at this;exact this
theorem WR (l:List Tok) (hl:l.length<1000000) (n:Nat) (K:Int) (hK:K=15\/K=16) (k:Nat) (ns:List Nod) (hk:k<l.length) (hn:ns.length<=k):c6 mS [.ptr 0 0,.d (I K)] (rdN l k ns) (ou l ns ((dM n (l.drop (k+1))).bind fun e r=>.ok (.one K e) r)):=by
 rcases xm ((ce l hl n n (YN _)).expr (k+1) ns hk (by omega)) hk (fun e r h=>(eN n).expr _ _ _ h) with h2|⟨h2,h3⟩|⟨e,k1,h2,hk1,mY,h3⟩
 ·rw [h2];exact trivial
 ·rw [h2]
  refine aP lI rfl ?_
  repeat' first|refine aw ?_|refine bw (fun _=>?_) fun _=>?_
  refine bk 2 [0,1] h3 ?_;intro H q
  repeat' first|refine aw ?_|refine bw (fun _=>?_) fun _=>?_
  exact aQ rfl
 ·rw [h2]
  have hz:(Stm.one K e).sz=e.sz+1:=rfl;have hp:=Gi l k1 ns K [] e (ns++(Stm.one K e).flat ns.length) (by simp [Stm.flat]) (ns.length+(Stm.one K e).sz - 1) (by omega) (by simp [Ex.ax];omega) (by omega);show bm _ _ _ _ (.d (I ((ns.length+(Stm.one K e).sz - 1:Nat)))) (rdN l (l.length - (l.drop k1).length) _);rw [len_drop hk1];refine aJ lI rfl ?_
  repeat' first|refine aw ?_|refine bw (fun _=>?_) fun _=>?_
  refine ag 2 [0,1] h3 ?_
  repeat' first|refine aw ?_|refine bw (fun _=>?_) fun _=>?_
  refine ag 2 [0,1] hp ?_
  repeat' first|refine aw ?_|refine bw (fun _=>?_) fun _=>?_
  exact aI 2 rfl rfl (by exact Uw.wW)
theorem PL (l:List Tok) (hl:l.length<1000000) (n:Nat) (k:Nat) (ns:List Nod) (hk:k<=l.length) (hn:ns.length<=k):c6 gp [.ptr 0 0] (rdN l k ns) (ou l ns (il n (l.drop k))):=by
 rw [il];have pk:=bO l k (ns.map bU) hk;by_cases h0:hd (l.drop k)=gj\/hd (l.drop k)=pL
 ·rw [if_pos h0]
  rcases L9 (K3 l hl n [] k ns hk hn) hk (fun e r h=>oQ h) with h2|⟨h2,h3⟩|⟨s,k1,h2,hk1,mY,h3⟩
  ·rw [h2];exact trivial
  ·rw [h2]
   rcases h0 with h0|h0
   all_goals
    rw [h0] at pk;clear h0;refine aP aU rfl ?_
    repeat' first|refine aw ?_|refine bw (fun _=>?_) fun _=>?_
    refine ag 2 [0,1] pk ?_
    repeat' first|refine aw ?_|refine bw (fun _=>?_) fun _=>?_
    refine bk 2 [0,1] h3 ?_;intro H q
    repeat' first|refine aw ?_|refine bw (fun _=>?_) fun _=>?_
    exact aQ rfl
  ·rw [h2]
   show bm _ _ _ _ (.d (I ((ns.length+s.sz - 1:Nat)))) (rdN l (l.length - (l.drop k1).length) _);rw [len_drop hk1]
   rcases h0 with h0|h0
   all_goals
    rw [h0] at pk;clear h0;refine aJ aU rfl ?_
    repeat' first|refine aw ?_|refine bw (fun _=>?_) fun _=>?_
    refine ag 2 [0,1] pk ?_
    repeat' first|refine aw ?_|refine bw (fun _=>?_) fun _=>?_
    refine ag 2 [0,1] h3 ?_
    repeat' first|refine aw ?_|refine bw (fun _=>?_) fun _=>?_
    exact aI 2 rfl rfl (by exact Uw.wW)
 ·rw [if_neg h0]
  by_cases h1:hd (l.drop k)=xN
  ·have hlt:=eo h1 (by decide)
   rw [if_pos h1,YX];have w0:=aR l k (ns.map bU) hk hl xN (by decide) h1;rw [h1] at pk;have hp:=qd l (k+1) ns (ns++(Stm.sync).flat ns.length) ⟨12,0,[],[],[]⟩ rfl (ns.length+(Stm.sync).sz - 1) (by simp [Stm.sz]) (by omega);have hp:bm P0 bF [.ptr 0 0,.agg [.d (I 12),.d (I 0),.d (.str []),.d (.str []),.d .nil]] (rdN l (k+1) ns) (.d (I ((ns.length+(Stm.sync).sz - 1:Nat)))) (rdN l (k+1) (ns++(Stm.sync).flat ns.length)):=hp;show bm _ _ _ _ (.d (I ((ns.length+(Stm.sync).sz - 1:Nat)))) (rdN l (l.length - (l.drop (k+1)).length) _);rw [len_drop hlt];clear h0 h1;refine aJ aU rfl ?_
   repeat' first|refine aw ?_|refine bw (fun _=>?_) fun _=>?_
   refine ag 2 [0,1] pk ?_
   repeat' first|refine aw ?_|refine bw (fun _=>?_) fun _=>?_
   refine ag 2 [0,1] w0 ?_
   repeat' first|refine aw ?_|refine bw (fun _=>?_) fun _=>?_
   refine ag 2 [0,1] hp ?_
   repeat' first|refine aw ?_|refine bw (fun _=>?_) fun _=>?_
   exact aI 2 rfl rfl (by exact Uw.wW)
  ·rw [if_neg h1]
   have one:∀(K:Int) (w:Str),(K=15/\w=nq)\/(K=16/\w=nr)->hd (l.drop k)=w->c6 gp [.ptr 0 0] (rdN l k ns) (ou l ns ((dM n (l.drop (k+1))).bind fun e r=>.ok (.one K e) r)):=by
    intro K w hw hh;have hlt:=eo hh (by rcases hw with ⟨_,rfl⟩|⟨_,rfl⟩<;>decide);rw [hh] at pk;clear h0 h1 hh
    rcases L9 (WR l hl n K (by omega) k ns hlt hn) hk (fun e r h=>by
     obtain ⟨e1,r1,h1,h2⟩:=bind_ok.1 h;injection h2 with e2 e3
     subst e2 e3;have:=(eN n).expr _ _ _ h1;obtain ⟨j,j1,j2,j3⟩:=this;simp at j1;exact ⟨j+1,by simp;omega,by rw [j2,aag,aag];congr 1;omega,by rw [Stm.sz];omega⟩) with h2|⟨h2,h3⟩|⟨s,k1,h2,hk1,mY,h3⟩
    ·rw [h2];exact trivial
    ·rw [h2]
     rcases hw with ⟨rfl,rfl⟩|⟨rfl,rfl⟩
     all_goals
      refine aP aU rfl ?_
      repeat' first|refine aw ?_|refine bw (fun _=>?_) fun _=>?_
      refine ag 2 [0,1] pk ?_
      repeat' first|refine aw ?_|refine bw (fun _=>?_) fun _=>?_
      refine bk 2 [0,1] h3 ?_;intro H q
      repeat' first|refine aw ?_|refine bw (fun _=>?_) fun _=>?_
      exact aQ rfl
    ·rw [h2]
     show bm _ _ _ _ (.d (I ((ns.length+s.sz - 1:Nat)))) (rdN l (l.length - (l.drop k1).length) _);rw [len_drop hk1]
     rcases hw with ⟨rfl,rfl⟩|⟨rfl,rfl⟩
     all_goals
      refine aJ aU rfl ?_
      repeat' first|refine aw ?_|refine bw (fun _=>?_) fun _=>?_
      refine ag 2 [0,1] pk ?_
      repeat' first|refine aw ?_|refine bw (fun _=>?_) fun _=>?_
      refine ag 2 [0,1] h3 ?_
      repeat' first|refine aw ?_|refine bw (fun _=>?_) fun _=>?_
      exact aI 2 rfl rfl (by exact Uw.wW)
   by_cases h2:hd (l.drop k)=nq
   ·rw [if_pos h2,YX]
    exact one 15 _ (.inl ⟨rfl,rfl⟩) h2
   ·rw [if_neg h2]
    by_cases h3:hd (l.drop k)=nr
    ·rw [if_pos h3,YX]
     exact one 16 _ (.inr ⟨rfl,rfl⟩) h3
    ·rw [if_neg h3]
     clear one;generalize hd (l.drop k)=p at *;have q1:¬p=gj:=fun h=>h0 (.inl h);have q2:¬p=pL:=fun h=>h0 (.inr h);clear h0;unfold gj at q1;unfold pL at q2;unfold xN at h1;unfold nq at h2;unfold nr at h3
     rcases eh l k (ns.map bU) hk hl with ⟨h4,h5⟩|⟨s,h4,hlt,h5⟩
     ·rw [h4]
      refine aP aU rfl ?_
      repeat' first|refine aw ?_|refine bw (fun _=>?_) fun _=>?_
      refine ag 2 [0,1] pk ?_
      repeat' first|refine aw ?_|refine bw (fun _=>?_) fun _=>?_
      refine bk 2 [0,1] h5 ?_;intro H q
      repeat' first|refine aw ?_|refine bw (fun _=>?_) fun _=>?_
      exact aQ rfl
     ·rw [h4]
      clear h4;have pk2:=bO l (k+1) (ns.map bU) hlt;show c6 _ _ _ (ou l ns (if hd (l.drop (k+1))=[46] then _ else _));by_cases h6:hd (l.drop (k+1))=[46]
      ·rw [if_pos h6]
       rw [h6] at pk2;clear h6
       rcases WQ ((ce l hl n n (YN _)).call s (k+1) ns hlt (by omega)) hlt (fun e r h=>(eN n).call _ _ _ _ h) with h7|⟨h7,h8⟩|⟨v,es,k1,h7,hk1,mY,h8⟩
       ·rw [h7];exact trivial
       ·rw [h7]
        refine aP aU rfl ?_
        repeat' first|refine aw ?_|refine bw (fun _=>?_) fun _=>?_
        refine ag 2 [0,1] pk ?_
        repeat' first|refine aw ?_|refine bw (fun _=>?_) fun _=>?_
        refine ag 2 [0,1] h5 ?_
        repeat' first|refine aw ?_|refine bw (fun _=>?_) fun _=>?_
        refine ag 2 [0,1] pk2 ?_
        repeat' first|refine aw ?_|refine bw (fun _=>?_) fun _=>?_
        refine bk 2 [0,1] h8 ?_;intro H q
        repeat' first|refine aw ?_|refine bw (fun _=>?_) fun _=>?_
        exact aQ rfl
       ·rw [h7]
        show bm _ _ _ _ (.d (I ((ns.length+(Stm.act s v es).sz - 1:Nat)))) (rdN l (l.length - (l.drop k1).length) (ns++(Stm.act s v es).flat ns.length));rw [len_drop hk1];have hz:(Ex.call s v es).sz=es.sz+1:=rfl;have hp:=Gi l k1 ns 17 [] (.call s v es) (ns++(Stm.act s v es).flat ns.length) (by simp [Stm.flat,Ex.flat,Ex.sz];try omega) (ns.length+(Stm.act s v es).sz - 1) (by simp [Stm.sz,Ex.sz];try omega) (by simp [Ex.ax];omega) (by omega);refine aJ aU rfl ?_
        repeat' first|refine aw ?_|refine bw (fun _=>?_) fun _=>?_
        refine ag 2 [0,1] pk ?_
        repeat' first|refine aw ?_|refine bw (fun _=>?_) fun _=>?_
        refine ag 2 [0,1] h5 ?_
        repeat' first|refine aw ?_|refine bw (fun _=>?_) fun _=>?_
        refine ag 2 [0,1] pk2 ?_
        repeat' first|refine aw ?_|refine bw (fun _=>?_) fun _=>?_
        refine ag 2 [0,1] h8 ?_
        repeat' first|refine aw ?_|refine bw (fun _=>?_) fun _=>?_
        refine ag 2 [0,1] hp ?_
        repeat' first|refine aw ?_|refine bw (fun _=>?_) fun _=>?_
        exact aI 2 rfl rfl (by exact Uw.wW)
      ·rw [if_neg h6]
       by_cases h7:hd (l.drop (k+1))=[61]
       ·have hlt2:=eo h7 (by simp)
        have w1:=aR l (k+1) (ns.map bU) hlt hl [61] (by simp) h7;rw [want,if_pos h7,YX];rw [h7] at pk2;clear h6 h7;have pk3:=bO l (k+1+1) (ns.map bU) hlt2;show c6 _ _ _ (ou l ns (if hd (l.drop (k+1+1))=gj\/hd (l.drop (k+1+1))=pL then _ else _));by_cases h8:hd (l.drop (k+1+1))=gj\/hd (l.drop (k+1+1))=pL
        ·rw [if_pos h8]
         rcases L9 (K3 l hl n s (k+1+1) ns hlt2 (by omega)) hlt2 (fun e r h=>oQ h) with h9|⟨h9,h10⟩|⟨s2,k1,h9,hk1,mY,h10⟩
         ·rw [h9];exact trivial
         ·rw [h9]
          rcases h8 with h8|h8
          ·rw [h8] at pk3
           clear h8;refine aP aU rfl ?_
           repeat' first|refine aw ?_|refine bw (fun _=>?_) fun _=>?_
           refine ag 2 [0,1] pk ?_
           repeat' first|refine aw ?_|refine bw (fun _=>?_) fun _=>?_
           refine ag 2 [0,1] h5 ?_
           repeat' first|refine aw ?_|refine bw (fun _=>?_) fun _=>?_
           refine ag 2 [0,1] pk2 ?_
           repeat' first|refine aw ?_|refine bw (fun _=>?_) fun _=>?_
           refine ag 2 [0,1] w1 ?_
           repeat' first|refine aw ?_|refine bw (fun _=>?_) fun _=>?_
           refine ag 2 [0,1] pk3 ?_
           repeat' first|refine aw ?_|refine bw (fun _=>?_) fun _=>?_
           refine bk 2 [0,1] h10 ?_;intro H q
           repeat' first|refine aw ?_|refine bw (fun _=>?_) fun _=>?_
           exact aQ rfl
          ·rw [h8] at pk3
           clear h8;refine aP aU rfl ?_
           repeat' first|refine aw ?_|refine bw (fun _=>?_) fun _=>?_
           refine ag 2 [0,1] pk ?_
           repeat' first|refine aw ?_|refine bw (fun _=>?_) fun _=>?_
           refine ag 2 [0,1] h5 ?_
           repeat' first|refine aw ?_|refine bw (fun _=>?_) fun _=>?_
           refine ag 2 [0,1] pk2 ?_
           repeat' first|refine aw ?_|refine bw (fun _=>?_) fun _=>?_
           refine ag 2 [0,1] w1 ?_
           repeat' first|refine aw ?_|refine bw (fun _=>?_) fun _=>?_
           refine ag 2 [0,1] pk3 ?_
           repeat' first|refine aw ?_|refine bw (fun _=>?_) fun _=>?_
           refine ag 2 [0,1] pk3 ?_
           repeat' first|refine aw ?_|refine bw (fun _=>?_) fun _=>?_
           refine bk 2 [0,1] h10 ?_;intro H q
           repeat' first|refine aw ?_|refine bw (fun _=>?_) fun _=>?_
           exact aQ rfl
         ·rw [h9]
          show bm _ _ _ _ (.d (I ((ns.length+s2.sz - 1:Nat)))) (rdN l (l.length - (l.drop k1).length) _);rw [len_drop hk1]
          rcases h8 with h8|h8
          ·rw [h8] at pk3
           clear h8;refine aJ aU rfl ?_
           repeat' first|refine aw ?_|refine bw (fun _=>?_) fun _=>?_
           refine ag 2 [0,1] pk ?_
           repeat' first|refine aw ?_|refine bw (fun _=>?_) fun _=>?_
           refine ag 2 [0,1] h5 ?_
           repeat' first|refine aw ?_|refine bw (fun _=>?_) fun _=>?_
           refine ag 2 [0,1] pk2 ?_
           repeat' first|refine aw ?_|refine bw (fun _=>?_) fun _=>?_
           refine ag 2 [0,1] w1 ?_
           repeat' first|refine aw ?_|refine bw (fun _=>?_) fun _=>?_
           refine ag 2 [0,1] pk3 ?_
           repeat' first|refine aw ?_|refine bw (fun _=>?_) fun _=>?_
           refine ag 2 [0,1] h10 ?_
           repeat' first|refine aw ?_|refine bw (fun _=>?_) fun _=>?_
           exact aI 2 rfl rfl (by exact Uw.wW)
          ·rw [h8] at pk3
           clear h8;refine aJ aU rfl ?_
           repeat' first|refine aw ?_|refine bw (fun _=>?_) fun _=>?_
           refine ag 2 [0,1] pk ?_
           repeat' first|refine aw ?_|refine bw (fun _=>?_) fun _=>?_
           refine ag 2 [0,1] h5 ?_
           repeat' first|refine aw ?_|refine bw (fun _=>?_) fun _=>?_
           refine ag 2 [0,1] pk2 ?_
           repeat' first|refine aw ?_|refine bw (fun _=>?_) fun _=>?_
           refine ag 2 [0,1] w1 ?_
           repeat' first|refine aw ?_|refine bw (fun _=>?_) fun _=>?_
           refine ag 2 [0,1] pk3 ?_
           repeat' first|refine aw ?_|refine bw (fun _=>?_) fun _=>?_
           refine ag 2 [0,1] pk3 ?_
           repeat' first|refine aw ?_|refine bw (fun _=>?_) fun _=>?_
           refine ag 2 [0,1] h10 ?_
           repeat' first|refine aw ?_|refine bw (fun _=>?_) fun _=>?_
           exact aI 2 rfl rfl (by exact Uw.wW)
        ·rw [if_neg h8]
         generalize hd (l.drop (k+1+1))=p3 at *;have q3:¬p3=gj:=fun h=>h8 (.inl h);have q4:¬p3=pL:=fun h=>h8 (.inr h);clear h8;unfold gj at q3;unfold pL at q4
         rcases xm ((ce l hl n n (YN _)).expr (k+1+1) ns hlt2 (by omega)) hlt2 (fun e r h=>(eN n).expr _ _ _ h) with h9|⟨h9,h10⟩|⟨e,k1,h9,hk1,mY,h10⟩
         ·rw [h9];exact trivial
         ·rw [h9]
          refine aP aU rfl ?_
          repeat' first|refine aw ?_|refine bw (fun _=>?_) fun _=>?_
          refine ag 2 [0,1] pk ?_
          repeat' first|refine aw ?_|refine bw (fun _=>?_) fun _=>?_
          refine ag 2 [0,1] h5 ?_
          repeat' first|refine aw ?_|refine bw (fun _=>?_) fun _=>?_
          refine ag 2 [0,1] pk2 ?_
          repeat' first|refine aw ?_|refine bw (fun _=>?_) fun _=>?_
          refine ag 2 [0,1] w1 ?_
          repeat' first|refine aw ?_|refine bw (fun _=>?_) fun _=>?_
          refine ag 2 [0,1] pk3 ?_
          repeat' first|refine aw ?_|refine bw (fun _=>?_) fun _=>?_
          refine ag 2 [0,1] pk3 ?_
          repeat' first|refine aw ?_|refine bw (fun _=>?_) fun _=>?_
          refine bk 2 [0,1] h10 ?_;intro H q
          repeat' first|refine aw ?_|refine bw (fun _=>?_) fun _=>?_
          exact aQ rfl
         ·rw [h9]
          have hz:(Stm.set s e).sz=e.sz+1:=rfl;have hp:=Gi l k1 ns 9 s e (ns++(Stm.set s e).flat ns.length) (by simp [Stm.flat]) (ns.length+(Stm.set s e).sz - 1) (by omega) (by simp [Ex.ax];omega) (by omega);show bm _ _ _ _ (.d (I ((ns.length+(Stm.set s e).sz - 1:Nat)))) (rdN l (l.length - (l.drop k1).length) _);rw [len_drop hk1];refine aJ aU rfl ?_
          repeat' first|refine aw ?_|refine bw (fun _=>?_) fun _=>?_
          refine ag 2 [0,1] pk ?_
          repeat' first|refine aw ?_|refine bw (fun _=>?_) fun _=>?_
          refine ag 2 [0,1] h5 ?_
          repeat' first|refine aw ?_|refine bw (fun _=>?_) fun _=>?_
          refine ag 2 [0,1] pk2 ?_
          repeat' first|refine aw ?_|refine bw (fun _=>?_) fun _=>?_
          refine ag 2 [0,1] w1 ?_
          repeat' first|refine aw ?_|refine bw (fun _=>?_) fun _=>?_
          refine ag 2 [0,1] pk3 ?_
          repeat' first|refine aw ?_|refine bw (fun _=>?_) fun _=>?_
          refine ag 2 [0,1] pk3 ?_
          repeat' first|refine aw ?_|refine bw (fun _=>?_) fun _=>?_
          refine ag 2 [0,1] h10 ?_
          repeat' first|refine aw ?_|refine bw (fun _=>?_) fun _=>?_
          refine ag 2 [0,1] hp ?_
          repeat' first|refine aw ?_|refine bw (fun _=>?_) fun _=>?_
          exact aI 2 rfl rfl (by exact Uw.wW)
       ·have w1:=bh l (k+1) (ns.map bU) hlt hl [61] (by simp) h7
        rw [want,if_neg h7];generalize hd (l.drop (k+1))=p2 at *;clear h7;refine aP aU rfl ?_
        repeat' first|refine aw ?_|refine bw (fun _=>?_) fun _=>?_
        refine ag 2 [0,1] pk ?_
        repeat' first|refine aw ?_|refine bw (fun _=>?_) fun _=>?_
        refine ag 2 [0,1] h5 ?_
        repeat' first|refine aw ?_|refine bw (fun _=>?_) fun _=>?_
        refine ag 2 [0,1] pk2 ?_
        repeat' first|refine aw ?_|refine bw (fun _=>?_) fun _=>?_
        refine bk 2 [0,1] w1 ?_;intro H q
        repeat' first|refine aw ?_|refine bw (fun _=>?_) fun _=>?_
        exact aQ rfl
end Uw.Tryz
namespace Uw.Tryz
open Go Uw
theorem Gj (l:List Tok) (k:Nat) (ns ms:List Nod) (nd:Nod) (hms:ms=ns++[nd]) (p:Nat) (hp:p=ns.length) (hx:ns.length<1000000) (hof:ofD nd.kind nd.of = .slice 1 (eR nd.of) false) :
  bm P0 bF [.ptr 0 0,.agg [.d (I nd.kind),.d (I nd.n),.d (.str nd.name),.d (.str nd.name2),.ref 2 0 0 (eR nd.of).length]] (rdN l k ns++[.arr 1 (eR nd.of)]) (.d (I p)) (rdN l k ms++[.arr 1 (eR nd.of)]):=by
 subst hms hp;obtain ⟨a,b,c,d,of⟩:=nd;simp only at hof ⊢;have e:(ns++[(⟨a,b,c,d,of⟩:Nod)]).map bU=ns.map bU++[[I a,I b,.str c,.str d,.slice 1 (eR of) false]]:=by simp [bU,hof]
 have hxs:(ns.map bU).length<1000000:=by simpa using hx
 have hxe:(ns.map bU).length=ns.length:=by simp
 have hfz:((eR of).drop 0).take (eR of).length=eR of:=by simp
 rw [rdN,rdN,e];generalize ns.map bU=xs at *;generalize eR of=ys at *;have e2:xs++[[I a,I b,.str c,.str d,.slice 1 ((ys.drop 0).take ys.length) false]]=xs++[[I a,I b,.str c,.str d,.slice 1 ys false]]:=by rw [hfz]
 refine aJ iH rfl ?_
 repeat' first|refine aw ?_|refine bw (fun _=>?_) fun _=>?_
 refine b9 ⟨[(0,.ptr 0 0)],[(0,.var [.d (u7 l),.d (I k),.ref 1 0 0 (xs.length+1)]),(1,.arr 5 (xs++[[I a,I b,.str c,.str d,.slice 1 ys false]])),(2,.arr 1 ys)],4,[],3⟩ ?_ ?_
 ·repeat' first|refine aw ?_|refine bw (fun _=>?_) fun _=>?_
  exact bg (.inl ⟨rfl,by exact Uw.wW⟩)
 ·repeat' first|refine aw ?_|refine bw (fun _=>?_) fun _=>?_
  exact aI 3 rfl rfl (by exact Uw.wW)
def JF (l:List Tok) (ns:List Nod) (x:R Bl):Out:=
 match x with
 | .ok s r=>.ok (.d (I ((ns.length+s.sz:Nat)))) (rdN l (l.length - r.length) (ns++s.all ns.length))
 | .bad=>.bad
 | .out=>.out
theorem R9 {l:List Tok} {ns:List Nod} {x:R Bl} (h:x≠R.out):JF l ns x≠Out.out:=by
 cases x with
 | out=>exact absurd rfl h
 | bad=>intro h;cases h
 | ok e r=>intro h;cases h
theorem Si {f:FuncId} {vs:List V} {l:List Tok} {k:Nat} {ns:List Nod} {x:R Bl} (h:c6 f vs (rdN l k ns) (JF l ns x)) (hk:k<=l.length) (hs:∀e r,x = .ok e r->Suf (l.drop k) r (e.sz+1)) :
  x = .out\/(x = .bad/\kH P0 f vs (rdN l k ns) cZ)\/∃e k',x = .ok e (l.drop k')/\k'<=l.length/\k+(e.sz+1)<=k'/\bm P0 f vs (rdN l k ns) (.d (I ((ns.length+e.sz:Nat)))) (rdN l k' (ns++e.all ns.length)):=by
 cases x with
 | out=>exact .inl rfl
 | bad=>exact .inr (.inl ⟨rfl,h⟩)
 | ok e r=>
  obtain ⟨k',h1,rfl,h2⟩:=rX (hs e r rfl) hk;refine .inr (.inr ⟨e,k',rfl,h1,h2,?_⟩);have h:bm P0 f vs (rdN l k ns) (.d (I ((ns.length+e.sz:Nat)))) (rdN l (l.length - (l.drop k').length) (ns++e.all ns.length)):=h;rw [len_drop h1] at h;exact h
structure CS (l:List Tok) (n:Nat):Prop where
 stmt:∀k ns,k<=l.length->ns.length<=k->c6 fq [.ptr 0 0] (rdN l k ns) (ou l ns (jh n (l.drop k)))
 block:∀k ns,k<=l.length->ns.length<=k->c6 gY [.ptr 0 0] (rdN l k ns) (JF l ns (du n (l.drop k)))
def Bl.app:Bl->Bl->Bl
 | .nil,b=>b
 | .cons e r,b=>.cons e (r.app b)
theorem Bl.A4:∀(a b:Bl),(a.app b).sz=a.sz+b.sz
 | .nil,b=>by simp [Bl.app,Bl.sz]
 | .cons e r,b=>by rw [Bl.app,Bl.sz,Bl.sz,Bl.A4 r b];omega
theorem Bl.rY:∀(a b:Bl) (n:Nat),(a.app b).flat n=a.flat n++b.flat (n+a.sz)
 | .nil,b,n=>by simp [Bl.app,Bl.flat,Bl.sz]
 | .cons e r,b,n=>by rw [Bl.app,Bl.flat,Bl.flat,Bl.rY r b,Bl.sz,Ze,ZG]
theorem Bl.mZ:∀(a b:Bl) (n:Nat),(a.app b).places n=a.places n++b.places (n+a.sz)
 | .nil,b,n=>by simp [Bl.app,Bl.places,Bl.sz]
 | .cons e r,b,n=>by rw [Bl.app,Bl.places,Bl.places,Bl.mZ r b,Bl.sz,Za,ZG]
theorem Bl.vX:∀(a:Bl),a.app .nil=a
 | .nil=>rfl
 | .cons e r=>by rw [Bl.app,Bl.vX r]
theorem Bl.pj:∀(a b c:Bl),(a.app b).app c=a.app (b.app c)
 | .nil,b,c=>rfl
 | .cons e r,b,c=>by rw [Bl.app,Bl.app,Bl.app,Bl.pj r b c]
theorem Bl.DX:∀(d:Bl) (b:Nat),(d.places b).length<=d.sz
 | .nil,b=>by simp [Bl.places]
 | .cons s r,b=>by have:=Bl.DX r (b+s.sz);have:=s.i6;simp [Bl.places,Bl.sz];omega
theorem Sj (l:List Tok) (hl:l.length<1000000) (n:Nat) (ih:∀m,m<=n->CS l m) (k:Nat) (ns:List Nod) (hk:k<=l.length) (hn:ns.length<=k):c6 gY [.ptr 0 0] (rdN l k ns) (JF l ns (du (n+1) (l.drop k))):=by
 rw [du];by_cases h0:hd (l.drop k)=[123]
 ·have hlt:=eo h0 (by simp)
  have w0:=aR l k (ns.map bU) hk hl [123] (by simp) h0;rw [want,if_pos h0,YX];show c6 _ _ _ (JF l ns (dS n (l.drop (k+1))));by_cases hout:dS n (l.drop (k+1)) = .out
  ·rw [hout];exact trivial
  generalize hR:dS n (l.drop (k+1))=Rr at hout;refine sF jZ rfl (R9 hout) ?_
  repeat' first|refine aw ?_|refine bw (fun _=>?_) fun _=>?_
  refine ag 2 [0,1] w0 ?_
  repeat' first|refine aw ?_|refine bw (fun _=>?_) fun _=>?_
  refine dO (fun ((d,k1,m):Bl×Nat×Nat)=>⟨[(3,.ref 2 0 0 (eR (d.places ns.length)).length),(0,.ptr 0 0)],bu 0 (rdN l k1 (ns++d.flat ns.length)++[.arr 1 (eR (d.places ns.length))]),3,[],2⟩)
   (fun (d,k1,m)=>(dS m (l.drop k1)).bind (fun es r=>R.ok (d.app es) r)=Rr/\m<=n/\k1<=l.length/\k+d.sz+1<=k1) (fun (_,_,m)=>m) (.nil,k+1,n) (by
    have e:ns=ns++Bl.nil.flat ns.length:=by simp [Bl.flat]
    have e1:(ns.map bU).length=((ns++Bl.nil.flat ns.length).map bU).length:=by rw [<- e]
    have e2:ns.map bU=(ns++Bl.nil.flat ns.length).map bU:=by rw [<- e]
    exact Uw.wW) ⟨by rw [<- hR];cases dS n (l.drop (k+1))<;>rfl,YN _,hlt,by simp [Bl.sz]⟩ ?_
  clear hR w0 h0;rintro ⟨d,k1,m⟩ ⟨hR,hm,hk1,hk2⟩
  cases m with
  | zero=>rw [dS] at hR;exact absurd hR.symm hout
  | succ m=>
   rw [dS] at hR;have hfl:(ns++d.flat ns.length).length=ns.length+d.sz:=by simp [Bl.ax]
   have hv:=bK l k1 ((ns++d.flat ns.length).map bU) hk1 hl [125] (by simp);have hpy:(eR (d.places ns.length)).length<1000000:=by have:=d.DX ns.length;simp [eR];omega
   by_cases hs:hd (l.drop k1)=[125]
   ·have hlt:=eo hs (by simp)
    rw [if_pos hs,YX] at hR;rw [if_pos hs,decide_eq_true hs] at hv;have hR:R.ok (d.app .nil) (l.drop (k1+1))=Rr:=hR;have hb:JF l ns Rr = .ok (.d (I ((ns.length+d.sz:Nat)))) (rdN l (k1+1) (ns++d.all ns.length)):=by
     rw [<- hR,Bl.vX];show Out.ok _ (rdN l (l.length - (l.drop (k1+1)).length) _)=_;rw [len_drop (by omega)]
    have hp:=Gj l (k1+1) (ns++d.flat ns.length) (ns++d.all ns.length) ⟨18,0,[],[],d.places ns.length⟩ (by simp [Bl.all]) (ns.length+d.sz) (by simp [Bl.ax]) (by simp [Bl.ax];omega) rfl;clear ih hR hout hs
    repeat' first|refine aw ?_|refine bw (fun _=>?_) fun _=>?_
    refine ag 3 [0,1] hv ?_
    repeat' first|refine aw ?_|refine bw (fun _=>?_) fun _=>?_
    refine aA ?_
    repeat' first|refine aw ?_|refine bw (fun _=>?_) fun _=>?_
    refine ag 3 [0,1,2] hp ?_
    repeat' first|refine aw ?_|refine bw (fun _=>?_) fun _=>?_
    exact vV 2 hb rfl rfl (by exact Uw.wW)
   ·rw [if_neg hs] at hR
    rw [if_neg hs,decide_eq_false hs] at hv
    rcases L9 ((ih m (by omega)).stmt k1 (ns++d.flat ns.length) hk1 (by omega)) hk1 (fun e r h=>(tr m).stmt _ _ _ h) with h0|⟨h0,h1⟩|⟨y,k2,h0,hk3,Ir,h1⟩
    ·rw [h0] at hR;exact absurd hR.symm hout
    ·rw [h0] at hR
     have hb:JF l ns Rr = .bad:=by rw [<- hR];rfl
     clear ih hR hout hs h0
     repeat' first|refine aw ?_|refine bw (fun _=>?_) fun _=>?_
     refine ag 3 [0,1] hv ?_
     repeat' first|refine aw ?_|refine bw (fun _=>?_) fun _=>?_
     refine bk 3 [0,1] h1 ?_;intro h q
     repeat' first|refine aw ?_|refine bw (fun _=>?_) fun _=>?_
     exact mF (lY 2 hb rfl)
    ·rw [h0] at hR
     have hR:(dS m (l.drop k2)).bind (fun es r=>R.ok ((d.app (.cons y .nil)).app es) r)=Rr:=by
      rw [<- hR];show _=((dS m (l.drop k2)).bind fun es r=>R.ok (Bl.cons y es) r).bind fun es r=>R.ok (d.app es) r
      cases dS m (l.drop k2) with
      | ok es r=>show R.ok _ _=R.ok _ _;rw [Bl.pj];rfl
      | bad=>rfl
      | out=>rfl
     have hpl:d.places ns.length++[(ns++d.flat ns.length).length+y.sz - 1]=(d.app (.cons y .nil)).places ns.length:=by rw [Bl.mZ,hfl];rfl
     have hpr:eR (d.places ns.length)++[[I (((ns++d.flat ns.length).length+y.sz - 1:Nat))]]=eR ((d.app (.cons y .nil)).places ns.length):=by rw [<- hpl];simp [eR]
     have hpn:(eR (d.places ns.length)).length+1=(eR ((d.app (.cons y .nil)).places ns.length)).length:=by rw [<- hpr];simp
     have hff:ns++d.flat ns.length++y.flat (ns++d.flat ns.length).length=ns++(d.app (.cons y .nil)).flat ns.length:=by rw [Bl.rY,hfl];simp [Bl.flat]
     have hsz:(d.app (.cons y .nil)).sz=d.sz+y.sz:=by rw [Bl.A4];rfl
     rw [hff] at h1;clear ih hout hs h0 hff hpl
     repeat' first|refine aw ?_|refine bw (fun _=>?_) fun _=>?_
     refine ag 3 [0,1] hv ?_
     repeat' first|refine aw ?_|refine bw (fun _=>?_) fun _=>?_
     refine ag 3 [0,1] h1 ?_
     repeat' first|refine aw ?_|refine bw (fun _=>?_) fun _=>?_
     exact cJ (d.app (.cons y .nil),k2,m) ⟨hR,by omega,hk3,by omega⟩ (by simp only;omega) (by exact Uw.wW)
 ·rw [want,if_neg h0]
  have w0:=bh l k (ns.map bU) hk hl [123] (by simp) h0;clear ih h0;refine aP jZ rfl ?_
  repeat' first|refine aw ?_|refine bw (fun _=>?_) fun _=>?_
  refine bk 2 [0,1] w0 ?_;intro H q
  repeat' first|refine aw ?_|refine bw (fun _=>?_) fun _=>?_
  exact aQ rfl
end Uw.Tryz
namespace Uw.Tryz
open Go Uw
def pIf (n:Nat) (r:List Tok):R Stm:=(dM n r.tail).bind fun e r=>(du n r).bind fun a r=>
 if hd r=xO then (du n r.tail).bind fun b r=>.ok (.if2 e a b) r else .ok (.if1 e a) r
theorem PN (l:List Tok) (hl:l.length<1000000) (n:Nat) (ih:∀m,m<=n->CS l m) (k:Nat) (ns:List Nod) (hk:k<=l.length) (hn:ns.length<=k) (h0:hd (l.drop k)=sIf):c6 j7 [.ptr 0 0] (rdN l k ns) (ou l ns (pIf n (l.drop k))):=by
 have hlt:=eo h0 (by decide);have w0:=aR l k (ns.map bU) hk hl sIf (by decide) h0;clear h0;rw [pIf,YX]
 rcases xm ((ce l hl n n (YN _)).expr (k+1) ns hlt (by omega)) hlt (fun e r h=>(eN n).expr _ _ _ h) with h2|⟨h2,h3⟩|⟨e,k1,h2,hk1,mY,h3⟩
 ·rw [h2];exact trivial
 ·rw [h2]
  refine aP dD rfl ?_
  repeat' first|refine aw ?_|refine bw (fun _=>?_) fun _=>?_
  refine ag 2 [0,1] w0 ?_
  repeat' first|refine aw ?_|refine bw (fun _=>?_) fun _=>?_
  refine bk 2 [0,1] h3 ?_;intro H q
  repeat' first|refine aw ?_|refine bw (fun _=>?_) fun _=>?_
  exact aQ rfl
 ·rw [h2]
  have hf1:(ns++e.flat ns.length).length=ns.length+e.sz:=by simp [Ex.ax]
  show c6 _ _ _ (ou l ns ((du n (l.drop k1)).bind _))
  rcases Si ((ih n (YN _)).block k1 (ns++e.flat ns.length) hk1 (by omega)) hk1 (fun e r h=>(tr n).block _ _ _ h) with h4|⟨h4,h5⟩|⟨a,k2,h4,hk2,WS,h5⟩
  ·rw [h4];exact trivial
  ·rw [h4]
   refine aP dD rfl ?_
   repeat' first|refine aw ?_|refine bw (fun _=>?_) fun _=>?_
   refine ag 2 [0,1] w0 ?_
   repeat' first|refine aw ?_|refine bw (fun _=>?_) fun _=>?_
   refine ag 2 [0,1] h3 ?_
   repeat' first|refine aw ?_|refine bw (fun _=>?_) fun _=>?_
   refine bk 2 [0,1] h5 ?_;intro H q
   repeat' first|refine aw ?_|refine bw (fun _=>?_) fun _=>?_
   exact aQ rfl
  ·rw [h4]
   have hf2:(ns++e.flat ns.length++a.all (ns++e.flat ns.length).length).length=ns.length+e.sz+(a.sz+1):=by simp [Ex.ax,Bl.fy];omega
   have hv:=bK l k2 ((ns++e.flat ns.length++a.all (ns++e.flat ns.length).length).map bU) hk2 hl xO (by decide);show c6 _ _ _ (ou l ns (if hd (l.drop k2)=xO then _ else _));by_cases h6:hd (l.drop k2)=xO
   ·have hlt2:=eo h6 (by decide)
    rw [if_pos h6,decide_eq_true h6] at hv;rw [if_pos h6,YX];clear h6
    rcases Si ((ih n (YN _)).block (k2+1) (ns++e.flat ns.length++a.all (ns++e.flat ns.length).length) hlt2 (by omega)) hlt2 (fun e r h=>(tr n).block _ _ _ h) with h7|⟨h7,h8⟩|⟨b,k3,h7,hk3,Ir,h8⟩
    ·rw [h7];exact trivial
    ·rw [h7]
     refine aP dD rfl ?_
     repeat' first|refine aw ?_|refine bw (fun _=>?_) fun _=>?_
     refine ag 2 [0,1] w0 ?_
     repeat' first|refine aw ?_|refine bw (fun _=>?_) fun _=>?_
     refine ag 2 [0,1] h3 ?_
     repeat' first|refine aw ?_|refine bw (fun _=>?_) fun _=>?_
     refine ag 2 [0,1] h5 ?_
     repeat' first|refine aw ?_|refine bw (fun _=>?_) fun _=>?_
     refine ag 3 [0,1] hv ?_
     repeat' first|refine aw ?_|refine bw (fun _=>?_) fun _=>?_
     refine bk 3 [0,1] h8 ?_;intro H q
     repeat' first|refine aw ?_|refine bw (fun _=>?_) fun _=>?_
     exact aQ rfl
    ·rw [h7]
     show bm _ _ _ _ (.d (I ((ns.length+(Stm.if2 e a b).sz - 1:Nat)))) (rdN l (l.length - (l.drop k3).length) (ns++(Stm.if2 e a b).flat ns.length));rw [len_drop hk3];have hp:=Gj l k3 (ns++e.flat ns.length++a.all (ns++e.flat ns.length).length++b.all (ns++e.flat ns.length++a.all (ns++e.flat ns.length).length).length) (ns++(Stm.if2 e a b).flat ns.length) ⟨13,0,[],[],[ns.length+e.sz - 1,(ns++e.flat ns.length).length+a.sz,(ns++e.flat ns.length++a.all (ns++e.flat ns.length).length).length+b.sz]⟩ (by
      rw [hf2,hf1];simp [Stm.flat,Bl.all];try omega) (ns.length+(Stm.if2 e a b).sz - 1) (by simp [Stm.sz,Ex.ax,Bl.fy];try omega) (by simp [Ex.ax,Bl.fy];omega) rfl
     refine aJ dD rfl ?_
     repeat' first|refine aw ?_|refine bw (fun _=>?_) fun _=>?_
     refine ag 2 [0,1] w0 ?_
     repeat' first|refine aw ?_|refine bw (fun _=>?_) fun _=>?_
     refine ag 2 [0,1] h3 ?_
     repeat' first|refine aw ?_|refine bw (fun _=>?_) fun _=>?_
     refine ag 2 [0,1] h5 ?_
     repeat' first|refine aw ?_|refine bw (fun _=>?_) fun _=>?_
     refine ag 3 [0,1] hv ?_
     repeat' first|refine aw ?_|refine bw (fun _=>?_) fun _=>?_
     refine ag 3 [0,1] h8 ?_
     repeat' first|refine aw ?_|refine bw (fun _=>?_) fun _=>?_
     refine ag 3 [0,1,2] hp ?_
     repeat' first|refine aw ?_|refine bw (fun _=>?_) fun _=>?_
     exact aI 2 rfl rfl (by exact Uw.wW)
   ·rw [if_neg h6,decide_eq_false h6] at hv
    rw [if_neg h6];clear h6;show bm _ _ _ _ (.d (I ((ns.length+(Stm.if1 e a).sz - 1:Nat)))) (rdN l (l.length - (l.drop k2).length) (ns++(Stm.if1 e a).flat ns.length));rw [len_drop hk2];have hp:=Gj l k2 (ns++e.flat ns.length++a.all (ns++e.flat ns.length).length) (ns++(Stm.if1 e a).flat ns.length) ⟨13,0,[],[],[ns.length+e.sz - 1,(ns++e.flat ns.length).length+a.sz]⟩ (by
     rw [hf1];simp [Stm.flat,Bl.all];try omega) (ns.length+(Stm.if1 e a).sz - 1) (by simp [Stm.sz,Ex.ax,Bl.fy];try omega) (by simp [Ex.ax,Bl.fy];omega) rfl
    refine aJ dD rfl ?_
    repeat' first|refine aw ?_|refine bw (fun _=>?_) fun _=>?_
    refine ag 2 [0,1] w0 ?_
    repeat' first|refine aw ?_|refine bw (fun _=>?_) fun _=>?_
    refine ag 2 [0,1] h3 ?_
    repeat' first|refine aw ?_|refine bw (fun _=>?_) fun _=>?_
    refine ag 2 [0,1] h5 ?_
    repeat' first|refine aw ?_|refine bw (fun _=>?_) fun _=>?_
    refine ag 3 [0,1] hv ?_
    repeat' first|refine aw ?_|refine bw (fun _=>?_) fun _=>?_
    refine ag 3 [0,1,2] hp ?_
    repeat' first|refine aw ?_|refine bw (fun _=>?_) fun _=>?_
    exact aI 2 rfl rfl (by exact Uw.wW)
theorem Vs (l:List Tok) (hl:l.length<1000000) (n:Nat) (ih:∀m,m<=n->CS l m) (k:Nat) (ns:List Nod) (hk:k<=l.length) (hn:ns.length<=k):c6 fq [.ptr 0 0] (rdN l k ns) (ou l ns (jh (n+1) (l.drop k))):=by
 have pk:=bO l k (ns.map bU) hk;rw [jh];by_cases h0:hd (l.drop k)=sIf
 ·have hlt:=eo h0 (by decide)
  rw [if_pos h0];have hc:=PN l hl n ih k ns hk hn h0;have e:jh (n+1) (l.drop k)=pIf n (l.drop k):=by rw [jh,if_pos h0];rfl
  show c6 _ _ _ (ou l ns (pIf n (l.drop k)));rw [h0] at pk;clear h0
  rcases L9 hc hk (fun s r h=>(tr (n+1)).stmt _ _ _ (e.trans h)) with h2|⟨h2,h3⟩|⟨s,k1,h2,hk1,mY,h3⟩
  ·rw [h2];exact trivial
  ·rw [h2]
   refine aP bJ rfl ?_
   repeat' first|refine aw ?_|refine bw (fun _=>?_) fun _=>?_
   refine ag 2 [0,1] pk ?_
   repeat' first|refine aw ?_|refine bw (fun _=>?_) fun _=>?_
   refine bk 2 [0,1] h3 ?_;intro H q
   repeat' first|refine aw ?_|refine bw (fun _=>?_) fun _=>?_
   exact aQ rfl
  ·rw [h2]
   show bm _ _ _ _ (.d (I ((ns.length+s.sz - 1:Nat)))) (rdN l (l.length - (l.drop k1).length) _);rw [len_drop hk1];refine aJ bJ rfl ?_
   repeat' first|refine aw ?_|refine bw (fun _=>?_) fun _=>?_
   refine ag 2 [0,1] pk ?_
   repeat' first|refine aw ?_|refine bw (fun _=>?_) fun _=>?_
   refine ag 2 [0,1] h3 ?_
   repeat' first|refine aw ?_|refine bw (fun _=>?_) fun _=>?_
   exact aI 2 rfl rfl (by exact Uw.wW)
 ·rw [if_neg h0]
  by_cases h1:hd (l.drop k)=uf
  ·have hlt:=eo h1 (by decide)
   have w0:=aR l k (ns.map bU) hk hl uf (by decide) h1;rw [if_pos h1,YX];rw [h1] at pk;clear h0 h1
   rcases xm ((ce l hl n n (YN _)).expr (k+1) ns hlt (by omega)) hlt (fun e r h=>(eN n).expr _ _ _ h) with h2|⟨h2,h3⟩|⟨e,k1,h2,hk1,mY,h3⟩
   ·rw [h2];exact trivial
   ·rw [h2]
    refine aP bJ rfl ?_
    repeat' first|refine aw ?_|refine bw (fun _=>?_) fun _=>?_
    refine ag 2 [0,1] pk ?_
    repeat' first|refine aw ?_|refine bw (fun _=>?_) fun _=>?_
    refine ag 2 [0,1] w0 ?_
    repeat' first|refine aw ?_|refine bw (fun _=>?_) fun _=>?_
    refine bk 2 [0,1] h3 ?_;intro H q
    repeat' first|refine aw ?_|refine bw (fun _=>?_) fun _=>?_
    exact aQ rfl
   ·rw [h2]
    have hf1:(ns++e.flat ns.length).length=ns.length+e.sz:=by simp [Ex.ax]
    show c6 _ _ _ (ou l ns ((du n (l.drop k1)).bind _))
    rcases Si ((ih n (YN _)).block k1 (ns++e.flat ns.length) hk1 (by omega)) hk1 (fun e r h=>(tr n).block _ _ _ h) with h4|⟨h4,h5⟩|⟨a,k2,h4,hk2,WS,h5⟩
    ·rw [h4];exact trivial
    ·rw [h4]
     refine aP bJ rfl ?_
     repeat' first|refine aw ?_|refine bw (fun _=>?_) fun _=>?_
     refine ag 2 [0,1] pk ?_
     repeat' first|refine aw ?_|refine bw (fun _=>?_) fun _=>?_
     refine ag 2 [0,1] w0 ?_
     repeat' first|refine aw ?_|refine bw (fun _=>?_) fun _=>?_
     refine ag 2 [0,1] h3 ?_
     repeat' first|refine aw ?_|refine bw (fun _=>?_) fun _=>?_
     refine bk 2 [0,1] h5 ?_;intro H q
     repeat' first|refine aw ?_|refine bw (fun _=>?_) fun _=>?_
     exact aQ rfl
    ·rw [h4]
     show bm _ _ _ _ (.d (I ((ns.length+(Stm.loop e a).sz - 1:Nat)))) (rdN l (l.length - (l.drop k2).length) (ns++(Stm.loop e a).flat ns.length));rw [len_drop hk2];have hp:=qd l k2 (ns++e.flat ns.length++a.all (ns++e.flat ns.length).length) (ns++(Stm.loop e a).flat ns.length) ⟨14,0,[],[],[ns.length+e.sz - 1,(ns++e.flat ns.length).length+a.sz]⟩ (by
      rw [hf1];simp [Stm.flat,Bl.all];try omega) (ns.length+(Stm.loop e a).sz - 1) (by simp [Stm.sz,Ex.ax,Bl.fy];try omega) (by simp [Ex.ax,Bl.fy];omega)
     have hp:bm P0 bF [.ptr 0 0,.agg [.d (I 14),.d (I 0),.d (.str []),.d (.str []),.d (.slice 1 [[I ((ns.length+e.sz - 1:Nat))],[I (((ns++e.flat ns.length).length+a.sz:Nat))]] true)]] (rdN l k2 (ns++e.flat ns.length++a.all (ns++e.flat ns.length).length)) (.d (I ((ns.length+(Stm.loop e a).sz - 1:Nat)))) (rdN l k2 (ns++(Stm.loop e a).flat ns.length)):=hp;refine aJ bJ rfl ?_
     repeat' first|refine aw ?_|refine bw (fun _=>?_) fun _=>?_
     refine ag 2 [0,1] pk ?_
     repeat' first|refine aw ?_|refine bw (fun _=>?_) fun _=>?_
     refine ag 2 [0,1] w0 ?_
     repeat' first|refine aw ?_|refine bw (fun _=>?_) fun _=>?_
     refine ag 2 [0,1] h3 ?_
     repeat' first|refine aw ?_|refine bw (fun _=>?_) fun _=>?_
     refine ag 2 [0,1] h5 ?_
     repeat' first|refine aw ?_|refine bw (fun _=>?_) fun _=>?_
     refine ag 2 [0,1] hp ?_
     repeat' first|refine aw ?_|refine bw (fun _=>?_) fun _=>?_
     exact aI 2 rfl rfl (by exact Uw.wW)
  ·rw [if_neg h1]
   generalize hd (l.drop k)=p at *;unfold sIf at h0;unfold uf at h1
   rcases L9 (PL l hl n k ns hk hn) hk (fun s r h=>zy h) with h2|⟨h2,h3⟩|⟨s,k1,h2,hk1,mY,h3⟩
   ·rw [h2];exact trivial
   ·rw [h2]
    refine aP bJ rfl ?_
    repeat' first|refine aw ?_|refine bw (fun _=>?_) fun _=>?_
    refine ag 2 [0,1] pk ?_
    repeat' first|refine aw ?_|refine bw (fun _=>?_) fun _=>?_
    refine bk 2 [0,1] h3 ?_;intro H q
    repeat' first|refine aw ?_|refine bw (fun _=>?_) fun _=>?_
    exact aQ rfl
   ·rw [h2]
    show c6 _ _ _ (ou l ns ((want [59] (l.drop k1)).bind _));by_cases h4:hd (l.drop k1)=[59]
    ·have hlt1:=eo h4 (by simp)
     have w1:=aR l k1 ((ns++s.flat ns.length).map bU) hk1 hl [59] (by simp) h4;rw [want,if_pos h4,YX];show bm _ _ _ _ (.d (I ((ns.length+s.sz - 1:Nat)))) (rdN l (l.length - (l.drop (k1+1)).length) _);rw [len_drop hlt1];clear h4;refine aJ bJ rfl ?_
     repeat' first|refine aw ?_|refine bw (fun _=>?_) fun _=>?_
     refine ag 2 [0,1] pk ?_
     repeat' first|refine aw ?_|refine bw (fun _=>?_) fun _=>?_
     refine ag 2 [0,1] h3 ?_
     repeat' first|refine aw ?_|refine bw (fun _=>?_) fun _=>?_
     refine ag 2 [0,1] w1 ?_
     repeat' first|refine aw ?_|refine bw (fun _=>?_) fun _=>?_
     exact aI 2 rfl rfl (by exact Uw.wW)
    ·have w1:=bh l k1 ((ns++s.flat ns.length).map bU) hk1 hl [59] (by simp) h4
     rw [want,if_neg h4];clear h4;refine aP bJ rfl ?_
     repeat' first|refine aw ?_|refine bw (fun _=>?_) fun _=>?_
     refine ag 2 [0,1] pk ?_
     repeat' first|refine aw ?_|refine bw (fun _=>?_) fun _=>?_
     refine ag 2 [0,1] h3 ?_
     repeat' first|refine aw ?_|refine bw (fun _=>?_) fun _=>?_
     refine bk 2 [0,1] w1 ?_;intro H q
     repeat' first|refine aw ?_|refine bw (fun _=>?_) fun _=>?_
     exact aQ rfl
theorem cs (l:List Tok) (hl:l.length<1000000):∀n,∀m,m<=n->CS l m
 | 0,m,hm=>by
  obtain rfl:m=0:=by omega
  refine ⟨?_,?_⟩
  ·intro k ns _ _;rw [jh];exact trivial
  ·intro k ns _ _;rw [du];exact trivial
 | n+1,m,hm=>by
  have ih:=cs l hl n;by_cases h:m<=n
  ·exact ih m h
  ·obtain rfl:m=n+1:=by omega
   exact ⟨fun k ns=>Vs l hl n ih k ns,fun k ns=>Sj l hl n ih k ns⟩
end Uw.Tryz
namespace Uw.Tryz
open Go Uw
def Is (d:Dec):V:=.agg [.d (I d.kind),.d (.str d.name),.d (I d.n)]
def s6 (l:List Tok) (ns:List Nod) (x:R Dec):Out:=
 match x with
 | .ok d r=>.ok (Is d) (rdN l (l.length - r.length) ns)
 | .bad=>.bad
 | .out=>.out
theorem A5 (l:List Tok) (k:Nat) (xs:List (List Dat)) (hk:k<=l.length) (hl:l.length<1000000) (K:Int) :
  (iM K (l.drop k) = .bad/\kH P0 ej [.ptr 0 0,.d (I K)] (rd l k xs) cZ)\/∃t,iM K (l.drop k) = .ok t (l.drop (k+1))/\k<l.length/\bm P0 ej [.ptr 0 0,.d (I K)] (rd l k xs) (.agg ((rb t).map V.d)) (rd l (k+1) xs):=by
 by_cases h:k<l.length
 ·have hd:l.drop k=l[k]::l.drop (k+1):=Zo h
  by_cases h1:l[k].kind=K
  ·exact .inr ⟨l[k],by rw [hd,iM,if_pos h1],h,fz l k xs hk hl K h h1⟩
  ·exact .inl ⟨by rw [hd,iM,if_neg h1],iI l k xs hk hl K (fun _=>h1)⟩
 ·exact .inl ⟨by rw [Zu (by omega),iM],iI l k xs hk hl K (fun h'=>absurd h' h)⟩
def ko (k:Int) (s:Str) (r:List Tok):R Dec:=(if k=0/\hd r=[61] then (iM 2 r.tail).bind fun t r=>R.ok t.n r else .ok 0 r).bind fun v r=>(want [59] r).bind fun _ r=>.ok ⟨k,s,v⟩ r
theorem Vt (l:List Tok) (hl:l.length<1000000) (k:Nat) (ns:List Nod) (hk:k<=l.length):c6 lz [.ptr 0 0] (rdN l k ns) (s6 l ns (rh (l.drop k))):=by
 rw [rh]
 rcases A5 l k (ns.map bU) hk hl 1 with ⟨h1,h2⟩|⟨t,h1,hlt,h2⟩
 ·rw [h1]
  refine aP aT rfl ?_
  repeat' first|refine aw ?_|refine bw (fun _=>?_) fun _=>?_
  refine bk 4 [0,1] h2 ?_;intro H q
  repeat' first|refine aw ?_|refine bw (fun _=>?_) fun _=>?_
  exact aQ rfl
 ·rw [h1]
  obtain ⟨kind,text,num,place⟩:=t;show c6 _ _ _ (s6 l ns (match kindOf text with|none=>R.bad|some K=>(eS (l.drop (k+1))).bind fun s r=>ko K s r));rw [kindOf];by_cases c0:text=Ht
  ·subst c0
   show c6 _ _ _ (s6 l ns ((eS (l.drop (k+1))).bind fun s r=>ko 0 s r))
   rcases eh l (k+1) (ns.map bU) hlt hl with ⟨h3,h4⟩|⟨s,h3,hlt2,h4⟩
   ·rw [h3]
    refine aP aT rfl ?_
    repeat' first|refine aw ?_|refine bw (fun _=>?_) fun _=>?_
    refine ag 4 [0,1] h2 ?_
    repeat' first|refine aw ?_|refine bw (fun _=>?_) fun _=>?_
    refine bk 4 [0,1] h4 ?_;intro H q
    repeat' first|refine aw ?_|refine bw (fun _=>?_) fun _=>?_
    exact aQ rfl
   ·rw [h3]
    show c6 _ _ _ (s6 l ns (ko 0 s (l.drop (k+1+1))));rw [ko];have hv:=bK l (k+1+1) (ns.map bU) hlt2 hl [61] (by simp);by_cases h5:hd (l.drop (k+1+1))=[61]
    ·have hlt3:=eo h5 (by simp)
     rw [if_pos h5,decide_eq_true h5] at hv;rw [if_pos ⟨rfl,h5⟩,YX];clear h5
     rcases A5 l (k+1+1+1) (ns.map bU) hlt3 hl 2 with ⟨h6,h7⟩|⟨t,h6,hlt4,h7⟩
     ·rw [h6]
      refine aP aT rfl ?_
      repeat' first|refine aw ?_|refine bw (fun _=>?_) fun _=>?_
      refine ag 4 [0,1] h2 ?_
      repeat' first|refine aw ?_|refine bw (fun _=>?_) fun _=>?_
      refine ag 4 [0,1] h4 ?_
      repeat' first|refine aw ?_|refine bw (fun _=>?_) fun _=>?_
      refine ag 4 [0,1] hv ?_
      repeat' first|refine aw ?_|refine bw (fun _=>?_) fun _=>?_
      refine bk 4 [0,1] h7 ?_;intro H q
      repeat' first|refine aw ?_|refine bw (fun _=>?_) fun _=>?_
      exact aQ rfl
     ·rw [h6]
      obtain ⟨k2,x2,n2,p2⟩:=t;show c6 _ _ _ (s6 l ns ((want [59] (l.drop (k+1+1+1+1))).bind fun _ r=>R.ok ⟨0,s,n2⟩ r));by_cases hs:hd (l.drop (k+1+1+1+1))=[59]
      ·have Sl:=eo hs (by simp)
       have w9:=aR l (k+1+1+1+1) (ns.map bU) (by omega) hl [59] (by simp) hs;rw [want,if_pos hs,YX];show bm _ _ _ _ (Is ⟨0,s,n2⟩) (rdN l (l.length - (l.drop (k+1+1+1+1+1)).length) ns);rw [len_drop (by omega)];clear hs;refine aJ aT rfl ?_
       repeat' first|refine aw ?_|refine bw (fun _=>?_) fun _=>?_
       refine ag 4 [0,1] h2 ?_
       repeat' first|refine aw ?_|refine bw (fun _=>?_) fun _=>?_
       refine ag 4 [0,1] h4 ?_
       repeat' first|refine aw ?_|refine bw (fun _=>?_) fun _=>?_
       refine ag 4 [0,1] hv ?_
       repeat' first|refine aw ?_|refine bw (fun _=>?_) fun _=>?_
       refine ag 4 [0,1] h7 ?_
       repeat' first|refine aw ?_|refine bw (fun _=>?_) fun _=>?_
       refine ag 4 [0,1] w9 ?_
       repeat' first|refine aw ?_|refine bw (fun _=>?_) fun _=>?_
       exact aI 2 rfl rfl (by exact Uw.wW)
      ·have w9:=bh l (k+1+1+1+1) (ns.map bU) (by omega) hl [59] (by simp) hs
       rw [want,if_neg hs];clear hs;refine aP aT rfl ?_
       repeat' first|refine aw ?_|refine bw (fun _=>?_) fun _=>?_
       refine ag 4 [0,1] h2 ?_
       repeat' first|refine aw ?_|refine bw (fun _=>?_) fun _=>?_
       refine ag 4 [0,1] h4 ?_
       repeat' first|refine aw ?_|refine bw (fun _=>?_) fun _=>?_
       refine ag 4 [0,1] hv ?_
       repeat' first|refine aw ?_|refine bw (fun _=>?_) fun _=>?_
       refine ag 4 [0,1] h7 ?_
       repeat' first|refine aw ?_|refine bw (fun _=>?_) fun _=>?_
       refine bk 4 [0,1] w9 ?_;intro H q
       repeat' first|refine aw ?_|refine bw (fun _=>?_) fun _=>?_
       exact aQ rfl
    ·rw [if_neg h5,decide_eq_false h5] at hv
     rw [if_neg (fun h=>h5 h.2)];clear h5;show c6 _ _ _ (s6 l ns ((want [59] (l.drop (k+1+1))).bind fun _ r=>R.ok ⟨0,s,0⟩ r));by_cases hs:hd (l.drop (k+1+1))=[59]
     ·have Sl:=eo hs (by simp)
      have w9:=aR l (k+1+1) (ns.map bU) (by omega) hl [59] (by simp) hs;rw [want,if_pos hs,YX];show bm _ _ _ _ (Is ⟨0,s,0⟩) (rdN l (l.length - (l.drop (k+1+1+1)).length) ns);rw [len_drop (by omega)];clear hs;refine aJ aT rfl ?_
      repeat' first|refine aw ?_|refine bw (fun _=>?_) fun _=>?_
      refine ag 4 [0,1] h2 ?_
      repeat' first|refine aw ?_|refine bw (fun _=>?_) fun _=>?_
      refine ag 4 [0,1] h4 ?_
      repeat' first|refine aw ?_|refine bw (fun _=>?_) fun _=>?_
      refine ag 4 [0,1] hv ?_
      repeat' first|refine aw ?_|refine bw (fun _=>?_) fun _=>?_
      refine ag 4 [0,1] w9 ?_
      repeat' first|refine aw ?_|refine bw (fun _=>?_) fun _=>?_
      exact aI 2 rfl rfl (by exact Uw.wW)
     ·have w9:=bh l (k+1+1) (ns.map bU) (by omega) hl [59] (by simp) hs
      rw [want,if_neg hs];clear hs;refine aP aT rfl ?_
      repeat' first|refine aw ?_|refine bw (fun _=>?_) fun _=>?_
      refine ag 4 [0,1] h2 ?_
      repeat' first|refine aw ?_|refine bw (fun _=>?_) fun _=>?_
      refine ag 4 [0,1] h4 ?_
      repeat' first|refine aw ?_|refine bw (fun _=>?_) fun _=>?_
      refine ag 4 [0,1] hv ?_
      repeat' first|refine aw ?_|refine bw (fun _=>?_) fun _=>?_
      refine bk 4 [0,1] w9 ?_;intro H q
      repeat' first|refine aw ?_|refine bw (fun _=>?_) fun _=>?_
      exact aQ rfl
  ·by_cases c1:text=OC
   ·subst c1
    show c6 _ _ _ (s6 l ns ((eS (l.drop (k+1))).bind fun s r=>ko 1 s r));clear c0
    rcases eh l (k+1) (ns.map bU) hlt hl with ⟨h3,h4⟩|⟨s,h3,hlt2,h4⟩
    ·rw [h3]
     refine aP aT rfl ?_
     repeat' first|refine aw ?_|refine bw (fun _=>?_) fun _=>?_
     refine ag 4 [0,1] h2 ?_
     repeat' first|refine aw ?_|refine bw (fun _=>?_) fun _=>?_
     refine bk 4 [0,1] h4 ?_;intro H q
     repeat' first|refine aw ?_|refine bw (fun _=>?_) fun _=>?_
     exact aQ rfl
    ·rw [h3]
     show c6 _ _ _ (s6 l ns (ko 1 s (l.drop (k+1+1))));rw [ko];rw [if_neg (fun h=>by have:=h.1;omega)];show c6 _ _ _ (s6 l ns ((want [59] (l.drop (k+1+1))).bind fun _ r=>R.ok ⟨1,s,0⟩ r));by_cases hs:hd (l.drop (k+1+1))=[59]
     ·have Sl:=eo hs (by simp)
      have w9:=aR l (k+1+1) (ns.map bU) (by omega) hl [59] (by simp) hs;rw [want,if_pos hs,YX];show bm _ _ _ _ (Is ⟨1,s,0⟩) (rdN l (l.length - (l.drop (k+1+1+1)).length) ns);rw [len_drop (by omega)];clear hs;refine aJ aT rfl ?_
      repeat' first|refine aw ?_|refine bw (fun _=>?_) fun _=>?_
      refine ag 4 [0,1] h2 ?_
      repeat' first|refine aw ?_|refine bw (fun _=>?_) fun _=>?_
      refine ag 4 [0,1] h4 ?_
      repeat' first|refine aw ?_|refine bw (fun _=>?_) fun _=>?_
      refine ag 4 [0,1] w9 ?_
      repeat' first|refine aw ?_|refine bw (fun _=>?_) fun _=>?_
      exact aI 2 rfl rfl (by exact Uw.wW)
     ·have w9:=bh l (k+1+1) (ns.map bU) (by omega) hl [59] (by simp) hs
      rw [want,if_neg hs];clear hs;refine aP aT rfl ?_
      repeat' first|refine aw ?_|refine bw (fun _=>?_) fun _=>?_
      refine ag 4 [0,1] h2 ?_
      repeat' first|refine aw ?_|refine bw (fun _=>?_) fun _=>?_
      refine ag 4 [0,1] h4 ?_
      repeat' first|refine aw ?_|refine bw (fun _=>?_) fun _=>?_
      refine bk 4 [0,1] w9 ?_;intro H q
      repeat' first|refine aw ?_|refine bw (fun _=>?_) fun _=>?_
      exact aQ rfl
   ·by_cases c2:text=zx
    ·subst c2
     show c6 _ _ _ (s6 l ns ((eS (l.drop (k+1))).bind fun s r=>ko 2 s r));clear c0 c1
     rcases eh l (k+1) (ns.map bU) hlt hl with ⟨h3,h4⟩|⟨s,h3,hlt2,h4⟩
     ·rw [h3]
      refine aP aT rfl ?_
      repeat' first|refine aw ?_|refine bw (fun _=>?_) fun _=>?_
      refine ag 4 [0,1] h2 ?_
      repeat' first|refine aw ?_|refine bw (fun _=>?_) fun _=>?_
      refine bk 4 [0,1] h4 ?_;intro H q
      repeat' first|refine aw ?_|refine bw (fun _=>?_) fun _=>?_
      exact aQ rfl
     ·rw [h3]
      show c6 _ _ _ (s6 l ns (ko 2 s (l.drop (k+1+1))));rw [ko];rw [if_neg (fun h=>by have:=h.1;omega)];show c6 _ _ _ (s6 l ns ((want [59] (l.drop (k+1+1))).bind fun _ r=>R.ok ⟨2,s,0⟩ r));by_cases hs:hd (l.drop (k+1+1))=[59]
      ·have Sl:=eo hs (by simp)
       have w9:=aR l (k+1+1) (ns.map bU) (by omega) hl [59] (by simp) hs;rw [want,if_pos hs,YX];show bm _ _ _ _ (Is ⟨2,s,0⟩) (rdN l (l.length - (l.drop (k+1+1+1)).length) ns);rw [len_drop (by omega)];clear hs;refine aJ aT rfl ?_
       repeat' first|refine aw ?_|refine bw (fun _=>?_) fun _=>?_
       refine ag 4 [0,1] h2 ?_
       repeat' first|refine aw ?_|refine bw (fun _=>?_) fun _=>?_
       refine ag 4 [0,1] h4 ?_
       repeat' first|refine aw ?_|refine bw (fun _=>?_) fun _=>?_
       refine ag 4 [0,1] w9 ?_
       repeat' first|refine aw ?_|refine bw (fun _=>?_) fun _=>?_
       exact aI 2 rfl rfl (by exact Uw.wW)
      ·have w9:=bh l (k+1+1) (ns.map bU) (by omega) hl [59] (by simp) hs
       rw [want,if_neg hs];clear hs;refine aP aT rfl ?_
       repeat' first|refine aw ?_|refine bw (fun _=>?_) fun _=>?_
       refine ag 4 [0,1] h2 ?_
       repeat' first|refine aw ?_|refine bw (fun _=>?_) fun _=>?_
       refine ag 4 [0,1] h4 ?_
       repeat' first|refine aw ?_|refine bw (fun _=>?_) fun _=>?_
       refine bk 4 [0,1] w9 ?_;intro H q
       repeat' first|refine aw ?_|refine bw (fun _=>?_) fun _=>?_
       exact aQ rfl
    ·by_cases c3:text=Hu
     ·subst c3
      show c6 _ _ _ (s6 l ns ((eS (l.drop (k+1))).bind fun s r=>ko 3 s r));clear c0 c1 c2
      rcases eh l (k+1) (ns.map bU) hlt hl with ⟨h3,h4⟩|⟨s,h3,hlt2,h4⟩
      ·rw [h3]
       refine aP aT rfl ?_
       repeat' first|refine aw ?_|refine bw (fun _=>?_) fun _=>?_
       refine ag 4 [0,1] h2 ?_
       repeat' first|refine aw ?_|refine bw (fun _=>?_) fun _=>?_
       refine bk 4 [0,1] h4 ?_;intro H q
       repeat' first|refine aw ?_|refine bw (fun _=>?_) fun _=>?_
       exact aQ rfl
      ·rw [h3]
       show c6 _ _ _ (s6 l ns (ko 3 s (l.drop (k+1+1))));rw [ko];rw [if_neg (fun h=>by have:=h.1;omega)];show c6 _ _ _ (s6 l ns ((want [59] (l.drop (k+1+1))).bind fun _ r=>R.ok ⟨3,s,0⟩ r));by_cases hs:hd (l.drop (k+1+1))=[59]
       ·have Sl:=eo hs (by simp)
        have w9:=aR l (k+1+1) (ns.map bU) (by omega) hl [59] (by simp) hs;rw [want,if_pos hs,YX];show bm _ _ _ _ (Is ⟨3,s,0⟩) (rdN l (l.length - (l.drop (k+1+1+1)).length) ns);rw [len_drop (by omega)];clear hs;refine aJ aT rfl ?_
        repeat' first|refine aw ?_|refine bw (fun _=>?_) fun _=>?_
        refine ag 4 [0,1] h2 ?_
        repeat' first|refine aw ?_|refine bw (fun _=>?_) fun _=>?_
        refine ag 4 [0,1] h4 ?_
        repeat' first|refine aw ?_|refine bw (fun _=>?_) fun _=>?_
        refine ag 4 [0,1] w9 ?_
        repeat' first|refine aw ?_|refine bw (fun _=>?_) fun _=>?_
        exact aI 2 rfl rfl (by exact Uw.wW)
       ·have w9:=bh l (k+1+1) (ns.map bU) (by omega) hl [59] (by simp) hs
        rw [want,if_neg hs];clear hs;refine aP aT rfl ?_
        repeat' first|refine aw ?_|refine bw (fun _=>?_) fun _=>?_
        refine ag 4 [0,1] h2 ?_
        repeat' first|refine aw ?_|refine bw (fun _=>?_) fun _=>?_
        refine ag 4 [0,1] h4 ?_
        repeat' first|refine aw ?_|refine bw (fun _=>?_) fun _=>?_
        refine bk 4 [0,1] w9 ?_;intro H q
        repeat' first|refine aw ?_|refine bw (fun _=>?_) fun _=>?_
        exact aQ rfl
     ·rw [if_neg c0,if_neg c1,if_neg c2,if_neg c3]
      unfold Ht at c0;unfold OC at c1;unfold zx at c2;unfold Hu at c3;refine aP aT rfl ?_
      repeat' first|refine aw ?_|refine bw (fun _=>?_) fun _=>?_
      refine ag 4 [0,1] h2 ?_
      repeat' first|refine aw ?_|refine bw (fun _=>?_) fun _=>?_
      exact aQ rfl
end Uw.Tryz
namespace Uw.Tryz
open Go Uw
def kW (ys:List Str):List (List Dat):=ys.map fun s=>[.str s]
theorem Gk (l:List Tok) (k k' : Nat) (ns:List Nod) (f p:Str) (h:bm P0 cg [.ptr 0 0] (rdN l k ns) (.d (.str p)) (rdN l k' ns)) :
  bm P0 bR [.ptr 3 0,.ptr 2 0] (rdN l k ns++[.var [.ptr 0 0],.var [.d (.str f),.d .nil,.d (I 0)]]) (.tuple []) (rdN l k' ns++[.var [.ptr 0 0],.var [.d (.str f),.ref 4 0 0 (kW [p]).length,.d (I 0)],.arr 1 (kW [p])]):=by
 refine aJ dC rfl ?_;refine b9 ⟨[],bu 0 (rdN l k' ns++[.var [.ptr 0 0],.var [.d (.str f),.ref 4 0 0 (kW [p]).length,.d (I 0)],.arr 1 (kW [p])]),5,[],4⟩ ?_ ?_
 ·repeat' first|refine aw ?_|refine bw (fun _=>?_) fun _=>?_
  refine ag 4 [0,1] h ?_
  repeat' first|refine aw ?_|refine bw (fun _=>?_) fun _=>?_
  exact bg (.inl ⟨rfl,by exact Uw.wW⟩)
 ·repeat' first|refine aw ?_|refine bw (fun _=>?_) fun _=>?_
  exact dr 4 rfl rfl (by exact Uw.wW)
theorem Iu (l:List Tok) (k k' : Nat) (ns:List Nod) (f p:Str) (ys:List Str) (hy:ys.length<1000000) (h:bm P0 cg [.ptr 0 0] (rdN l k ns) (.d (.str p)) (rdN l k' ns)) :
  bm P0 bR [.ptr 3 0,.ptr 2 0] (rdN l k ns++[.var [.ptr 0 0],.var [.d (.str f),.ref 4 0 0 (kW ys).length,.d (I 0)],.arr 1 (kW ys)]) (.tuple []) (rdN l k' ns++[.var [.ptr 0 0],.var [.d (.str f),.ref 4 0 0 (kW (ys++[p])).length,.d (I 0)],.arr 1 (kW (ys++[p]))]):=by
 have e:kW (ys++[p])=kW ys++[[.str p]]:=by simp [kW]
 have hy' : (kW ys).length<1000000:=by simpa [kW] using hy
 rw [e];generalize kW ys=zs at *;refine aJ dC rfl ?_;refine b9 ⟨[],bu 0 (rdN l k' ns++[.var [.ptr 0 0],.var [.d (.str f),.ref 4 0 0 (zs++[[Dat.str p]]).length,.d (I 0)],.arr 1 (zs++[[.str p]])]),5,[],5⟩ ?_ ?_
 ·repeat' first|refine aw ?_|refine bw (fun _=>?_) fun _=>?_
  refine ag 5 [0,1] h ?_
  repeat' first|refine aw ?_|refine bw (fun _=>?_) fun _=>?_
  exact bg (.inl ⟨rfl,by exact Uw.wW⟩)
 ·repeat' first|refine aw ?_|refine bw (fun _=>?_) fun _=>?_
  exact dr 5 rfl rfl (by exact Uw.wW)
theorem Gl (l:List Tok) (k:Nat) (ns:List Nod) (f:Str) (h:kH P0 cg [.ptr 0 0] (rdN l k ns) cZ) :
  kH P0 bR [.ptr 3 0,.ptr 2 0] (rdN l k ns++[.var [.ptr 0 0],.var [.d (.str f),.d .nil,.d (I 0)]]) cZ:=by
 refine aP dC rfl ?_;refine oL ?_
 repeat' first|refine aw ?_|refine bw (fun _=>?_) fun _=>?_
 refine bk 4 [0,1] h ?_;intro H n
 repeat' first|refine aw ?_|refine bw (fun _=>?_) fun _=>?_
 exact bg ⟨cZ,rfl,aQ rfl⟩
theorem Iw (l:List Tok) (k:Nat) (ns:List Nod) (f:Str) (ys:List Str) (h:kH P0 cg [.ptr 0 0] (rdN l k ns) cZ) :
  kH P0 bR [.ptr 3 0,.ptr 2 0] (rdN l k ns++[.var [.ptr 0 0],.var [.d (.str f),.ref 4 0 0 (kW ys).length,.d (I 0)],.arr 1 (kW ys)]) cZ:=by
 generalize kW ys=zs at *;refine aP dC rfl ?_;refine oL ?_
 repeat' first|refine aw ?_|refine bw (fun _=>?_) fun _=>?_
 refine bk 5 [0,1] h ?_;intro H n
 repeat' first|refine aw ?_|refine bw (fun _=>?_) fun _=>?_
 exact bg ⟨cZ,rfl,aQ rfl⟩
end Uw.Tryz
namespace Uw.Tryz
open Go Uw
def jQ (ys:List Str):Dat:=if ys=[] then .nil else .slice 1 (kW ys) false
def PO (l:List Tok) (ns:List Nod) (x:R Fn):Out:=
 match x with
 | .ok f r=>.ok (.agg [.d (.str f.name),.d (jQ f.args),.d (I ((ns.length+f.body.sz:Nat)))]) (rdN l (l.length - r.length) (ns++f.body.all ns.length))
 | .bad=>.bad
 | .out=>.out
theorem A6:∀(n:Nat) (r:List Tok) (x:List Str) (r' : List Tok),cG n r = .ok x r'->Suf r r' (x.length+1)
 | 0,_,_,_,h=>by rw [cG] at h;cases h
 | n+1,r,x,r',h=>by
  rw [cG] at h
  split at h
  ·rename_i hh
   obtain ⟨s,r2,h2,h⟩:=bind_ok.1 h;obtain ⟨ss,r3,h3,h⟩:=bind_ok.1 h;injection h with h4 h5
   subst h4 h5;exact ((Suf.hd hh (by simp)).trans ((Suf.name h2).trans (A6 n _ _ _ h3))).le (by simp;omega)
  ·obtain ⟨_,r1,h1,h⟩:=bind_ok.1 h
   injection h with h4 h5
   subst h4 h5;exact (Suf.want (by simp) h1).le (by simp)
end Uw.Tryz
namespace Uw.Tryz
open Go Uw
theorem Sm (b:Nat) {res:List gI} {x:Out} {v:V} {bs' : List Blk} {vs' : List V} {st:St} (hx:x = .ok v bs') (hd:st.defers=[]) (hr:resV st res=some vs') (hw:Weak ⟨[(0,mE vs')],st.heap,st.next,[],b⟩ ⟨[(0,v)],bu 0 bs',bs'.length,[],b⟩):WT P0 (OQ b res x) (.done .normal st):=by
 subst hx;exact dr b hd hr hw
def fnB (f:Str) (v:V):List Blk:=[.var [.ptr 0 0],.var [.d (.str f),v,.d (I 0)]]
def Ix (l:List Tok) (ns:List Nod) (f:Str) (x:R (List Str)):Out:=
 match x with
 | .ok ar r=>.ok (.tuple []) (rdN l (l.length - r.length) ns++fnB f (.d (jQ ar)))
 | .bad=>.bad
 | .out=>.out
theorem Sr {l:List Tok} {ns:List Nod} {f:Str} {x:R (List Str)} (h:x≠R.out):Ix l ns f x≠Out.out:=by
 cases x with
 | out=>exact absurd rfl h
 | bad=>intro h;cases h
 | ok e r=>intro h;cases h
theorem Ss (l:List Tok) (hl:l.length<1000000) (n:Nat) (k:Nat) (ns:List Nod) (f:Str) (hk:k<=l.length) (hn:ns.length<=k):c6 mO [.ptr 0 0,.func bR [] [.ptr 3 0,.ptr 2 0]] (rdN l k ns++fnB f (.d .nil)) (Ix l ns f (jE n (l.drop k))):=by
 rw [jE];by_cases h3:hd (l.drop k)=[40]
 rotate_left
 ·have w1:=bh l k (ns.map bU) hk hl [40] (by simp) h3
  rw [want,if_neg h3];clear h3;refine aP cB rfl ?_
  repeat' first|refine aw ?_|refine bw (fun _=>?_) fun _=>?_
  refine bk 4 [0,1] w1 ?_;intro H q
  repeat' first|refine aw ?_|refine bw (fun _=>?_) fun _=>?_
  exact aQ rfl
 have hlt2:=eo h3 (by simp);have w1:=aR l k (ns.map bU) hk hl [40] (by simp) h3;have hv:=bK l (k+1) (ns.map bU) hlt2 hl [41] (by simp);rw [want,if_pos h3,YX];clear h3;show c6 _ _ _ (Ix l ns f (if hd (l.drop (k+1))=[41] then R.ok [] (l.drop (k+1)).tail else _));by_cases h4:hd (l.drop (k+1))=[41]
 ·have hlt3:=eo h4 (by simp)
  rw [if_pos h4,YX];rw [if_pos h4,decide_eq_true h4] at hv;clear h4;show bm _ _ _ _ (.tuple []) (rdN l (l.length - (l.drop (k+1+1)).length) ns++fnB f (.d .nil));rw [len_drop (by omega)];refine aJ cB rfl ?_
  repeat' first|refine aw ?_|refine bw (fun _=>?_) fun _=>?_
  refine ag 4 [0,1] w1 ?_
  repeat' first|refine aw ?_|refine bw (fun _=>?_) fun _=>?_
  refine ag 4 [0,1] hv ?_
  repeat' first|refine aw ?_|refine bw (fun _=>?_) fun _=>?_
  exact aI 4 rfl rfl (by exact Uw.wW)
 rw [if_neg h4];rw [if_neg h4,decide_eq_false h4] at hv
 rcases eh l (k+1) (ns.map bU) hlt2 hl with ⟨h5,h6⟩|⟨p,h5,hlt3,h6⟩
 ·rw [h5]
  have a1:=Gl l (k+1) ns f h6;clear h4;refine aP cB rfl ?_
  repeat' first|refine aw ?_|refine bw (fun _=>?_) fun _=>?_
  refine ag 4 [0,1] w1 ?_
  repeat' first|refine aw ?_|refine bw (fun _=>?_) fun _=>?_
  refine ag 4 [0,1] hv ?_
  repeat' first|refine aw ?_|refine bw (fun _=>?_) fun _=>?_
  refine bk 4 [0,1,2,3] a1 ?_;intro H q
  repeat' first|refine aw ?_|refine bw (fun _=>?_) fun _=>?_
  exact aQ rfl
 rw [h5];have a1:=Gk l (k+1) _ ns f p h6;show c6 _ _ _ (Ix l ns f ((cG n (l.drop (k+1+1))).bind fun es r=>R.ok ([p]++es) r));generalize hR:((cG n (l.drop (k+1+1))).bind fun es r=>R.ok ([p]++es) r)=Rr;by_cases hout:Rr = .out
 ·rw [hout];exact trivial
 clear h4 h5;refine sF cB rfl (Sr hout) ?_
 repeat' first|refine aw ?_|refine bw (fun _=>?_) fun _=>?_
 refine ag 4 [0,1] w1 ?_
 repeat' first|refine aw ?_|refine bw (fun _=>?_) fun _=>?_
 refine ag 4 [0,1] hv ?_
 repeat' first|refine aw ?_|refine bw (fun _=>?_) fun _=>?_
 refine ag 4 [0,1,2,3] a1 ?_
 repeat' first|refine aw ?_|refine bw (fun _=>?_) fun _=>?_
 refine dO (fun ((d,k1,m):List Str×Nat×Nat)=>⟨[(0,.ptr 0 0),(1,V.func bR [] [V.ptr 3 0,V.ptr 2 0])],bu 0 (rdN l k1 ns++[.var [.ptr 0 0],.var [.d (.str f),.ref 4 0 0 (kW d).length,.d (I 0)],.arr 1 (kW d)]),5,[],4⟩)
  (fun (d,k1,m)=>((cG m (l.drop k1)).bind fun es r=>R.ok (d++es) r)=Rr/\m<=n/\k1<=l.length/\k<=k1/\d.length<=k1/\d≠[]) (fun (_,_,m)=>m) ([p],k+1+1,n) (by exact Uw.wW) ⟨hR,YN _,hlt3,by omega,by simp,by simp⟩ ?_
 clear hR h6 a1 w1 hv;rintro ⟨d,k1,m⟩ ⟨hR,hm,hk1,hk2,hd1,hd0⟩
 cases m with
 | zero=>rw [cG] at hR;exact absurd hR.symm hout
 | succ m=>
  rw [cG] at hR;have hv:=bK l k1 (ns.map bU) hk1 hl [44] (by simp);by_cases hs:hd (l.drop k1)=[44]
  ·have hlt:=eo hs (by simp)
   rw [if_pos hs,YX] at hR;rw [if_pos hs,decide_eq_true hs] at hv
   rcases eh l (k1+1) (ns.map bU) (by omega) hl with ⟨h0,h1⟩|⟨y,h0,hlt4,h1⟩
   ·rw [h0] at hR
    have hb:Ix l ns f Rr = .bad:=by rw [<- hR];rfl
    have a1:=Iw l (k1+1) ns f d h1;clear hR hout hs h0 h1 hd0
    repeat' first|refine aw ?_|refine bw (fun _=>?_) fun _=>?_
    refine ag 5 [0,1] hv ?_
    repeat' first|refine aw ?_|refine bw (fun _=>?_) fun _=>?_
    refine bk 5 [0,1,2,3,4] a1 ?_;intro h q
    repeat' first|refine aw ?_|refine bw (fun _=>?_) fun _=>?_
    exact mF (lY 4 hb rfl)
   ·rw [h0] at hR
    have hR:((cG m (l.drop (k1+1+1))).bind fun es r=>R.ok ((d++[y])++es) r)=Rr:=by
     rw [<- hR];show _=R.bind (R.bind (cG m (l.drop (k1+1+1))) _) _
     cases cG m (l.drop (k1+1+1)) with
     | ok es r=>show R.ok (d++[y]++es) r=R.ok (d++(y::es)) r;rw [Ze];rfl
     | bad=>rfl
     | out=>rfl
    have a1:=Iu l (k1+1) _ ns f y d (by omega) h1;have hd2:(d++[y])≠[]:=by simp
    clear hout hs h0 h1 hd0
    repeat' first|refine aw ?_|refine bw (fun _=>?_) fun _=>?_
    refine ag 5 [0,1] hv ?_
    repeat' first|refine aw ?_|refine bw (fun _=>?_) fun _=>?_
    refine ag 5 [0,1,2,3,4] a1 ?_
    repeat' first|refine aw ?_|refine bw (fun _=>?_) fun _=>?_
    exact cJ (d++[y],k1+1+1,m) ⟨hR,by omega,hlt4,by omega,by simp;omega,hd2⟩ (by simp only;omega) (by exact Uw.wW)
  ·rw [if_neg hs] at hR
   rw [if_neg hs,decide_eq_false hs] at hv;by_cases hw:hd (l.drop k1)=[41]
   ·have hlt:=eo hw (by simp)
    have w1:=aR l k1 (ns.map bU) hk1 hl [41] (by simp) hw;rw [want,if_pos hw,YX] at hR;have hR:R.ok (d++[]) (l.drop (k1+1))=Rr:=hR;rw [ZA] at hR;have hfz:((kW d).drop 0).take (kW d).length=kW d:=by simp
    have hb:Ix l ns f Rr = .ok (.tuple []) (rdN l (k1+1) ns++fnB f (.d (.slice 1 (kW d) false))):=by
     rw [<- hR];show Out.ok _ (rdN l (l.length - (l.drop (k1+1)).length) _++fnB f (.d (jQ d)))=_;rw [len_drop (by omega)];unfold jQ;rw [if_neg hd0]
    clear hR hout hs hw hd0
    repeat' first|refine aw ?_|refine bw (fun _=>?_) fun _=>?_
    refine ag 5 [0,1] hv ?_
    repeat' first|refine aw ?_|refine bw (fun _=>?_) fun _=>?_
    refine aA ?_;refine ag 5 [0,1] w1 ?_
    repeat' first|refine aw ?_|refine bw (fun _=>?_) fun _=>?_
    exact Sm 4 hb rfl rfl (by exact Uw.wW)
   ·have w1:=bh l k1 (ns.map bU) hk1 hl [41] (by simp) hw
    have hb:Ix l ns f Rr = .bad:=by
     rw [want,if_neg hw] at hR;rw [<- hR];rfl
    clear hR hout hs hw hd0
    repeat' first|refine aw ?_|refine bw (fun _=>?_) fun _=>?_
    refine ag 5 [0,1] hv ?_
    repeat' first|refine aw ?_|refine bw (fun _=>?_) fun _=>?_
    refine aA ?_;refine bk 5 [0,1] w1 ?_;intro h q
    repeat' first|refine aw ?_|refine bw (fun _=>?_) fun _=>?_
    exact lY 4 hb rfl
end Uw.Tryz
namespace Uw.Tryz
open Go Uw
theorem X0 {f:Str} {vs:List V} {g:FuncId} {l:List Tok} {k:Nat} {ns:List Nod} {bs:List Blk} {x:R (List Str)} (h:c6 g vs bs (Ix l ns f x)) (hk:k<=l.length) (hs:∀e r,x = .ok e r->Suf (l.drop k) r 0) :
  x = .out\/(x = .bad/\kH P0 g vs bs cZ)\/∃e k',x = .ok e (l.drop k')/\k'<=l.length/\k<=k'/\bm P0 g vs bs (.tuple []) (rdN l k' ns++fnB f (.d (jQ e))):=by
 cases x with
 | out=>exact .inl rfl
 | bad=>exact .inr (.inl ⟨rfl,h⟩)
 | ok e r=>
  obtain ⟨k',h1,rfl,h2⟩:=rX (hs e r rfl) hk;refine .inr (.inr ⟨e,k',rfl,h1,h2,?_⟩);have h:bm P0 g vs bs (.tuple []) (rdN l (l.length - (l.drop k').length) ns++fnB f (.d (jQ e))):=h;rw [len_drop h1] at h;exact h
theorem Mc {n:Nat} {r r' : List Tok} {x:List Str} (h:jE n r = .ok x r'):Suf r r' 0:=by
 rw [jE] at h;obtain ⟨_,r1,h1,h⟩:=bind_ok.1 h;have s1:=Suf.want (by simp) h1
 split at h
 ·rename_i hh
  injection h with _ h
  subst h;exact (s1.trans (Suf.hd hh (by simp))).le (ZP _)
 ·obtain ⟨s,r2,h2,h⟩:=bind_ok.1 h
  obtain ⟨ss,r3,h3,h⟩:=bind_ok.1 h;injection h with _ h
  subst h;exact (s1.trans ((Suf.name h2).trans (A6 n _ _ _ h3))).le (ZP _)
theorem WU (l:List Tok) (hl:l.length<1000000) (n:Nat) (k:Nat) (ns:List Nod) (hk:k<=l.length) (hn:ns.length<=k):c6 ji [.ptr 0 0] (rdN l k ns) (PO l ns (rf n (l.drop k))):=by
 rw [rf];by_cases h0:hd (l.drop k)=np
 rotate_left
 ·rw [want,if_neg h0]
  have w0:=bh l k (ns.map bU) hk hl np (by decide) h0;clear h0;refine aP df rfl ?_
  repeat' first|refine aw ?_|refine bw (fun _=>?_) fun _=>?_
  refine bk 4 [0,1] w0 ?_;intro H q
  repeat' first|refine aw ?_|refine bw (fun _=>?_) fun _=>?_
  exact aQ rfl
 have hlt:=eo h0 (by decide);have w0:=aR l k (ns.map bU) hk hl np (by decide) h0;rw [want,if_pos h0,YX];clear h0;show c6 _ _ _ (PO l ns ((eS (l.drop (k+1))).bind _))
 rcases eh l (k+1) (ns.map bU) hlt hl with ⟨h1,h2⟩|⟨f,h1,hlt1,h2⟩
 ·rw [h1]
  refine aP df rfl ?_
  repeat' first|refine aw ?_|refine bw (fun _=>?_) fun _=>?_
  refine ag 4 [0,1] w0 ?_
  repeat' first|refine aw ?_|refine bw (fun _=>?_) fun _=>?_
  refine bk 4 [0,1] h2 ?_;intro H q
  repeat' first|refine aw ?_|refine bw (fun _=>?_) fun _=>?_
  exact aQ rfl
 rw [h1];show c6 _ _ _ (PO l ns ((jE n (l.drop (k+1+1))).bind fun ar r=>(du n r).bind fun b r=>.ok ⟨f,ar,b⟩ r))
 rcases X0 (Ss l hl n (k+1+1) ns f hlt1 (by omega)) hlt1 (fun e r h=>Mc h) with h3|⟨h3,h4⟩|⟨ar,k2,h3,hk2,WS,h4⟩
 ·rw [h3];exact trivial
 ·rw [h3]
  refine aP df rfl ?_
  repeat' first|refine aw ?_|refine bw (fun _=>?_) fun _=>?_
  refine ag 4 [0,1] w0 ?_
  repeat' first|refine aw ?_|refine bw (fun _=>?_) fun _=>?_
  refine ag 4 [0,1] h2 ?_
  repeat' first|refine aw ?_|refine bw (fun _=>?_) fun _=>?_
  refine bk 5 [0,1,2,4] h4 ?_;intro H q
  repeat' first|refine aw ?_|refine bw (fun _=>?_) fun _=>?_
  exact aQ rfl
 rw [h3];show c6 _ _ _ (PO l ns ((du n (l.drop k2)).bind fun b r=>.ok ⟨f,ar,b⟩ r))
 rcases Si ((cs l hl n n (YN _)).block k2 ns hk2 (by omega)) hk2 (fun e r h=>(tr n).block _ _ _ h) with h5|⟨h5,h6⟩|⟨b,k3,h5,hk3,Ir,h6⟩
 ·rw [h5];exact trivial
 ·rw [h5]
  refine aP df rfl ?_
  repeat' first|refine aw ?_|refine bw (fun _=>?_) fun _=>?_
  refine ag 4 [0,1] w0 ?_
  repeat' first|refine aw ?_|refine bw (fun _=>?_) fun _=>?_
  refine ag 4 [0,1] h2 ?_
  repeat' first|refine aw ?_|refine bw (fun _=>?_) fun _=>?_
  refine ag 5 [0,1,2,4] h4 ?_
  repeat' first|refine aw ?_|refine bw (fun _=>?_) fun _=>?_
  refine bk 5 [0,1] h6 ?_;intro h q
  repeat' first|refine aw ?_|refine bw (fun _=>?_) fun _=>?_
  exact aQ rfl
 rw [h5];show bm _ _ _ _ (.agg [.d (.str f),.d (jQ ar),.d (I ((ns.length+b.sz:Nat)))]) (rdN l (l.length - (l.drop k3).length) (ns++b.all ns.length));rw [len_drop hk3];have hz:jQ ar = .nil\/jQ ar = .slice 1 (kW ar) false:=by
  unfold jQ
  split
  ·exact .inl rfl
  ·exact .inr rfl
 rcases hz with e|e
 all_goals rw [e] at h4 ⊢
 all_goals refine aJ df rfl ?_
 all_goals (repeat' first|refine aw ?_|refine bw (fun _=>?_) fun _=>?_)
 all_goals refine ag 4 [0,1] w0 ?_
 all_goals (repeat' first|refine aw ?_|refine bw (fun _=>?_) fun _=>?_)
 all_goals refine ag 4 [0,1] h2 ?_
 all_goals (repeat' first|refine aw ?_|refine bw (fun _=>?_) fun _=>?_)
 all_goals refine ag 5 [0,1,2,4] h4 ?_
 all_goals (repeat' first|refine aw ?_|refine bw (fun _=>?_) fun _=>?_)
 all_goals refine ag 5 [0,1] h6 ?_
 all_goals (repeat' first|refine aw ?_|refine bw (fun _=>?_) fun _=>?_)
 all_goals exact aI 2 rfl rfl (by exact Uw.wW)
end Uw.Tryz
namespace Uw.Tryz
open Go Uw
def gg:List Fn->Nat->List (List Dat)
 | [],_=>[]
 | f::fs,b=>[.str f.name,jQ f.args,I ((b+f.body.sz:Nat))]::gg fs (b+f.sz)
theorem DY:∀(a c:List Fn) (b:Nat),gg (a++c) b=gg a b++gg c (b+eO a)
 | [],c,b=>by simp [gg,eO]
 | f::fs,c,b=>by simp [gg,eO,DY fs,ZG]
theorem sH:∀(a:List Fn) (b:Nat),(gg a b).length=a.length
 | [],b=>rfl
 | f::fs,b=>by simp [gg,sH fs]
def PP (l:List Tok) (x:R (List Dec×List Fn)):Out:=
 match x with
 | .ok (ds,fs) _=>.ok (.agg [.d (.slice 3 (ds.map bM) false),.d (.slice 3 (gg fs 0) false),.d (.slice 5 ((bV fs 0).map bU) false)]) (rdN l l.length (bV fs 0))
 | .bad=>.bad
 | .out=>.out
theorem Sv {l:List Tok} {x:R (List Dec×List Fn)} (h:x≠R.out):PP l x≠Out.out:=by
 cases x with
 | out=>exact absurd rfl h
 | bad=>intro h;cases h
 | ok e r=>intro h;cases h
theorem X2 {f:FuncId} {vs:List V} {l:List Tok} {k:Nat} {ns:List Nod} {x:R Dec} (h:c6 f vs (rdN l k ns) (s6 l ns x)) (hk:k<=l.length) (hs:∀e r,x = .ok e r->Suf (l.drop k) r 1) :
  x = .out\/(x = .bad/\kH P0 f vs (rdN l k ns) cZ)\/∃e k',x = .ok e (l.drop k')/\k'<=l.length/\k+1<=k'/\bm P0 f vs (rdN l k ns) (Is e) (rdN l k' ns):=by
 cases x with
 | out=>exact .inl rfl
 | bad=>exact .inr (.inl ⟨rfl,h⟩)
 | ok e r=>
  obtain ⟨k',h1,rfl,h2⟩:=rX (hs e r rfl) hk;refine .inr (.inr ⟨e,k',rfl,h1,h2,?_⟩);have h:bm P0 f vs (rdN l k ns) (Is e) (rdN l (l.length - (l.drop k').length) ns):=h;rw [len_drop h1] at h;exact h
theorem X3 {f:FuncId} {vs:List V} {l:List Tok} {k:Nat} {ns:List Nod} {x:R Fn} (h:c6 f vs (rdN l k ns) (PO l ns x)) (hk:k<=l.length) (hs:∀e r,x = .ok e r->Suf (l.drop k) r (e.body.sz+1)) :
  x = .out\/(x = .bad/\kH P0 f vs (rdN l k ns) cZ)\/∃e k',x = .ok e (l.drop k')/\k'<=l.length/\k+(e.body.sz+1)<=k'/\bm P0 f vs (rdN l k ns) (.agg [.d (.str e.name),.d (jQ e.args),.d (I ((ns.length+e.body.sz:Nat)))]) (rdN l k' (ns++e.body.all ns.length)):=by
 cases x with
 | out=>exact .inl rfl
 | bad=>exact .inr (.inl ⟨rfl,h⟩)
 | ok e r=>
  obtain ⟨k',h1,rfl,h2⟩:=rX (hs e r rfl) hk;refine .inr (.inr ⟨e,k',rfl,h1,h2,?_⟩);have h:bm P0 f vs (rdN l k ns) (.agg [.d (.str e.name),.d (jQ e.args),.d (I ((ns.length+e.body.sz:Nat)))]) (rdN l (l.length - (l.drop k').length) (ns++e.body.all ns.length)):=h;rw [len_drop h1] at h;exact h
theorem Iy {α:Type} {d:Int} {p q:List Tok->R α} (hp:IsP d p q) (he:wK p) {r r' : List Tok} {a:α} (h:p r = .ok a r'):Suf r r' 1:=by
 obtain ⟨c,rfl⟩:=hp.pre _ _ _ h;have:=he _ _ _ h;simp at this;exact ⟨c.length,by simp,by simp,by cases c<;>simp at *⟩
theorem Sz {n:Nat} {r r' : List Tok} {f:Fn} (h:rf n r = .ok f r'):Suf r r' (f.body.sz+1):=by
 rw [rf] at h;obtain ⟨_,r1,h1,h⟩:=bind_ok.1 h;obtain ⟨s,r2,h2,h⟩:=bind_ok.1 h;obtain ⟨l,r3,h3,h⟩:=bind_ok.1 h;obtain ⟨b,r4,h4,h⟩:=bind_ok.1 h;injection h with h h'
 subst h h';have:Suf r2 r3 0:=by
  obtain ⟨c,rfl⟩:=(sx n).pre _ _ _ h3;exact ⟨c.length,by simp,by simp,ZP _⟩
 exact ((Suf.want (by decide) h1).trans ((Suf.name h2).trans (this.trans ((tr n).block _ _ _ h4)))).le (by simp only;omega)
theorem Vu (l:List Tok) (hl:l.length<1000000) (n:Nat):c6 eD [.ptr 0 0] (rdN l 0 []) (PP l (u9 n l)):=by
 rw [u9];generalize hR:((fE n l).bind fun d r=>(gw n r).bind fun f r=>R.ok (d,f) r)=Rr;by_cases hout:Rr = .out
 ·rw [hout];exact trivial
 have hR:((fE n (l.drop 0)).bind fun es r=>R.ok (([]:List Dec)++es) r).bind (fun d r=>(gw n r).bind fun f r=>R.ok (d,f) r)=Rr:=by
  rw [<- hR,Zf]
  cases fE n l<;>rfl
 refine sF oU rfl (Sv hout) ?_
 repeat' first|refine aw ?_|refine bw (fun _=>?_) fun _=>?_
 refine dO (fun ((ds,k,m):List Dec×Nat×Nat)=>⟨[(3,.ptr 3 0),(2,.ptr 2 0),(0,.ptr 0 0)],bu 0 (rdN l k []++[.var [.d .nil,.d .nil,.d .nil],.var [.ref 4 0 0 (ds.map bM).length,.d .nil,.d .nil],.arr 3 (ds.map bM)]),5,[],2⟩)
  (fun (ds,k,m)=>((fE m (l.drop k)).bind fun es r=>R.ok (ds++es) r).bind (fun d r=>(gw n r).bind fun f r=>R.ok (d,f) r)=Rr/\k<=l.length/\ds.length<=k) (fun (_,_,m)=>m) ([],0,n) (by exact Uw.wW) ⟨hR,ZP _,YN _⟩ ?_
 clear hR;rintro ⟨ds,k,m⟩ ⟨hR,hk,hds⟩;have hdl:(ds.map bM).length=ds.length:=by simp
 cases m with
 | zero=>rw [fE] at hR;exact absurd hR.symm hout
 | succ m=>
  have pk:=bO l k (([]:List Nod).map bU) hk;have e1:(l.map rb).length=l.length:=by simp
  by_cases hs:l.drop k=[]\/hd (l.drop k)=np
  ·rw [fE,if_pos hs] at hR
   have hR:((gw n (l.drop k)).bind fun es r=>R.ok (([]:List Fn)++es) r).bind (fun f r=>R.ok (ds,f) r)=Rr:=by
    rw [<- hR];show _=(gw n (l.drop k)).bind fun f r=>R.ok (ds++[],f) r;rw [ZA]
    cases gw n (l.drop k)<;>rfl
   have hcase:(k<l.length/\hd (l.drop k)=np)\/¬k<l.length:=by
    by_cases hk2:k<l.length
    ·exact .inl ⟨hk2,hs.resolve_left (by intro e;have:=congrArg List.length e;simp at this;omega)⟩
    ·exact .inr hk2
   clear hs
   rcases hcase with ⟨hk0,hs2⟩|hk0
   rotate_left
   repeat' first|refine aw ?_|refine bw (fun _=>?_) fun _=>?_
   refine aA ?_
   repeat' first|refine aw ?_|refine bw (fun _=>?_) fun _=>?_
   rotate_left;rw [hs2] at pk
   repeat' first|refine aw ?_|refine bw (fun _=>?_) fun _=>?_
   refine ag 5 [0,1] pk ?_
   repeat' first|refine aw ?_|refine bw (fun _=>?_) fun _=>?_
   refine aA ?_
   repeat' first|refine aw ?_|refine bw (fun _=>?_) fun _=>?_
   all_goals clear hk0
   all_goals
    refine dO (fun ((fs,k,m):List Fn×Nat×Nat)=>⟨[(3,.ptr 3 0),(2,.ptr 2 0),(0,.ptr 0 0)],bu 0 (rdN l k (bV fs 0)++[.var [.d .nil,.d .nil,.d .nil],.var [.ref 4 0 0 (ds.map bM).length,.ref 5 0 0 (gg fs 0).length,.d .nil],.arr 3 (ds.map bM),.arr 3 (gg fs 0)]),6,[],2⟩)
     (fun (fs,k,m)=>((gw m (l.drop k)).bind fun es r=>R.ok (fs++es) r).bind (fun f r=>R.ok (ds,f) r)=Rr/\k<=l.length/\fs.length+eO fs<=2 * k/\eO fs<=k) (fun (_,_,m)=>m) ([],k,n) (by exact Uw.wW) ⟨hR,hk,by simp [eO],by simp [eO]⟩ ?_
    clear hR;rintro ⟨fs,k,m⟩ ⟨hR,hk,hfs,hsz⟩;have hfl:(gg fs 0).length=fs.length:=sH fs 0;have hnl:(bV fs 0).length=eO fs:=mI fs 0
    cases m with
    | zero=>rw [gw] at hR;exact absurd hR.symm hout
    | succ m=>
     by_cases hk2:k<l.length
     ·rw [gw,if_neg (by intro e;have:=congrArg List.length e;simp at this;omega)] at hR
      rcases X3 (WU l hl m k (bV fs 0) hk (by omega)) hk (fun e r h=>Sz h) with h0|⟨h0,h1⟩|⟨f,k2,h0,hk3,Ir,h1⟩
      ·rw [h0] at hR;exact absurd hR.symm hout
      ·rw [h0] at hR
       have hb:PP l Rr = .bad:=by rw [<- hR];rfl
       clear hR hout h0
       repeat' first|refine aw ?_|refine bw (fun _=>?_) fun _=>?_
       refine oL ?_
       repeat' first|refine aw ?_|refine bw (fun _=>?_) fun _=>?_
       refine bk 6 [0,1] h1 ?_;intro H q
       repeat' first|refine aw ?_|refine bw (fun _=>?_) fun _=>?_
       refine bg ⟨cZ,rfl,?_⟩
       repeat' first|refine aw ?_|refine bw (fun _=>?_) fun _=>?_
       exact mF (lY 2 hb rfl)
      ·rw [h0] at hR
       have hR:((gw m (l.drop k2)).bind fun es r=>R.ok ((fs++[f])++es) r).bind (fun f r=>R.ok (ds,f) r)=Rr:=by
        rw [<- hR];show _=R.bind (R.bind (R.bind (gw m (l.drop k2)) _) _) _
        cases gw m (l.drop k2) with
        | ok es r=>show R.bind (R.ok (fs++[f]++es) r) _=R.bind (R.ok (fs++(f::es)) r) _;rw [Ze];rfl
        | bad=>rfl
        | out=>rfl
       have hsf:eO (fs++[f])=eO fs+(f.body.sz+1):=by rw [DF];simp [eO,Fn.sz]
       have hnn:bV fs 0++f.body.all (bV fs 0).length=bV (fs++[f]) 0:=by rw [zJ,hnl];simp [bV]
       have hff:gg fs 0++[[.str f.name,jQ f.args,I (((bV fs 0).length+f.body.sz:Nat))]]=gg (fs++[f]) 0:=by rw [DY,hnl];simp [gg]
       have hfn:(gg fs 0).length+1=(gg (fs++[f]) 0).length:=by rw [sH,sH];simp
       rw [hnn] at h1;have hz:jQ f.args = .nil\/jQ f.args = .slice 1 (kW f.args) false:=by
        unfold jQ
        split
        ·exact .inl rfl
        ·exact .inr rfl
       clear hout h0 hnn
       rcases hz with e|e
       all_goals rw [e] at h1 hff
       all_goals (repeat' first|refine aw ?_|refine bw (fun _=>?_) fun _=>?_)
       all_goals refine b9 ⟨[(3,.ptr 3 0),(2,.ptr 2 0),(0,.ptr 0 0)],bu 0 (rdN l k2 (bV (fs++[f]) 0)++[.var [.d .nil,.d .nil,.d .nil],.var [.ref 4 0 0 (ds.map bM).length,.ref 5 0 0 (gg (fs++[f]) 0).length,.d .nil],.arr 3 (ds.map bM),.arr 3 (gg (fs++[f]) 0)]),6,[],2⟩ ?_ ?_
       any_goals
        repeat' first|refine aw ?_|refine bw (fun _=>?_) fun _=>?_
        refine ag 6 [0,1] h1 ?_
        repeat' first|refine aw ?_|refine bw (fun _=>?_) fun _=>?_
        exact bg (.inl ⟨rfl,by exact Uw.wW⟩)
       all_goals (repeat' first|refine aw ?_|refine bw (fun _=>?_) fun _=>?_)
       all_goals exact cJ (fs++[f],k2,m) ⟨hR,hk3,by rw [hsf];simp;omega,by omega⟩ (by simp only;omega) (by exact Uw.wW)
     ·rw [Zu (by omega),gw,if_pos rfl] at hR
      have hR:R.ok (ds,fs++[]) []=Rr:=hR;rw [ZA] at hR;have hkl:k=l.length:=by omega
      have hb:PP l Rr = .ok (.agg [.d (.slice 3 (ds.map bM) false),.d (.slice 3 (gg fs 0) false),.d (.slice 5 ((bV fs 0).map bU) false)]) (rdN l l.length (bV fs 0)):=by rw [<- hR];rfl
      have z1:((ds.map bM).drop 0).take (ds.map bM).length=ds.map bM:=by rw [Zf,YW]
      have z2:((gg fs 0).drop 0).take (gg fs 0).length=gg fs 0:=by rw [Zf,YW]
      have z3:(((bV fs 0).map bU).drop 0).take ((bV fs 0).map bU).length=(bV fs 0).map bU:=by rw [Zf,YW]
      clear hR hout;subst hkl
      repeat' first|refine aw ?_|refine bw (fun _=>?_) fun _=>?_
      refine aA ?_
      repeat' first|refine aw ?_|refine bw (fun _=>?_) fun _=>?_
      exact vV 2 hb rfl rfl (by exact Uw.wW)
  ·rw [fE,if_neg hs] at hR
   have hk2:k<l.length:=by
    rcases Zg k l.length with h|h
    ·exact h
    ·exact absurd (.inl (Zu h)) hs
   have hs2:hd (l.drop k)≠np:=fun h=>hs (.inr h);clear hs;unfold np at hs2
   rcases X2 (Vt l hl k [] hk) hk (fun e r h=>Iy OE sy h) with h0|⟨h0,h1⟩|⟨d,k2,h0,hk3,Ir,h1⟩
   ·exact absurd h0 (KC _)
   ·rw [h0] at hR
    have hb:PP l Rr = .bad:=by rw [<- hR];rfl
    clear hR hout h0
    repeat' first|refine aw ?_|refine bw (fun _=>?_) fun _=>?_
    refine ag 5 [0,1] pk ?_
    repeat' first|refine aw ?_|refine bw (fun _=>?_) fun _=>?_
    refine oL ?_
    repeat' first|refine aw ?_|refine bw (fun _=>?_) fun _=>?_
    refine bk 5 [0,1] h1 ?_;intro H q
    repeat' first|refine aw ?_|refine bw (fun _=>?_) fun _=>?_
    refine bg ⟨cZ,rfl,?_⟩
    repeat' first|refine aw ?_|refine bw (fun _=>?_) fun _=>?_
    exact mF (lY 2 hb rfl)
   ·rw [h0] at hR
    have hR:((fE m (l.drop k2)).bind fun es r=>R.ok ((ds++[d])++es) r).bind (fun d r=>(gw n r).bind fun f r=>R.ok (d,f) r)=Rr:=by
     rw [<- hR];show _=R.bind (R.bind (R.bind (fE m (l.drop k2)) _) _) _
     cases fE m (l.drop k2) with
     | ok es r=>show R.bind (R.ok (ds++[d]++es) r) _=R.bind (R.ok (ds++(d::es)) r) _;rw [Ze];rfl
     | bad=>rfl
     | out=>rfl
    have hdr:ds.map bM++[bM d]=(ds++[d]).map bM:=by simp
    have hdn:(ds.map bM).length+1=((ds++[d]).map bM).length:=by simp
    clear hout h0
    repeat' first|refine aw ?_|refine bw (fun _=>?_) fun _=>?_
    refine ag 5 [0,1] pk ?_
    repeat' first|refine aw ?_|refine bw (fun _=>?_) fun _=>?_
    refine b9 ⟨[(3,.ptr 3 0),(2,.ptr 2 0),(0,.ptr 0 0)],bu 0 (rdN l k2 []++[.var [.d .nil,.d .nil,.d .nil],.var [.ref 4 0 0 ((ds++[d]).map bM).length,.d .nil,.d .nil],.arr 3 ((ds++[d]).map bM)]),5,[],2⟩ ?_ ?_
    ·repeat' first|refine aw ?_|refine bw (fun _=>?_) fun _=>?_
     refine ag 5 [0,1] h1 ?_
     repeat' first|refine aw ?_|refine bw (fun _=>?_) fun _=>?_
     exact bg (.inl ⟨rfl,by exact Uw.wW⟩)
    ·repeat' first|refine aw ?_|refine bw (fun _=>?_) fun _=>?_
     exact cJ (ds++[d],k2,m) ⟨hR,hk3,by simp;omega⟩ (by simp only;omega) (by exact Uw.wW)
end Uw.Tryz
namespace Uw.Tryz
open Go Uw
theorem Iz (s:Str):(s=[40]/\delta s=1)\/(s≠[40]/\s=[123]/\delta s=1)\/(s≠[40]/\s≠[123]/\s=[41]/\delta s = -1)\/(s≠[40]/\s≠[123]/\s≠[41]/\s=[125]/\delta s = -1)\/(s≠[40]/\s≠[123]/\s≠[41]/\s≠[125]/\delta s=0):=by
 unfold delta;by_cases h1:s=[40]
 ·subst h1;exact .inl ⟨rfl,by decide⟩
 ·by_cases h2:s=[123]
  ·subst h2;exact .inr (.inl ⟨h1,rfl,by decide⟩)
  ·by_cases h3:s=[41]
   ·subst h3;exact .inr (.inr (.inl ⟨h1,h2,rfl,by decide⟩))
   ·by_cases h4:s=[125]
    ·subst h4;exact .inr (.inr (.inr (.inl ⟨h1,h2,h3,rfl,by decide⟩)))
    ·exact .inr (.inr (.inr (.inr ⟨h1,h2,h3,h4,by simp [h1,h2,h3,h4]⟩)))
theorem PR (a b:Int):max a b=mmI true a b:=rfl
theorem DZ (a b:Int):a<=mmI true a b/\b<=mmI true a b/\(mmI true a b=a\/mmI true a b=b):=by
 rw [<- PR];omega
theorem ov (l:List Tok) (hl:l.length<1000000):Ret P0 tz [u7 l] (I (mJ l 0 0)):=by
 have hm:(l.map rb).length=l.length:=by simp
 generalize hD:mJ l 0 0=D;refine aF zN rfl ?_
 repeat' first|refine aw ?_|refine bw (fun _=>?_) fun _=>?_
 refine dO (fun ((j,d,m):Nat×Int×Int)=>⟨[(9,.d (I j)),(8,.d (I (↑(List.map rb l).length))),(7,.d (u7 l)),(4,.d (I m)),(3,.d (I d))],[],0,[],0⟩)
  (fun (j,d,m)=>j<=l.length/\mJ (l.drop j) d m=D/\- (j:Int)<=d/\d<=j/\0<=m/\m<=j) (fun (j,_,_)=>l.length - j) (0,0,0) (by exact Uw.wW) ⟨ZP _,hD,by simp,by simp,by simp,by simp⟩ ?_
 clear hD;rintro ⟨j,d,m⟩ ⟨hj,hD,h1,h2,h3,h4⟩;by_cases h:j<l.length
 ·rw [Zo h,mJ] at hD
  generalize hx:l[j]=x at *;obtain ⟨k,s,n,a⟩:=x;have he:(l.map rb)[((j:Int)).toNat]? = some [I k,.str s,I n,I a]:=by
   rw [show ((j:Int)).toNat=j by omega,EF _ _ _ h,hx];rfl
  have hD:mJ (l.drop (j+1)) (d+delta s) (max m (d+delta s))=D:=hD
  rcases Iz s with ⟨e1,e2⟩|⟨e0,e1,e2⟩|⟨e0,e3,e1,e2⟩|⟨e0,e3,e4,e1,e2⟩|⟨e0,e3,e4,e5,e2⟩
  all_goals rw [e2,PR] at hD
  all_goals try rw [show d + -1=d - 1 by omega] at hD
  all_goals try rw [Int.add_zero] at hD
  all_goals (repeat' first|refine aw ?_|refine bw (fun _=>?_) fun _=>?_)
  all_goals first|exact cJ (j+1,_,_) ⟨by omega,hD,by omega,by omega,by have:=DZ m (d+1);have:=DZ m (d - 1);have:=DZ m d;omega,by have:=DZ m (d+1);have:=DZ m (d - 1);have:=DZ m d;omega⟩ (by simp only;omega) (by exact Uw.wW)
 ·rw [Zu (by omega),mJ] at hD
  subst hD
  repeat' first|refine aw ?_|refine bw (fun _=>?_) fun _=>?_
  refine aA ?_
  repeat' first|refine aw ?_|refine bw (fun _=>?_) fun _=>?_
  exact al rfl rfl rfl rfl rfl
end Uw.Tryz
namespace Uw.Tryz
open Go Uw
end Uw.Tryz
namespace Uw.Tryz
open Go Uw
def endOf (r:List UInt8):Nat:=
 match r with
 | []=>0
 | c::t=>if cls c=5 then (if c.toNat=61/\eqq t=true then 2 else 1)
  else if cls c=1 then 1+(t.takeWhile nameB).length else 1+(t.takeWhile fC).length
theorem m2 (c:UInt8) (t:List UInt8) (h:cls c=5):endOf (c::t)=if c.toNat=61/\eqq t=true then 2 else 1:=by
 rw [endOf,if_pos h]
theorem vY {α:Type} (p:α->Bool) (l:List α) (k:Nat) (h:k<=l.length) (h1:∀(j:Nat) (hj:j<l.length),j<k->p l[j]=true) (h2:∀b,l[k]? = some b->p b=false):(l.takeWhile p).length=k:=by
 have e:l=l.take k++l.drop k:=by simp
 have h1' : ∀a∈l.take k,p a=true:=by
  intro a ha;rw [abt] at ha;obtain ⟨j,hj,rfl⟩:=ha;exact h1 j (by omega) (by omega)
 rw [e,List.takeWhile_append_of_pos h1'];have:(l.drop k).takeWhile p=[]:=by
  cases hd:l.drop k with
  | nil=>rfl
  | cons b r=>
   have hb:l[k]? = some b:=by
    have:=congrArg (fun l=>l[0]?) hd;simpa using this
   rw [Zr,h2 b hb];rfl
 rw [this];simp;omega
end Uw.Tryz
namespace Uw.Tryz
open Go Uw
theorem uG {b:UInt8} (h:fC b=true):48<=b.toNat/\b.toNat<=57:=by
 simp only [fC,decide_eq_true_eq] at h;unfold cls at h
 repeat' split at h
 all_goals first|omega|cases h
def yC (w:List UInt8):Int:=if 10<w.length\/(w.head? = some 48/\1<w.length) then -1 else if 4294967296<=qB w then -1 else ((qB w:Nat):Int)
theorem K4 (w:List UInt8) (h:0<w.length):(w.head? = some 48)<->w[0].toNat=48:=by
 cases w with
 | nil=>simp at h
 | cons b r=>
  simp only [List.head?_cons,Zc,Z6];constructor
  ·intro e;rw [e];rfl
  ·intro e;exact abm.1 e
end Uw.Tryz
namespace Uw.Tryz
open Go Uw
theorem kX (c:UInt8) (t:List UInt8) (h:cls c=1):bQ (c::t)=if endOf (c::t)<=12 then some (1,endOf (c::t),0) else none:=by
 have e:endOf (c::t)=1+(t.takeWhile nameB).length:=by simp [endOf,h]
 rw [bQ,if_pos h,e]
theorem kY (c:UInt8) (t:List UInt8) (h:cls c=5):bQ (c::t)=some (3,endOf (c::t),0):=by
 rw [bQ,if_neg (by omega),if_neg (by omega),if_pos h,m2 c t h]
 split<;>rfl
theorem iy (c:UInt8) (t:List UInt8) (h:cls c≠1) (h2:cls c≠2) (h3:cls c≠5):bQ (c::t)=none:=by
 rw [bQ,if_neg h,if_neg h2,if_neg h3]
theorem xp (c:UInt8) (t:List UInt8) (h:cls c=2):endOf (c::t)=1+(t.takeWhile fC).length:=by simp [endOf,h]
theorem rZ {α:Type} (p:α->Bool):∀(l:List α),l.drop (l.takeWhile p).length=l.dropWhile p
 | []=>rfl
 | y::r=>by
  rw [Zr,List.dropWhile_cons]
  split
  ·rw [YR,aa5,rZ p r]
  ·rfl
theorem take_takeWhile {α:Type} (p:α->Bool):∀(l:List α),l.take (l.takeWhile p).length=l.takeWhile p
 | []=>rfl
 | y::r=>by
  rw [Zr]
  split
  ·rw [YR,ZE,take_takeWhile p r]
  ·rfl
theorem vZ (c:UInt8) (t:List UInt8) (h:cls c=2):(c::t).take (endOf (c::t))=c::t.takeWhile fC:=by
 rw [xp c t h,aap,ZE,take_takeWhile]
theorem PT (c:UInt8) (t:List UInt8) (h:cls c=2):(c::t).drop (endOf (c::t))=t.dropWhile fC:=by
 rw [xp c t h,aap,aa5,rZ]
theorem all_takeWhile {α:Type} (p:α->Bool) (l:List α):(l.takeWhile p).all p=true:=by
 induction l with
 | nil=>rfl
 | cons y r ih=>
  rw [Zr]
  split
  ·rename_i h;simp [h]
  ·rfl
theorem K5 (c:UInt8) (t:List UInt8) (h:cls c=2):((c::t).take (endOf (c::t))).all fC=true:=by
 rw [vZ c t h,aaJ,all_takeWhile];simp [fC,h]
theorem m3 (c:UInt8) (t:List UInt8) (h:cls c=2):bQ (c::t)=if 0<=yC ((c::t).take (endOf (c::t)))/\Hr ((c::t).drop (endOf (c::t)))=false then some (2,endOf (c::t),yC ((c::t).take (endOf (c::t)))) else none:=by
 rw [bQ,if_neg (by omega),if_pos h,vZ c t h,PT c t h,xp c t h];have hc:(c.toNat=48)<->((c::t.takeWhile fC).head? = some 48):=by rw [K4 _ (by simp)];rfl
 have n1:(10<(t.takeWhile fC).length+1\/c.toNat=48/\1<(t.takeWhile fC).length+1)->yC (c::t.takeWhile fC) = -1:=fun h=>by
  rw [yC,if_pos (by rw [<- hc];exact h)]
 have n2:¬(10<(t.takeWhile fC).length+1\/c.toNat=48/\1<(t.takeWhile fC).length+1)->yC (c::t.takeWhile fC)=if 4294967296<=qB (c::t.takeWhile fC) then -1 else ((qB (c::t.takeWhile fC):Nat):Int):=fun h=>by
  rw [yC,if_neg (by rw [<- hc];exact h)]
 generalize yC (c::t.takeWhile fC)=R at n1 n2;by_cases h1:1+(t.takeWhile fC).length<=10/\¬(1<1+(t.takeWhile fC).length/\c.toNat=48)
 ·have n2:=n2 (by omega)
  by_cases h2:qB (c::t.takeWhile fC)<4294967296
  ·rw [if_neg (by omega)] at n2
   by_cases h3:Hr (t.dropWhile fC)=false
   ·rw [if_pos ⟨h1.1,h1.2,h2,h3⟩,if_pos ⟨by omega,h3⟩,n2]
   ·rw [if_neg (fun h=>h3 h.2.2.2),if_neg (fun h=>h3 h.2)]
  ·rw [if_pos (by omega)] at n2
   rw [if_neg (fun h=>h2 h.2.2.1),if_neg (fun h=>by have:=h.1;omega)]
 ·have n1:=n1 (by omega)
  rw [if_neg (fun h=>h1 ⟨h.1,h.2.1⟩),if_neg (fun h=>by have:=h.1;omega)]
theorem IA (c:UInt8) (t:List UInt8):1<=endOf (c::t)/\endOf (c::t)<=t.length+1:=by
 have h1:=lS nameB t;have h2:=lS fC t;rw [endOf]
 split
 ·split
  ·rename_i h
   cases t with
   | nil=>simp [eqq] at h
   | cons b r=>simp
  ·omega
 ·split<;>omega
def Read (s:List UInt8) (a:Nat) (out:List Tok):Prop:=oP s 0=(oP (s.drop a) (a:Int)).map (out++·)
theorem Read.init (s:List UInt8):Read s 0 []:=by
 rw [Read,Zf];simp
theorem Read.blank {s:List UInt8} {a:Nat} {out:List Tok} (h:Read s a out) (ha:a<s.length) (hb:cls s[a]=4):Read s (a+1) out:=by
 rw [Read,Zo ha,Jh _ _ _ hb] at h;rw [Read,h];rfl
theorem Read.none {s:List UInt8} {a:Nat} {out:List Tok} (h:Read s a out) (ha:a<s.length) (hb:cls s[a]≠4) (ht:bQ (s.drop a)=none):oP s 0=none:=by
 rw [Read] at h;rw [h];rw [Zo ha] at ht ⊢;rw [LK _ _ _ hb ht];rfl
theorem Read.tok {s:List UInt8} {a:Nat} {out:List Tok} (h:Read s a out) (ha:a<s.length) (hb:cls s[a]≠4) {k:Int} {n:Nat} {v:Int} (ht:bQ (s.drop a)=some (k,n,v)) :
  Read s (a+n) (out++[⟨k,(s.drop a).take n,v,a⟩]):=by
 rw [Read,h];rw [Zo ha] at ht ⊢;rw [OA _ _ _ hb ht,<- Zo ha,aag];rw [show ((a:Int)+(n:Int))=((a+n:Nat):Int) by omega]
 cases oP (s.drop (a+n)) ((a+n:Nat):Int) with
 | none=>rfl
 | some l=>simp
theorem Read.end {s:List UInt8} {a:Nat} {out:List Tok} (h:Read s a out) (ha:s.length<=a):oP s 0=some out:=by
 rw [Read] at h;rw [h,Zu ha,Oz];simp
def B8 (s:List UInt8):Dat:=if 4000<s.length then .tuple [.nil,I 2] else match oP s 0 with|none=>.tuple [.nil,I 3]|some l=>.tuple [u7 l,I 0]
theorem SA (s:List UInt8):DLe (B8 s) (OB (fD s)):=by
 rw [B8,fD];by_cases h:4000<s.length
 ·rw [if_pos h,if_pos h];exact .tuple (.cons (.nil 4) (.refl _))
 ·rw [if_neg h,if_neg h]
  cases oP s 0 with
  | none=>exact .tuple (.cons (.nil 4) (.refl _))
  | some l=>exact .refl _
theorem SB {s:List UInt8} {a n:Nat} (h:a+n<=s.length):((s.drop a).take n).length=n:=by simp;omega
end Uw.Tryz
namespace Uw.Tryz
open Go Uw
def s7 (r:Int):Bool:=decide ((97<=r/\r<=122)\/(65<=r/\r<=90))
def xq (r:Int):Bool:=decide (48<=r/\r<=57)
def A7 (r:Int):Bool:=decide (r=9\/r=10\/r=32)
theorem qe (r:Int):Ret P0 lT [.int .i32 r] (.bool (s7 r)):=by
 refine aF tI rfl ?_
 repeat' first|refine aw ?_|refine bw (fun _=>?_) fun _=>?_
 all_goals
  refine al (P:=P0) rfl rfl rfl rfl ?_;exact congrArg Dat.bool (ZF.2 (by simp only [decide_eq_true_eq,Zj,s7,xq,A7,eq_self,true_iff,Y9,false_iff];omega))
theorem yb (r:Int):Ret P0 nI [.int .i32 r] (.bool (xq r)):=by
 refine aF vx rfl ?_
 repeat' first|refine aw ?_|refine bw (fun _=>?_) fun _=>?_
 all_goals
  refine al (P:=P0) rfl rfl rfl rfl ?_;exact congrArg Dat.bool (ZF.2 (by simp only [decide_eq_true_eq,Zj,s7,xq,A7,eq_self,true_iff,Y9,false_iff];omega))
theorem IB (r:Int):Ret P0 xT [.int .i32 r] (.bool (A7 r)):=by
 refine aF E6 rfl ?_
 repeat' first|refine aw ?_|refine bw (fun _=>?_) fun _=>?_
 all_goals
  refine al (P:=P0) rfl rfl rfl rfl ?_;exact congrArg Dat.bool (ZF.2 (by simp only [decide_eq_true_eq,Zj,s7,xq,A7,eq_self,true_iff,Y9,false_iff];omega))
theorem Gn (r:Int):Ret P0 lU [.int .i32 r] (.bool (s7 r||xq r||decide (r=95))):=by
 have h1:=qe r;have h2:=yb r;refine aF tJ rfl ?_
 repeat' first|refine aw ?_|refine bw (fun _=>?_) fun _=>?_
 all_goals
  refine al (P:=P0) rfl rfl rfl rfl ?_;exact congrArg Dat.bool (ZF.2 (by simp only [decide_eq_true_eq,Zj,s7,xq,A7,eq_self,true_iff,Y9,false_iff];omega))
theorem A8 (r:Int):Ret P0 jL [.int .i32 r] (.bool (s7 r||decide (r=95))):=by
 have h1:=qe r;refine aF qz rfl ?_
 repeat' first|refine aw ?_|refine bw (fun _=>?_) fun _=>?_
 all_goals
  refine al (P:=P0) rfl rfl rfl rfl ?_;exact congrArg Dat.bool (ZF.2 (by simp only [decide_eq_true_eq,Zj,s7,xq,A7,eq_self,true_iff,Y9,false_iff];omega))
theorem qf (f:FuncId) (p:Int->Bool) (hb:nh P0 f) (hf:∀r,Ret P0 f [.int .i32 r] (.bool (p r))) (hp:∀r,128<=r->p r=false) (s:List UInt8) (hs:s.length<1000000):Ret P0 kh [.str s,.func f] (I ((s.takeWhile (fun b=>p (b.toNat:Int))).length:Nat)):=by
 refine aF HI rfl ?_
 repeat' first|refine aw ?_|refine bw (fun _=>?_) fun _=>?_
 refine dO (fun k:Nat=>⟨[(8,.hnd 0),(0,.d (.str s)),(1,.d (.func f))],[(0,.iter s k)],1,[],0⟩)
  (fun k=>k<=s.length/\∀(i:Nat) (hi:i<s.length),i<k->p (s[i].toNat:Int)=true) (fun k=>s.length - k) 0 (by exact Uw.wW) ⟨by omega,by intros;omega⟩ ?_
 rintro k ⟨h1,h2⟩;by_cases hk:k<s.length
 ·have hk' : s[k]? = some s[k]:=by simp [hk]
  have stop:p (s[k].toNat:Int)=false->(s.takeWhile (fun b=>p (b.toNat:Int))).length=k:=fun h=>vY _ s k h1 h2 (fun b hb=>by rw [hk'] at hb;injection hb with hb;rw [<- hb];exact h);by_cases hlow:s[k].toNat<128
  ·have hr:=ub s k s[k] hk' hlow
   have hr1:((bP s k).1:Int)=s[k].toNat:=by rw [hr]
   have hr2:(bP s k).2=1:=by rw [hr]
   have hfr:=hf ((bP s k).1:Int);rw [show p ((bP s k).1:Int)=p (s[k].toNat:Int) by rw [hr1]] at hfr;have hk1:k+(bP s k).2=k+1:=by rw [hr2]
   clear hr hr1
   cases hpk:p (s[k].toNat:Int) with
   | false=>
    rw [hpk] at hfr;have hst:=stop hpk;clear stop h2
    repeat' first|refine aw ?_|refine bw (fun _=>?_) fun _=>?_
    refine ij _ hb rfl hfr ?_
    repeat' first|refine aw ?_|refine bw (fun _=>?_) fun _=>?_
    exact al (P:=P0) rfl rfl rfl rfl (by rw [hst];rfl)
   | true=>
    rw [hpk] at hfr;have h3:∀(i:Nat) (hi:i<s.length),i<k+(bP s k).2->p (s[i].toNat:Int)=true:=by
     intro i hi hik;by_cases e:i=k
     ·subst e;exact hpk
     ·exact h2 i hi (by omega)
    clear stop h2
    repeat' first|refine aw ?_|refine bw (fun _=>?_) fun _=>?_
    refine ij _ hb rfl hfr ?_
    repeat' first|refine aw ?_|refine bw (fun _=>?_) fun _=>?_
    exact cJ (k+(bP s k).2) ⟨by omega,h3⟩ (by omega) (by exact Uw.wW)
  ·obtain ⟨a1,a2,a3,a4,a5⟩:=xK s k s[k] hk' (by omega)
   have hfr:=hf ((bP s k).1:Int);rw [hp _ (by omega)] at hfr;have hst:=stop (hp _ (by omega));clear stop h2 a5
   repeat' first|refine aw ?_|refine bw (fun _=>?_) fun _=>?_
   refine ij _ hb rfl hfr ?_
   repeat' first|refine aw ?_|refine bw (fun _=>?_) fun _=>?_
   exact al (P:=P0) rfl rfl rfl rfl (by rw [hst];rfl)
 ·have hst:(s.takeWhile (fun b=>p (b.toNat:Int))).length=s.length:=by
   have e:k=s.length:=by omega
   exact vY _ s s.length (YN _) (fun j hj _=>h2 j hj (by omega)) (fun b hb=>by rw [YY (YN _)] at hb;cases hb)
  clear h2
  repeat' first|refine aw ?_|refine bw (fun _=>?_) fun _=>?_
  exact al (P:=P0) rfl rfl rfl rfl (by rw [hst];rfl)
end Uw.Tryz
namespace Uw.Tryz
open Go Uw Go.Proofs Go.RowKit
theorem yc:∀(l:List UInt8) (n:Nat),l.all fC=true->Lib.decFrom n l=some (l.foldl (fun n b=>10 * n+(b.toNat - 48)) n)
 | [],n,_=>rfl
 | b::r,n,h=>by
  rw [aaJ,YL] at h;have hb:=uG h.1;rw [Lib.decFrom,Lib.digitVal,if_pos hb];simp only;rw [yc r _ h.2,Z5,Nat.mul_comm]
theorem PU (l:List UInt8) (h0:l≠[]) (h:l.all fC=true):Lib.atoi l=some (qB l:Nat):=by
 cases l with
 | nil=>exact absurd rfl h0
 | cons b r=>
  have hb:=uG (by rw [aaJ,YL] at h;exact h.1);have h1:(b == 45)=false:=by
   rw [beq_eq_false_iff_ne];intro e;subst e;simp at hb
  have h2:(b == 43)=false:=by
   rw [beq_eq_false_iff_ne];intro e;subst e;simp at hb
  rw [Lib.atoi,h1,h2];simp only [Y9,if_false];rw [Lib.decNat,yc _ _ h];rfl
theorem Ba (l:List UInt8) (h0:l≠[]) (h:l.all fC=true) (hl:l.length<=18):Ret P0 zL [.str l] (.tuple [I (qB l:Nat),.nilIface]):=by
 intro w J vs hG hr;obtain ⟨v,vs',rfl,hv,hr⟩:=hr;simp only [aS] at hr;subst hr;simp only [aK] at hv;subst hv;refine (Tryz.strconv_Atoi ⟨l.toArray⟩ (qB l:Nat) (by simpa [ByteArray.size] using hl) (by simpa using PU l h0 h) w).mono ?_;rintro e w' ⟨rfl,t,rfl⟩;exact ⟨_,rfl,⟨[_,_],rfl,⟨_,_,rfl,rfl,⟨_,_,rfl,rfl,rfl⟩⟩⟩,Lib.bytesWorld_below _ _ _⟩
theorem s9 (s p:List UInt8):Ret P0 sL [.str s,.str p] (.bool (Lib.hasPrefix s p)):=by
 intro w J vs hG hr;obtain ⟨v,vs',rfl,hv,u,vs'',rfl,hu,hr⟩:=hr;simp only [aS] at hr;subst hr;simp only [aK] at hv hu;subst hv hu;refine (Tryz.strings_HasPrefix ⟨s.toArray⟩ ⟨p.toArray⟩ w).mono ?_;rintro e w' ⟨rfl,rfl⟩;exact ⟨_,rfl,rfl,Below.refl _ _⟩
theorem tf (s:List UInt8) (c:UInt8):Ret P0 sM [.str s,.int .u8 (c.toNat:Int)] (I (Lib.indexByte s c)):=by
 intro w J vs hG hr;obtain ⟨v,vs',rfl,hv,u,vs'',rfl,hu,hr⟩:=hr;simp only [aS] at hr;subst hr;simp only [aK] at hv hu;subst hv hu;refine (Tryz.strings_IndexByte ⟨s.toArray⟩ (c.toNat:Int) w).mono ?_;rintro e w' ⟨rfl,rfl⟩;refine ⟨_,rfl,?_,Below.refl _ _⟩;simp [aK]
theorem yd (l:List UInt8) (h0:l≠[]) (h:l.all fC=true) (hl:l.length<=18):Ret P0 xU [.str l] (I (qB l:Nat)):=by
 have ha:=Ba l h0 h hl;clear h h0;refine aF Fq rfl ?_
 repeat' first|refine aw ?_|refine bw (fun _=>?_) fun _=>?_
 exact al (P:=P0) rfl rfl rfl rfl rfl
end Uw.Tryz
namespace Uw.Tryz
open Go Uw Go.Proofs Go.RowKit
theorem Bc (b:UInt8):s7 (b.toNat:Int)=decide (cls b=1):=by
 refine ZF.2 ?_;simp only [s7,decide_eq_true_eq];unfold cls;constructor
 ·intro h;rw [if_pos (by omega)]
 ·intro h
  split at h
  ·omega
  ·repeat' split at h
   all_goals omega
theorem IC (b:UInt8):xq (b.toNat:Int)=decide (cls b=2):=by
 refine ZF.2 ?_;simp only [xq,decide_eq_true_eq];unfold cls;constructor
 ·intro h;rw [if_neg (by omega),if_pos (by omega)]
 ·intro h
  repeat' split at h
  all_goals omega
theorem K6 (b:UInt8):decide ((b.toNat:Int)=95)=decide (cls b=3):=by
 refine ZF.2 ?_;simp only [decide_eq_true_eq];unfold cls;constructor
 ·intro h;rw [if_neg (by omega),if_neg (by omega),if_pos (by omega)]
 ·intro h
  repeat' split at h
  all_goals omega
theorem PV (b:UInt8):A7 (b.toNat:Int)=decide (cls b=4):=by
 refine ZF.2 ?_;simp only [A7,decide_eq_true_eq];unfold cls;constructor
 ·intro h;rw [if_neg (by omega),if_neg (by omega),if_neg (by omega),if_pos (by omega)]
 ·intro h
  repeat' split at h
  all_goals omega
theorem Md (s:List UInt8) (hs:s.length<1000000):Ret P0 kh [.str s,.func lT] (I ((s.takeWhile (fun b=>decide (cls b=1))).length:Nat)):=by
 have:=qf lT s7 tI.body qe (fun r hr=>by simp [s7];omega) s hs;simpa only [Bc] using this
theorem PW (s:List UInt8) (hs:s.length<1000000):Ret P0 kh [.str s,.func nI] (I ((s.takeWhile fC).length:Nat)):=by
 have:=qf nI xq vx.body yb (fun r hr=>by simp [xq];omega) s hs;simp only [IC] at this;exact this
theorem SC (s:List UInt8) (hs:s.length<1000000):Ret P0 kh [.str s,.func lU] (I ((s.takeWhile nameB).length:Nat)):=by
 have:=qf lU (fun r=>s7 r||xq r||decide (r=95)) tJ.body Gn (fun r hr=>by simp [s7,xq];omega) s hs;simp only [Bc,IC,K6] at this;exact this
theorem Me (s:List UInt8) (hs:s.length<1000000):Ret P0 kh [.str s,.func jL] (I ((s.takeWhile (fun b=>decide (cls b=1)||decide (cls b=3))).length:Nat)):=by
 have:=qf jL (fun r=>s7 r||decide (r=95)) qz.body A8 (fun r hr=>by simp [s7];omega) s hs;simp only [Bc,K6] at this;exact this
def jc (r:List UInt8):Nat:=match bQ r with|some (k,n,_)=>if k=1 then n else 0|none=>0
def j9 (r:List UInt8):Nat:=match bQ r with|some (k,n,_)=>if k=2 then n else 0|none=>0
def m4 (r:List UInt8):Nat:=match bQ r with|some (k,n,_)=>if k=3 then n else 0|none=>0
theorem MA (c:UInt8) (t:List UInt8) (h:cls c≠1):jc (c::t)=0:=by
 rw [jc];by_cases h2:cls c=2
 ·rw [m3 c t h2];split
  ·rename_i h3;split at h3
   ·simp at h3;simp [<- h3.1]
   ·cases h3
  ·rfl
 ·by_cases h5:cls c=5
  ·rw [kY c t h5];rfl
  ·rw [iy c t h h2 h5]
theorem JG (c:UInt8) (t:List UInt8) (h:cls c=1):jc (c::t)=if endOf (c::t)<=12 then endOf (c::t) else 0:=by
 rw [jc,kX c t h];by_cases h2:endOf (c::t)<=12
 ·rw [if_pos h2,if_pos h2];rfl
 ·rw [if_neg h2,if_neg h2]
theorem JH (c:UInt8) (t:List UInt8) (hs:(c::t).length<1000000):Ret P0 gU [.str (c::t)] (I (jc (c::t))):=by
 have h1:=Md (c::t) hs;have h2:=SC (c::t) hs;by_cases h:cls c=1
 ·have e1:0<((c::t).takeWhile (fun b=>decide (cls b=1))).length:=by rw [Zr,if_pos (by simp [h])];simp
  have e2:((c::t).takeWhile nameB).length=endOf (c::t):=by rw [Zr,if_pos (by simp [nameB,h])];simp [endOf,h];omega
  have e3:=JG c t h;rw [e2] at h2;generalize endOf (c::t)=E at *;generalize ((c::t).takeWhile (fun b=>decide (cls b=1))).length=A at *;generalize jc (c::t)=R at *;clear e2;generalize c::t=s at *;by_cases hE:E<=12
  ·rw [if_pos hE] at e3
   subst e3;refine aF kJ rfl ?_
   repeat' first|refine aw ?_|refine bw (fun _=>?_) fun _=>?_
   exact al (P:=P0) rfl rfl rfl rfl rfl
  ·rw [if_neg hE] at e3
   subst e3;refine aF kJ rfl ?_
   repeat' first|refine aw ?_|refine bw (fun _=>?_) fun _=>?_
   exact al (P:=P0) rfl rfl rfl rfl rfl
 ·have e1:((c::t).takeWhile (fun b=>decide (cls b=1))).length=0:=by rw [Zr,if_neg (by simp [h])];rfl
  rw [e1] at h1;have e3:=MA c t h;rw [e3];clear h2 e1 e3 h;generalize c::t=s at *;refine aF kJ rfl ?_
  repeat' first|refine aw ?_|refine bw (fun _=>?_) fun _=>?_
  exact al (P:=P0) rfl rfl rfl rfl rfl
theorem PX (c:UInt8) (t:List UInt8) (h:cls c≠2):j9 (c::t)=0:=by
 rw [j9];by_cases h2:cls c=1
 ·rw [kX c t h2];split
  ·rename_i h3;split at h3
   ·simp at h3;simp [<- h3.1]
   ·cases h3
  ·rfl
 ·by_cases h5:cls c=5
  ·rw [kY c t h5];rfl
  ·rw [iy c t h2 h h5]
theorem MB (c:UInt8) (t:List UInt8) (h:cls c=2):j9 (c::t)=if 0<=yC ((c::t).take (endOf (c::t)))/\Hr ((c::t).drop (endOf (c::t)))=false then endOf (c::t) else 0:=by
 rw [j9,m3 c t h];by_cases h2:0<=yC ((c::t).take (endOf (c::t)))/\Hr ((c::t).drop (endOf (c::t)))=false
 ·rw [if_pos h2,if_pos h2];rfl
 ·rw [if_neg h2,if_neg h2]
theorem SD (r:List UInt8):Hr r=decide (0<(r.takeWhile (fun b=>decide (cls b=1)||decide (cls b=3))).length):=by
 cases r with
 | nil=>rfl
 | cons b t=>
  rw [Hr,Zr]
  cases decide (cls b=1)||decide (cls b=3)<;>simp
theorem Gp (c:UInt8) (t:List UInt8) (hs:(c::t).length<1000000):Ret P0 eZ [.str (c::t)] (I (j9 (c::t))):=by
 have h1:=PW (c::t) hs;by_cases h:cls c=2
 ·have e1:((c::t).takeWhile fC).length=endOf (c::t):=by rw [Zr,if_pos (by simp [fC,h])];simp [endOf,h];omega
  have hall:=K5 c t h;have hle:=IA c t;have e3:=MB c t h;rw [e1] at h1;have hl0:(c::t).length=t.length+1:=rfl;have hc0:∀hp:0<(c::t).length,(c::t)[0]'hp=c:=fun _=>rfl;have hhd:((c::t).take (endOf (c::t))).head? = some 48<->c.toNat=48:=by
   rw [vZ c t h,K4 _ (by simp)];rfl
  have h0:0<(c::t).length:=by simp
  generalize endOf (c::t)=E at *;clear e1;generalize j9 (c::t)=R at *;generalize c::t=s at *;have hc0:=congrArg UInt8.toNat (hc0 h0);have hwl:(s.take E).length=E:=by simp;omega
  have hsp:=Me ((s.take s.length).drop E) (by simp;omega);have hlt:=SD (s.drop E);have e5:(s.take s.length).drop E=s.drop E:=by rw [YW]
  rw [<- e5] at e3 hlt;generalize Hr ((s.take s.length).drop E)=L at *;generalize (((s.take s.length).drop E).takeWhile (fun b=>decide (cls b=1)||decide (cls b=3))).length=A at *;have hnr:yC (s.take E)=if 10<E\/(c.toNat=48/\1<E) then -1 else if 4294967296<=qB (s.take E) then -1 else ((qB (s.take E):Nat):Int):=by
   rw [yC,hwl];simp only [hhd]
  by_cases hb:10<E\/(c.toNat=48/\1<E)
  ·rw [if_pos hb] at hnr
   rw [if_neg (by rintro ⟨q,_⟩;omega)] at e3;subst e3;clear hsp hlt hall hhd e5 hnr;refine aF fp rfl ?_
   repeat' first|refine aw ?_|refine bw (fun _=>?_) fun _=>?_
   all_goals exact al (P:=P0) rfl rfl rfl rfl rfl
  ·rw [if_neg hb] at hnr
   have hv:=yd ((s.take E).drop 0) (by rw [Zf];intro e;rw [e] at hwl;simp at hwl;omega) (by rw [Zf];exact hall) (by rw [Zf,hwl];omega);rw [show qB ((s.take E).drop 0)=qB (s.take E) by rw [Zf]] at hv;generalize qB (s.take E)=V at *;by_cases hA:0<A
   ·rw [decide_eq_true hA] at hlt
    rw [if_neg (by rintro ⟨_,q⟩;rw [hlt] at q;cases q)] at e3;subst e3;clear hall hhd e5 hnr;refine aF fp rfl ?_
    repeat' first|refine aw ?_|refine bw (fun _=>?_) fun _=>?_
    all_goals exact al (P:=P0) rfl rfl rfl rfl rfl
   ·rw [decide_eq_false hA] at hlt
    by_cases hV:4294967296<=V
    ·rw [if_pos hV] at hnr
     rw [if_neg (by rintro ⟨q,_⟩;omega)] at e3;subst e3;clear hall hhd e5 hnr hlt;refine aF fp rfl ?_
     repeat' first|refine aw ?_|refine bw (fun _=>?_) fun _=>?_
     all_goals exact al (P:=P0) rfl rfl rfl rfl rfl
    ·rw [if_neg hV] at hnr
     rw [if_pos ⟨by omega,hlt⟩] at e3;subst e3;clear hall hhd e5 hnr hlt;refine aF fp rfl ?_
     repeat' first|refine aw ?_|refine bw (fun _=>?_) fun _=>?_
     all_goals exact al (P:=P0) rfl rfl rfl rfl rfl
 ·have e1:((c::t).takeWhile fC).length=0:=by rw [Zr,if_neg (by simp [fC,h])];rfl
  rw [e1] at h1;rw [PX c t h];clear e1 h;generalize c::t=s at *;refine aF fp rfl ?_
  repeat' first|refine aw ?_|refine bw (fun _=>?_) fun _=>?_
  exact al (P:=P0) rfl rfl rfl rfl rfl
end Uw.Tryz
namespace Uw.Tryz
open Go Uw Go.Proofs Go.RowKit
def Gq:List UInt8:=[40,41,123,125,44,59,46,61,43,45,42,60]
theorem MC:∀n:Fin 256,decide (0<=Lib.indexByte Gq (UInt8.ofNat n.val))=decide (cls (UInt8.ofNat n.val)=5):=by decide +kernel
theorem MD (c:UInt8):0<=Lib.indexByte Gq c<->cls c=5:=by
 have h:=MC ⟨c.toNat,c.toNat_lt⟩;simp only [UInt8.ofNat_toNat] at h;exact decide_eq_decide.1 h
theorem JI (c:UInt8) (t:List UInt8):Lib.hasPrefix (c::t) [61,61]=(decide (c.toNat=61)&&eqq t):=by
 have key:∀b:UInt8,(61 == b)=decide (b.toNat=61):=by
  intro b;rw [ZF,beq_iff_eq,decide_eq_true_eq];exact ⟨fun h=>by rw [<- h];rfl,fun h=>(abm.1 (by rw [h];rfl)).symm⟩
 rw [Lib.hasPrefix]
 cases t with
 | nil=>simp [List.isPrefixOf,eqq]
 | cons b r=>simp only [List.isPrefixOf,eqq,key,Bool.and_true]
theorem D1 (c:UInt8) (t:List UInt8) (h:cls c=5):m4 (c::t)=endOf (c::t):=by rw [m4,kY c t h];rfl
theorem PY (c:UInt8) (t:List UInt8) (h:cls c≠5):m4 (c::t)=0:=by
 rw [m4];by_cases h1:cls c=1
 ·rw [kX c t h1];split
  ·rename_i h3;split at h3
   ·simp at h3;simp [<- h3.1]
   ·cases h3
  ·rfl
 ·by_cases h2:cls c=2
  ·rw [m3 c t h2];split
   ·rename_i h3;split at h3
    ·simp at h3;simp [<- h3.1]
    ·cases h3
   ·rfl
  ·rw [iy c t h1 h2 h]
theorem JJ (c:UInt8) (t:List UInt8) (hs:(c::t).length<1000000):Ret P0 gV [.str (c::t)] (I (m4 (c::t))):=by
 have h1:=s9 (c::t) [61,61];have h2:=tf Gq c;rw [JI] at h1;have h3:=MD c;have h0:0<(c::t).length:=by simp
 have hc0:∀hp:0<(c::t).length,(c::t)[0]'hp=c:=fun _=>rfl;have hc0:=hc0 h0;have he:cls c=5->(decide (c.toNat=61)&&eqq t)=true->m4 (c::t)=2:=fun h h'=>by
  simp at h';rw [D1 c t h,m2 c t h,if_pos h']
 have he2:cls c=5->(decide (c.toNat=61)&&eqq t)=false->m4 (c::t)=1:=fun h h'=>by
  rw [D1 c t h,m2 c t h,if_neg (by rintro ⟨q1,q2⟩;rw [decide_eq_true q1,q2] at h';cases h')]
 have he3:cls c≠5->m4 (c::t)=0:=PY c t;have h61:(decide (c.toNat=61)&&eqq t)=true->cls c=5:=fun h=>by
  simp at h;have:c=61:=abm.1 h.1;subst this;rfl
 generalize (decide (c.toNat=61)&&eqq t)=q at *;generalize m4 (c::t)=R at *;generalize Lib.indexByte Gq c=X at *;by_cases h5:cls c=5
 ·have hX:0<=X:=h3.2 h5
  cases q with
  | true=>
   have he:=he h5 rfl;subst he;clear h2 h3 hX he2 he3 h61 hc0;generalize c::t=s at *;refine aF kK rfl ?_
   repeat' first|refine aw ?_|refine bw (fun _=>?_) fun _=>?_
   exact al (P:=P0) rfl rfl rfl rfl rfl
  | false=>
   have he:=he2 h5 rfl;subst he;clear he2 he3 h61;rw [<- hc0] at h2;clear hc0 h3;generalize c::t=s at *;refine aF kK rfl ?_
   repeat' first|refine aw ?_|refine bw (fun _=>?_) fun _=>?_
   exact al (P:=P0) rfl rfl rfl rfl rfl
 ·have hX:¬0<=X:=fun h=>h5 (h3.1 h)
  have he:=he3 h5;subst he
  cases q with
  | true=>exact absurd (h61 rfl) h5
  | false=>
   clear he2 he3 h61;rw [<- hc0] at h2;clear hc0 h3;generalize c::t=s at *;refine aF kK rfl ?_
   repeat' first|refine aw ?_|refine bw (fun _=>?_) fun _=>?_
   exact al (P:=P0) rfl rfl rfl rfl rfl
def lu (r:List UInt8):Tok×Bool:=match bQ r with|none=>(⟨0,[],0,0⟩,false)|some (k,n,v)=>(⟨k,r.take n,v,0⟩,true)
def PZ (x:Tok×Bool):Dat:=.tuple [.agg (rb x.1),.bool x.2]
def P1:Dat:=.slice 2 [[I 1,.func gU],[I 2,.func eZ],[I 3,.func gV]] false
theorem IE {r:List UInt8} {k:Int} {n:Nat} {v:Int} (h:bQ r=some (k,n,v)) :
  (k=1/\v=0/\n<=12)\/(k=2/\v=(qB (r.take n):Nat)/\(r.take n).all fC=true/\n<=10/\v<4294967296)\/(k=3/\v=0/\n<=2):=by
 cases r with
 | nil=>simp [bQ] at h
 | cons c t=>
  by_cases h1:cls c=1
  ·rw [kX c t h1] at h
   split at h
   ·simp only [Zc,ZJ] at h;omega
   ·cases h
  ·by_cases h2:cls c=2
   ·have ha:=K5 c t h2
    rw [m3 c t h2] at h
    split at h
    ·rename_i hc
     simp only [Zc,ZJ] at h;obtain ⟨q1,q2,q3⟩:=h;have hc:=hc.1;have hel:=IA c t;rw [q2] at ha hc q3 hel;have hl:((c::t).take n).length=n:=by simp;omega
     rw [yC] at q3 hc
     split at hc
     ·omega
     ·rename_i q4
      rw [if_neg q4] at q3
      split at hc
      ·omega
      ·rename_i q5
       rw [if_neg q5] at q3;right;left;exact ⟨q1.symm,q3.symm,ha,by omega,by omega⟩
    ·cases h
   ·by_cases h5:cls c=5
    ·rw [kY c t h5] at h
     simp only [Zc,ZJ] at h;have:=m2 c t h5
     split at this<;>omega
    ·rw [iy c t h1 h2 h5] at h;cases h
theorem IF (r:List UInt8):(jc r≠0->lu r=(⟨1,r.take (jc r),0,0⟩,true)/\jc r<=r.length)/\
  (jc r=0->j9 r≠0->lu r=(⟨2,r.take (j9 r),(qB (r.take (j9 r)):Nat),0⟩,true)/\(r.take (j9 r)).all fC=true/\j9 r<=10/\j9 r<=r.length)/\
  (jc r=0->j9 r=0->m4 r≠0->lu r=(⟨3,r.take (m4 r),0,0⟩,true)/\m4 r<=r.length)/\(jc r=0->j9 r=0->m4 r=0->lu r=(⟨0,[],0,0⟩,false)):=by
 rw [jc,j9,m4,lu]
 cases h:bQ r with
 | none=>simp
 | some x=>
  obtain ⟨k,n,v⟩:=x;have hn:=mb h
  rcases IE h with ⟨rfl,rfl,_⟩|⟨rfl,rfl,h2,h3,_⟩|⟨rfl,rfl,_⟩
  ·simp only [if_true]
   exact ⟨fun _=>⟨trivial,hn.2⟩,fun h=>by omega,fun h=>by omega,fun h=>by omega⟩
  ·simp only [show ¬(2:Int)=1 by omega,if_false,if_true]
   exact ⟨fun h=>by omega,fun _ _=>⟨trivial,h2,h3,hn.2⟩,fun _ h=>by omega,fun _ h=>by omega⟩
  ·simp only [show ¬(3:Int)=1 by omega,show ¬(3:Int)=2 by omega,if_false,if_true]
   exact ⟨fun h=>by omega,fun _ h=>by omega,fun _ _ _=>⟨trivial,hn.2⟩,fun _ _ h=>by omega⟩
theorem IG (c:UInt8) (t:List UInt8) (hs:(c::t).length<1000000):Ret P0 rx [P1,.str (c::t)] (PZ (lu (c::t))):=by
 have h1:=JH c t hs;have h2:=Gp c t hs;have h3:=JJ c t hs;obtain ⟨f1,f2,f3,f4⟩:=IF (c::t);have hv:=fun (q:(jc (c::t)=0/\j9 (c::t)≠0))=>yd (((c::t).take (j9 (c::t))).drop 0) (by rw [Zf];intro e;have:=congrArg List.length e;rw [Y8] at this;have:=(f2 q.1 q.2).2.2.2;simp at *;omega) (by rw [Zf];exact (f2 q.1 q.2).2.1) (by rw [Zf,Y8];have:=(f2 q.1 q.2).2.2.1;omega);simp only [Zf] at hv;generalize jc (c::t)=A at *;generalize j9 (c::t)=B at *;generalize m4 (c::t)=C at *;generalize lu (c::t)=R at *;generalize c::t=s at *;refine aF E7 rfl ?_
 repeat' first|refine aw ?_|refine bw (fun _=>?_) fun _=>?_
 refine dO (fun k:Nat=>⟨[(12,.d (I k)),(11,.d (I (↑[[I 1,Dat.func gU],[I 2,Dat.func eZ],[I 3,Dat.func gV]].length))),(10,.d P1),(4,.ptr 0 0),(1,.d (.str s))],[(0,.var [.d (I 0),.d (.str []),.d (I 0),.d (I 0)])],1,[],0⟩)
  (fun k=>k<=3/\(1<=k->A=0)/\(2<=k->B=0)/\(3<=k->C=0)) (fun k=>3 - k) 0 (by exact Uw.wW) (by omega) ?_
 rintro k ⟨k1,k2,k3,k4⟩;have hk:k=0\/k=1\/k=2\/k=3:=by omega
 rcases hk with rfl|rfl|rfl|rfl
 ·by_cases hA:A=0
  ·clear f1 f2 f3 f4 hv
   subst hA
   repeat' first|refine aw ?_|refine bw (fun _=>?_) fun _=>?_
   refine iU _ rfl ?_
   repeat' first|refine aw ?_|refine bw (fun _=>?_) fun _=>?_
   refine ij _ kJ.body rfl h1 ?_
   repeat' first|refine aw ?_|refine bw (fun _=>?_) fun _=>?_
   exact cJ 1 (by omega) (by omega) (by exact Uw.wW)
  ·obtain ⟨e,hle⟩:=f1 hA
   subst e;clear f1 f2 f3 f4 hv
   repeat' first|refine aw ?_|refine bw (fun _=>?_) fun _=>?_
   refine iU _ rfl ?_
   repeat' first|refine aw ?_|refine bw (fun _=>?_) fun _=>?_
   refine ij _ kJ.body rfl h1 ?_
   repeat' first|refine aw ?_|refine bw (fun _=>?_) fun _=>?_
   refine b9 ⟨[(7,.ptr 1 0),(9,.ptr 2 0),(4,.ptr 0 0)],[(2,.var [.d (I 1),.d (.str ((s.take A).drop 0)),.d (I 0),.d (I 0)]),(1,.var [.d (I 1),.d (.func gU)]),(0,.var [.d (I 0),.d (.str []),.d (I 0),.d (I 0)])],3,[],0⟩ ?_ ?_
   ·repeat' first|refine aw ?_|refine bw (fun _=>?_) fun _=>?_
    exact bg (.inl ⟨rfl,by exact Uw.wW⟩)
   ·repeat' first|refine aw ?_|refine bw (fun _=>?_) fun _=>?_
    exact aN (al (P:=P0) rfl rfl rfl rfl rfl)
 ·have hA:=k2 (by omega)
  by_cases hB:B=0
  ·clear f1 f2 f3 f4 hv
   subst hB
   repeat' first|refine aw ?_|refine bw (fun _=>?_) fun _=>?_
   refine iU _ rfl ?_
   repeat' first|refine aw ?_|refine bw (fun _=>?_) fun _=>?_
   refine ij _ fp.body rfl h2 ?_
   repeat' first|refine aw ?_|refine bw (fun _=>?_) fun _=>?_
   exact cJ 2 (by omega) (by omega) (by exact Uw.wW)
  ·obtain ⟨e,q1,q2,hle⟩:=f2 hA hB
   have hv:=hv ⟨hA,hB⟩;subst e;clear f1 f2 f3 f4
   repeat' first|refine aw ?_|refine bw (fun _=>?_) fun _=>?_
   refine iU _ rfl ?_
   repeat' first|refine aw ?_|refine bw (fun _=>?_) fun _=>?_
   refine ij _ fp.body rfl h2 ?_
   repeat' first|refine aw ?_|refine bw (fun _=>?_) fun _=>?_
   refine b9 ⟨[(7,.ptr 1 0),(9,.ptr 2 0),(4,.ptr 0 0)],[(2,.var [.d (I 2),.d (.str ((s.take B).drop 0)),.d (I 0),.d (I 0)]),(1,.var [.d (I 2),.d (.func eZ)]),(0,.var [.d (I 0),.d (.str []),.d (I 0),.d (I 0)])],3,[],0⟩ ?_ ?_
   ·repeat' first|refine aw ?_|refine bw (fun _=>?_) fun _=>?_
    exact bg (.inl ⟨rfl,by exact Uw.wW⟩)
   ·repeat' first|refine aw ?_|refine bw (fun _=>?_) fun _=>?_
    exact aN (al (P:=P0) rfl rfl rfl rfl rfl)
 ·have hA:=k2 (by omega)
  have hB:=k3 (by omega);by_cases hC:C=0
  ·clear f1 f2 f3 f4 hv
   subst hC
   repeat' first|refine aw ?_|refine bw (fun _=>?_) fun _=>?_
   refine iU _ rfl ?_
   repeat' first|refine aw ?_|refine bw (fun _=>?_) fun _=>?_
   refine ij _ kK.body rfl h3 ?_
   repeat' first|refine aw ?_|refine bw (fun _=>?_) fun _=>?_
   exact cJ 3 (by omega) (by omega) (by exact Uw.wW)
  ·obtain ⟨e,hle⟩:=f3 hA hB hC
   subst e;clear f1 f2 f3 f4 hv
   repeat' first|refine aw ?_|refine bw (fun _=>?_) fun _=>?_
   refine iU _ rfl ?_
   repeat' first|refine aw ?_|refine bw (fun _=>?_) fun _=>?_
   refine ij _ kK.body rfl h3 ?_
   repeat' first|refine aw ?_|refine bw (fun _=>?_) fun _=>?_
   refine b9 ⟨[(7,.ptr 1 0),(9,.ptr 2 0),(4,.ptr 0 0)],[(2,.var [.d (I 3),.d (.str ((s.take C).drop 0)),.d (I 0),.d (I 0)]),(1,.var [.d (I 3),.d (.func gV)]),(0,.var [.d (I 0),.d (.str []),.d (I 0),.d (I 0)])],3,[],0⟩ ?_ ?_
   ·repeat' first|refine aw ?_|refine bw (fun _=>?_) fun _=>?_
    exact bg (.inl ⟨rfl,by exact Uw.wW⟩)
   ·repeat' first|refine aw ?_|refine bw (fun _=>?_) fun _=>?_
    exact aN (al (P:=P0) rfl rfl rfl rfl rfl)
 ·have hA:=k2 (by omega)
  have hB:=k3 (by omega);have hC:=k4 (by omega);have e:=f4 hA hB hC;subst e;clear f1 f2 f3 f4 hv k2 k3 k4
  repeat' first|refine aw ?_|refine bw (fun _=>?_) fun _=>?_
  exact al (P:=P0) rfl rfl rfl rfl rfl
end Uw.Tryz
namespace Uw.Tryz
open Go Uw Go.Proofs Go.RowKit
theorem ye {r:List UInt8} (h:bQ r=none):lu r=(⟨0,[],0,0⟩,false):=by rw [lu,h]
theorem IH {r:List UInt8} {k:Int} {n:Nat} {v:Int} (h:bQ r=some (k,n,v)):lu r=(⟨k,r.take n,v,0⟩,true):=by rw [lu,h]
theorem ME {b:UInt8} (h:nameB b=true):b.toNat<128:=by
 simp only [nameB,Zj,decide_eq_true_eq] at h;unfold cls at h
 repeat' split at h
 all_goals omega
theorem yQ {b:UInt8} (h:cls b≠0):b.toNat<128:=by
 unfold cls at h
 repeat' split at h
 all_goals omega
theorem tO {α:Type} (p:α->Bool) (l:List α):∀x∈l.takeWhile p,p x=true:=Y1.1 (all_takeWhile p l)
theorem SE {r:List UInt8} {k:Int} {n:Nat} {v:Int} (h:bQ r=some (k,n,v)):∀b∈r.take n,b.toNat<128:=by
 cases r with
 | nil=>simp [bQ] at h
 | cons c t=>
  by_cases h1:cls c=1
  ·rw [kX c t h1] at h
   have e:endOf (c::t)=1+(t.takeWhile nameB).length:=by simp [endOf,h1]
   split at h
   ·simp only [Zc,ZJ] at h
    rw [<- h.2.1,e,aap,ZE,take_takeWhile];intro b hb
    rcases Y3.1 hb with rfl|hb
    ·exact yQ (by omega)
    ·exact ME (tO _ _ b hb)
   ·cases h
  ·by_cases h2:cls c=2
   ·have hd:=vZ c t h2
    rw [m3 c t h2] at h
    split at h
    ·simp only [Zc,ZJ] at h
     rw [<- h.2.1,hd];intro b hb
     rcases Y3.1 hb with rfl|hb
     ·exact yQ (by omega)
     ·have:=uG (tO _ _ b hb);omega
    ·cases h
   ·by_cases h5:cls c=5
    ·have he:=m2 c t h5
     rw [kY c t h5] at h;simp only [Zc,ZJ] at h;rw [<- h.2.1,he];intro b hb
     split at hb
     ·rename_i q
      cases t with
      | nil=>simp [eqq] at q
      | cons d u=>
       simp only [eqq,decide_eq_true_eq] at q;simp at hb
       rcases hb with rfl|rfl<;>omega
     ·simp at hb;subst hb;exact yQ (by omega)
    ·rw [iy c t h1 h2 h5] at h;cases h
def K7 (s:List UInt8) (k b:Nat):Prop:=∀i,k<=i->i<b->∀c,s[i]? = some c->c.toNat<128
theorem nR (s:List UInt8) (hs:s.length<1000000):Ret P0 xR [.str s] (OB (fD s)):=by
 refine Ret.res (r:=B8 s) ?_ (SA s);by_cases h4:4000<s.length
 ·have e:B8 s = .tuple [.nil,I 2]:=by rw [B8,if_pos h4]
  rw [e];refine aF vh rfl ?_
  repeat' first|refine aw ?_|refine bw (fun _=>?_) fun _=>?_
  exact al (P:=P0) rfl rfl rfl rfl rfl
 ·have bad:oP s 0=none->B8 s = .tuple [.nil,I 3]:=fun h=>by rw [B8,if_neg h4,h]
  have good:∀l,oP s 0=some l->B8 s = .tuple [u7 l,I 0]:=fun l h=>by rw [B8,if_neg h4,h]
  generalize B8 s=R at bad good;refine aF vh rfl ?_
  repeat' first|refine aw ?_|refine bw (fun _=>?_) fun _=>?_
  refine dO (fun ((k,b,n,xs):Nat×Nat×Nat×List (List Dat))=>⟨[(19,.hnd 0),(6,.d (I b)),(5,.ref 1 0 0 n),(4,.d (Dat.slice 2 ((((List.replicate 3 [Dat.int IntKind.i64 0,Dat.nilFunc]).set 0 [Dat.int IntKind.i64 1,Dat.func gU]).set 1 [Dat.int IntKind.i64 2,Dat.func eZ]).set 2 [Dat.int IntKind.i64 3,Dat.func gV]) true)),(0,.d (.str s))],[(1,.arr 4 xs),(0,.iter s k)],2,[],0⟩)
   (fun (k,b,n,xs)=>k<=s.length/\b<=s.length/\n=xs.length/\n<=b/\n<=k/\K7 s k b/\∃out,xs=out.map rb/\Read s (max k b) out) (fun (k,_)=>s.length - k) (0,0,0,[]) (by exact Uw.wW) ⟨by omega,by omega,rfl,by omega,by omega,by intro i h1 h2;omega,[],rfl,Read.init s⟩ ?_
  rintro ⟨k,b,n,xs⟩ ⟨h1,h2,h3,h3',Yn,hlow,out,h5,h6⟩;by_cases hk:k<s.length
  ·have hk' : s[k]? = some s[k]:=by simp [hk]
   have hd:s.drop k=s[k]::s.drop (k+1):=Zo hk;by_cases hkb:k<b
   ·have hl:=hlow k (YN _) hkb s[k] hk'
    have hr:=ub s k s[k] hk' hl;have hr2:(bP s k).2=1:=by rw [hr]
    clear hr;have hm:max (k+(bP s k).2) b=max k b:=by omega
    have h7:Read s (max (k+(bP s k).2) b) out:=by rw [hm];exact h6
    have hl2:K7 s (k+(bP s k).2) b:=fun i q1 q2=>hlow i (by omega) q2;clear good bad h6 hd hlow
    repeat' first|refine aw ?_|refine bw (fun _=>?_) fun _=>?_
    exact cJ (k+(bP s k).2,b,n,xs) ⟨by omega,h2,h3,h3',by omega,hl2,out,h5,h7⟩ (by simp only;omega) (by exact Uw.wW)
   ·have hm:max k b=k:=by omega
    rw [hm] at h6;have hbl:=IB ((bP s k).1:Int);have hfi:=(IG s[k] (s.drop (k+1)) (by rw [<- hd];simp;omega)).args (ds:=[.slice 2 [[I 1,.func gU],[I 2,.func eZ],[I 3,.func gV]] true,.str (s[k]::s.drop (k+1))]) (.cons (.slice (.refl _)) (.refl _));rw [<- hd] at hfi;have SG : Ret P0 rx [.slice 2 [[I 1,.func gU],[I 2,.func eZ],[I 3,.func gV]] true,.str ((s.take s.length).drop k)] (PZ (lu (s.drop k))):=by rw [YW];exact hfi
    clear hfi;by_cases hl:s[k].toNat<128
    ·have hr:=ub s k s[k] hk' hl
     have hr1:((bP s k).1:Int)=s[k].toNat:=by rw [hr]
     have hr2:(bP s k).2=1:=by rw [hr]
     clear hr;rw [show A7 ((bP s k).1:Int)=decide (cls s[k]=4) by rw [hr1,PV]] at hbl;by_cases k4:cls s[k]=4
     ·rw [decide_eq_true k4] at hbl
      have h7:Read s (max (k+(bP s k).2) b) out:=by rw [hr2,show max (k+1) b=k+1 by omega];exact h6.blank hk k4
      have hl2:K7 s (k+(bP s k).2) b:=fun i q1 q2=>by omega
      clear good bad h6 hd hlow SG
      repeat' first|refine aw ?_|refine bw (fun _=>?_) fun _=>?_
      exact cJ (k+(bP s k).2,b,n,xs) ⟨by omega,h2,h3,h3',by omega,hl2,out,h5,h7⟩ (by simp only;omega) (by exact Uw.wW)
     ·rw [decide_eq_false k4] at hbl
      cases ht:bQ (s.drop k) with
      | none=>
       rw [ye ht] at SG;have hb:=bad (h6.none hk k4 ht);subst hb;clear good bad h6 hd hlow ht
       repeat' first|refine aw ?_|refine bw (fun _=>?_) fun _=>?_
       exact aN (al (P:=P0) rfl rfl rfl rfl rfl)
      | some x=>
       obtain ⟨K,N,v⟩:=x;rw [IH ht] at SG;have hn:=mb ht;have hlw:=SE ht;have h8:=h6.tok hk k4 ht;have hN:k+N<=s.length:=by have:=hn.2;simp at this;omega
       have hxl:((s.drop k).take N).length=N:=SB hN;have h7:Read s (max (k+(bP s k).2) (k+N)) (out++[⟨K,(s.drop k).take N,v,k⟩]):=by rw [hr2,show max (k+1) (k+N)=k+N by omega];exact h8
       have hl2:K7 s (k+(bP s k).2) (k+N):=by
        intro i q1 q2 c hc;refine hlw c ?_;rw [abt];refine ⟨i - k,by simp;have:=(Zi.1 hc).1;omega,?_⟩;rw [List.getElem_drop];have:=(Zi.1 hc).2;simp only [show k+(i - k)=i by omega];exact this
       generalize (s.drop k).take N=w at *;clear good bad h6 hd hlow ht h8 hlw;have hen:(k:Int)+(w.length:Int)=((k+N:Nat):Int):=by omega
       repeat' first|refine aw ?_|refine bw (fun _=>?_) fun _=>?_
       refine cJ (k+(bP s k).2,k+N,n+1,xs++[[I K,.str w,I v,I k]]) ⟨by omega,hN,by simp [h3],by omega,by omega,hl2,out++[⟨K,w,v,k⟩],?_,h7⟩ (by simp only;omega) (by exact Uw.wW);rw [h5];simp [rb]
    ·obtain ⟨a1,a2,a3,a4,a5⟩:=xK s k s[k] hk' (by omega)
     have hc0:cls s[k]=0:=by
      by_cases h:cls s[k]=0
      ·exact h
      ·exact absurd (yQ h) hl
     have ht:bQ (s.drop k)=none:=by rw [hd];exact iy _ _ (by omega) (by omega) (by omega)
     rw [show A7 ((bP s k).1:Int)=false by simp [A7];omega] at hbl;rw [ye ht] at SG;have hb:=bad (h6.none hk (by omega) ht);subst hb;clear good bad h6 hd hlow ht a5
     repeat' first|refine aw ?_|refine bw (fun _=>?_) fun _=>?_
     exact aN (al (P:=P0) rfl rfl rfl rfl rfl)
  ·have hg:=good out (h6.end (by omega))
   subst hg;clear good bad h6 hlow
   repeat' first|refine aw ?_|refine bw (fun _=>?_) fun _=>?_
   exact al (P:=P0) rfl rfl rfl rfl (by rw [T9 h3 h5];rfl)
end Uw.Tryz
namespace Uw.Tryz
open Go Uw
def X4 (x:List Dec×List Fn):Dat:=.agg [.slice 3 (x.1.map bM) false,.slice 3 (gg x.2 0) false,.slice 5 ((bV x.2 0).map bU) false]
def noD:Dat:=.agg [.nil,.nil,.nil]
theorem SH (h:Heap) (nx:Nat):EE P0 jI [.ptr 0 0,.ptr 1 0] h nx none (fun h' nx'=>h' = h/\nx' = nx):=by
 refine uZ tA rfl ?_;refine NY rfl ?_;exact bg ⟨.inl rfl,rfl,rfl,rfl⟩
theorem MF (a b c d:V) (nx:Nat):EE P0 jI [.ptr 0 0,.ptr 1 0] [(0,.var [a,b,c]),(1,.var [d])] nx (some cZ) (fun h' nx'=>h' = (1,.var [.d (I 3)])::(0,.var [.d .nil,.d .nil,.d .nil])::[(0,.var [a,b,c]),(1,.var [d])]/\nx' = nx):=by
 refine uZ tA rfl ?_;refine QK rfl ?_;exact bg ⟨.inl rfl,rfl,rfl,rfl⟩
theorem Be (s:List UInt8) (hs:s.length<1000000) (l:List Tok) (e:Int) (hw:fD s=(l,e)) (he:e≠0):Ret P0 fk [.str s] (.tuple [noD,I e]):=by
 have h1:=nR s hs;rw [hw] at h1;refine kx ny rfl ?_
 repeat' first|refine aw ?_|refine bw (fun _=>?_) fun _=>?_
 refine b9 ⟨[(3,.ptr 1 0),(2,.ptr 0 0)],[(1,.var [.d (I e)]),(0,.var [.d .nil,.d .nil,.d .nil])],2,[],0⟩ ?_ ?_
 ·repeat' first|refine aw ?_|refine bw (fun _=>?_) fun _=>?_
  exact bg (.inl ⟨rfl,by exact Uw.wW⟩)
 ·repeat' first|refine aw ?_|refine bw (fun _=>?_) fun _=>?_
  exact bg ⟨_,.inl rfl,.inl ⟨.inr rfl,rfl,_,_,rfl,rfl,rfl,rfl⟩⟩
theorem yD (s:List UInt8) (hs:s.length<1000000) (l:List Tok) (hl:l.length<1000000) (hw:fD s=(l,0)) (he:40<mJ l 0 0):Ret P0 fk [.str s] (.tuple [noD,I 2]):=by
 have h1:=nR s hs;have h2:=ov l hl;rw [hw] at h1;generalize mJ l 0 0=d at *;refine kx ny rfl ?_
 repeat' first|refine aw ?_|refine bw (fun _=>?_) fun _=>?_
 exact bg ⟨_,.inl rfl,.inl ⟨.inr rfl,rfl,_,_,rfl,rfl,rfl,rfl⟩⟩
theorem Bf (s:List UInt8) (hs:s.length<1000000) (l:List Tok) (hl:l.length<1000000) (hw:fD s=(l,0)) (he:mJ l 0 0<=40) (hb:kH P0 eD [.ptr 0 0] (rdN l 0 []) cZ):Ret P0 fk [.str s] (.tuple [noD,I 3]):=by
 have h1:=nR s hs;have h2:=ov l hl;rw [hw] at h1;generalize mJ l 0 0=d at *;refine kx ny rfl ?_
 repeat' first|refine aw ?_|refine bw (fun _=>?_) fun _=>?_
 refine Q0 3 [2] hb ?_;intro h0 n0
 ·refine bg ⟨⟨[(2,.ptr 0 0),(3,.ptr 1 0)],[(0,.var [.d .nil,.d .nil,.d .nil]),(1,.var [.d (I 0)])],2,_,0⟩,.inr (Weak.rest ?_ ?_ rfl rfl rfl),.inr ⟨some cZ,jI,[],[.ptr 0 0,.ptr 1 0],.inr ⟨_,rfl,rfl⟩,rfl,?_⟩⟩
  ·intro p hp
   simp only [Y3,aaF,or_false] at hp
   rcases hp with rfl|rfl
   ·exact ⟨rfl,rfl,rfl⟩
   ·exact ⟨rfl,rfl,rfl⟩
  ·intro p hp
   simp only [Y3,aaF,or_false] at hp
   rcases hp with rfl|rfl
   ·exact ⟨by decide,by decide,rfl,rfl,rfl,rfl⟩
   ·exact ⟨by decide,by decide,rfl,rfl,rfl,rfl⟩
  ·refine EE.mono (MF _ _ _ _ _) ?_
   rintro h' nx' ⟨rfl,rfl⟩;exact ⟨[.agg [.d .nil,.d .nil,.d .nil],.d (I 3)],_,rfl,rfl,rfl,rfl⟩
theorem B9 (s:List UInt8) (hs:s.length<1000000) (l:List Tok) (hl:l.length<1000000) (hw:fD s=(l,0)) (he:mJ l 0 0<=40) (a b c:List (List Dat)) (ns:List Nod)
  (hb:bm P0 eD [.ptr 0 0] (rdN l 0 []) (.agg [.d (.slice 3 a false),.d (.slice 3 b false),.d (.slice 5 c false)]) (rdN l l.length ns)):Ret P0 fk [.str s] (.tuple [.agg [.slice 3 a false,.slice 3 b false,.slice 5 c false],I 0]):=by
 have h1:=nR s hs;have h2:=ov l hl;rw [hw] at h1;generalize mJ l 0 0=d at *;refine kx ny rfl ?_
 repeat' first|refine aw ?_|refine bw (fun _=>?_) fun _=>?_
 refine ag 3 [2] hb ?_
 repeat' first|refine aw ?_|refine bw (fun _=>?_) fun _=>?_
 refine bg ⟨_,.inl rfl,.inr ⟨none,jI,[],[.ptr 0 0,.ptr 1 0],.inl ⟨.inr rfl,rfl⟩,rfl,?_⟩⟩;refine EE.mono (SH _ _) ?_;rintro h' nx' ⟨rfl,rfl⟩;exact ⟨[.agg [.d (.slice 3 a false),.d (.slice 3 b false),.d (.slice 5 c false)],.d (I 0)],_,rfl,rfl,rfl,rfl⟩
def Tf (x:Pg×Int):Dat:=.tuple [pgD x.1,I x.2]
theorem II:∀(fs:List Fn) (b:Nat),BH (gg fs b) ((oR fs b).map fuL)
 | [],b=>.refl _
 | f::fs,b=>by
  refine .cons (.cons (.refl _) (.cons ?_ (.refl _))) (II fs _);show DLe (jQ f.args) (ei f.args);unfold jQ
  split
  ·rename_i h;rw [h];exact .nil 1
  ·exact .refl _
theorem Vv {x:Nod} (h:x.kind=1\/x.kind=2\/x.kind=12->x.of=[]):DLe (ofD x.kind x.of) (cb (x.of.map fun (i:Nat)=>(i:Int))):=by
 have e:(x.of.map fun (i:Nat)=>[I i])=((x.of.map fun (i:Nat)=>(i:Int)).map fun i=>[I i]):=by simp
 unfold ofD cb
 split
 ·rename_i hk;rw [h hk];exact .nil 1
 ·split
  ·split
   ·rename_i h0;rw [h0];exact .nil 1
   ·rw [e];exact .refl _
  ·split
   ·rw [e];exact .refl _
   ·rw [e];exact .slice (.refl _)
def sa (l:List Nod):Prop:=∀x∈l,x.kind=1\/x.kind=2\/x.kind=12->x.of=[]
theorem sa.app {a b:List Nod} (h1:sa a) (h2:sa b):sa (a++b):=fun x hx=>(Y7.1 hx).elim (h1 x) (h2 x)
theorem sa.one {x:Nod} (h:x.kind=1\/x.kind=2\/x.kind=12->x.of=[]):sa [x]:=fun y hy=>by simp at hy;subst hy;exact h
end Uw.Tryz
namespace Uw.Tryz
open Go Uw
def P2 (s:Str):Prop:=bQ s=some (1,s.length,0)
def ib (s:Str):Prop:=P2 s/\BJ s=false
def Bg (n:Int):Prop:=0<=n/\n<4294967296
structure v7 (t:Tok):Prop where
 name:t.kind=1->P2 t.text
 num:t.kind=2->Bg t.n
 wf:Wf t
mutual
def Ex.good:Ex->Prop
 | .num n=>Bg n
 | .name s=>ib s
 | .bin k a b=>(3<=k/\k<=7)/\a.good/\b.good
 | .call o v ar=>ib o/\ib v/\ar.good
def Exs.good:Exs->Prop
 | .nil=>True
 | .cons e r=>e.good/\r.good
end
mutual
def Stm.good:Stm->Prop
 | .set s e=>ib s/\e.good
 | .task par to f ar=>(to=[]\/ib to)/\ib f/\ar.good/\(par=true->ar.length=2)
 | .sync=>True
 | .if1 e a=>e.good/\a.good
 | .if2 e a b=>e.good/\a.good/\b.good
 | .loop e a=>e.good/\a.good
 | .one k e=>(k=15\/k=16)/\e.good
 | .act o v ar=>ib o/\ib v/\ar.good
def Bl.good:Bl->Prop
 | .nil=>True
 | .cons s r=>s.good/\r.good
end
structure Dec.good (d:Dec):Prop where
 kind:0<=d.kind/\d.kind<=3
 name:ib d.name
 n:Bg d.n
 zero:d.kind≠0->d.n=0
structure Fn.good (f:Fn):Prop where
 name:ib f.name
 args:∀s∈f.args,ib s
 body:f.body.good
def VV {α:Type} (p:List Tok->R α) (Q:α->Prop):Prop:=∀r a r',(∀t∈r,v7 t)->p r = .ok a r'->Q a/\∀t∈r',v7 t
section
variable {α β : Type} {Q : α -> Prop} {Q1 : β -> Prop}
theorem VV.ret {a:α} (h:Q a):VV (eG a) Q:=by
 intro r b r' ht he;injection he with h1 h2
 subst h1 h2;exact ⟨h,ht⟩
theorem VV.bad:VV (OD (α:=α)) Q:=by intro r b r' ht he;cases he
theorem VV.out:VV (fun _=>(.out:R α)) Q:=by intro r b r' ht he;cases he
theorem VV.bind {p:List Tok->R β} {f:β->List Tok->R α} (h1:VV p Q1) (h2:∀b,Q1 b->VV (f b) Q):VV (db p f) Q:=by
 intro r a r' ht he;obtain ⟨b,r1,e1,e2⟩:=bind_ok.1 he;obtain ⟨g1,g2⟩:=h1 _ _ _ ht e1;exact h2 b g1 _ _ _ g2 e2
theorem VV.want {s:Str} {p:List Tok->R α} (h:VV p Q):VV (jY s p) Q:=by
 intro r a r' ht he;obtain ⟨b,r1,e1,e2⟩:=bind_ok.1 he;obtain ⟨_,rfl⟩:=EP e1;exact h _ _ _ (fun t h=>ht t (List.mem_of_mem_tail h)) e2
theorem VV.skip {s:Str} {p q:List Tok->R α} (h1:VV p Q) (h2:VV q Q):VV (gd s p q) Q:=by
 intro r a r' ht he;unfold gd at he
 split at he
 ·exact h1 _ _ _ (fun t h=>ht t (List.mem_of_mem_tail h)) he
 ·exact h2 _ _ _ ht he
theorem VV.peek {s:Str} {p q:List Tok->R α} (h1:VV p Q) (h2:VV q Q):VV (nu s p q) Q:=by
 intro r a r' ht he;unfold nu at he
 split at he
 ·exact h1 _ _ _ ht he
 ·exact h2 _ _ _ ht he
theorem VV.name {f:Str->List Tok->R α} (h:∀s,ib s->VV (f s) Q):VV (cName f) Q:=by
 intro r a r' ht he;obtain ⟨b,r1,e1,e2⟩:=bind_ok.1 he;obtain ⟨t,rfl,rfl,h4,h5⟩:=ER e1;exact h _ ⟨(ht t (ZY ..)).name h4,h5⟩ _ _ _ (fun t h=>ht t (ZH _ h)) e2
theorem VV.word {k:Int} {f:Str->Int->List Tok->R α} (h:∀s n,(k=2->Bg n)->VV (f s n) Q):VV (Hv k f) Q:=by
 intro r a r' ht he;obtain ⟨t,r1,e1,e2⟩:=bind_ok.1 he;obtain ⟨q,rfl,rfl,h4⟩:=yL e1;exact h _ _ (fun e=>(ht t (ZY ..)).num (by omega)) _ _ _ (fun t h=>ht t (ZH _ h)) e2
theorem VV.num {f:Int->List Tok->R α} {q:List Tok->R α} (h1:∀n,Bg n->VV (f n) Q) (h2:VV q Q):VV (Ji f q) Q:=by
 intro r a r' ht he;unfold Ji at he
 split at he
 ·rename_i hn
  cases r with
  | nil=>cases hn
  | cons t l=>
   have hk:t.kind=2:=by simpa [isNum] using hn
   exact h1 _ ((ht t (ZY ..)).num hk) _ _ _ (fun t h=>ht t (ZH _ h)) he
 ·exact h2 _ _ _ ht he
theorem VV.mono {Q' : α->Prop} {p:List Tok->R α} (h:VV p Q) (hq:∀a,Q a->Q' a):VV p Q':=fun r a r' ht he=>⟨hq a (h r a r' ht he).1,(h r a r' ht he).2⟩
end
theorem kp {α:Type} {Q:α->Prop} {p:List Tok->R α} (h:∀r,p r = .out):VV p Q:=by
 intro r a r' _ he;rw [h] at he;cases he
structure VE (n:Nat):Prop where
 qC:VV (jg n) Ex.good
 call:∀s,VV (gP n s) fun x=>ib x.1/\x.2.good
 args:VV (gq n) Exs.good
 tq:VV (dR n) Exs.good
 prod:VV (iC n) Ex.good
 ri:∀l,l.good->VV (eM n l) Ex.good
 sum:VV (m9 n) Ex.good
 sumT:∀l,l.good->VV (fN n l) Ex.good
 expr:VV (dM n) Ex.good
theorem ve:∀n,VE n
 | 0=>⟨kp fun r=>by rw [jg],fun s=>kp fun r=>by rw [gP],kp fun r=>by rw [gq],kp fun r=>by rw [dR],kp fun r=>by rw [iC],fun l _=>kp fun r=>by rw [eM],kp fun r=>by rw [m9],fun l _=>kp fun r=>by rw [fN],kp fun r=>by rw [dM]⟩
 | n+1=>by
  have ih:=ve n;refine ⟨?_,?_,?_,?_,?_,?_,?_,?_,?_⟩
  ·rw [zz n]
   exact .skip (.bind ih.expr fun e he=>.want (.ret he)) (.num (fun v hv=>.ret hv) (.name fun s hs=>.peek (.bind (ih.call s) fun x hx=>.ret ⟨hs,hx.1,hx.2⟩) (.ret hs)))
  ·intro s
   rw [zA n];exact .want (.name fun v hv=>.bind ih.args fun ar har=>.ret ⟨hv,har⟩)
  ·rw [zB n]
   exact .want (.skip (.ret trivial) (.bind ih.expr fun e he=>.bind ih.tq fun es hes=>.ret ⟨he,hes⟩))
  ·rw [wE n]
   exact .skip (.bind ih.expr fun e he=>.bind ih.tq fun es hes=>.ret ⟨he,hes⟩) (.want (.ret trivial))
  ·rw [zC n]
   exact .bind ih.qC fun e he=>ih.ri e he
  ·intro l hl
   rw [wF n];exact .skip (.bind ih.qC fun e he=>ih.ri _ ⟨by omega,hl,he⟩) (.ret hl)
  ·rw [ES n]
   exact .bind ih.prod fun e he=>ih.sumT e he
  ·intro l hl
   rw [zD n];exact .skip (.bind ih.prod fun e he=>ih.sumT _ ⟨by omega,hl,he⟩) (.skip (.bind ih.prod fun e he=>ih.sumT _ ⟨by omega,hl,he⟩) (.ret hl))
  ·rw [zE n]
   exact .bind ih.sum fun l hl=>.skip (.bind ih.sum fun e he=>.ret ⟨by omega,hl,he⟩) (.skip (.bind ih.sum fun e he=>.ret ⟨by omega,hl,he⟩) (.ret hl))
theorem v8 (n:Nat) (to:Str) (hto:to=[]\/ib to):VV (gk n to) Stm.good:=by
 rw [wG n];refine .bind (Q1:=fun _=>True) (.skip (.ret trivial) (.want (.ret trivial))) fun par _=>.name fun f hf=>.bind (ve n).args fun ar har=>?_
 split
 ·exact .bad
 ·rename_i h
  refine .ret ⟨hto,hf,har,fun hp=>?_⟩;exact Classical.byContradiction fun hn=>h ⟨hp,hn⟩
theorem MG (n:Nat):VV (il n) Stm.good:=by
 rw [ug n];exact .peek (v8 n [] (.inl rfl)) (.peek (v8 n [] (.inl rfl)) (.skip (.ret trivial) (.skip (.bind (ve n).expr fun e he=>.ret ⟨.inl rfl,he⟩) (.skip (.bind (ve n).expr fun e he=>.ret ⟨.inr rfl,he⟩)
  (.name fun s hs=>.peek (.bind ((ve n).call s) fun x hx=>.ret ⟨hs,hx.1,hx.2⟩) (.want (.peek (v8 n s (.inr hs)) (.peek (v8 n s (.inr hs)) (.bind (ve n).expr fun e he=>.ret ⟨hs,he⟩)))))))))
structure VS (n:Nat):Prop where
 stmt:VV (jh n) Stm.good
 block:VV (du n) Bl.good
 stmts:VV (dS n) Bl.good
theorem vs_:∀n,VS n
 | 0=>⟨kp fun r=>by rw [jh],kp fun r=>by rw [du],kp fun r=>by rw [dS]⟩
 | n+1=>by
  have ih:=vs_ n;refine ⟨?_,?_,?_⟩
  ·rw [zF n]
   exact .skip (.bind (ve n).expr fun e he=>.bind ih.block fun a ha=>.skip (.bind ih.block fun b hb=>.ret ⟨he,ha,hb⟩) (.ret ⟨he,ha⟩)) (.skip (.bind (ve n).expr fun e he=>.bind ih.block fun a ha=>.ret ⟨he,ha⟩) (.bind (MG n) fun s hs=>.want (.ret hs)))
  ·rw [wH n]
   exact .want ih.stmts
  ·rw [wI n]
   exact .skip (.ret trivial) (.bind ih.stmt fun s hs=>.bind ih.stmts fun ss hss=>.ret ⟨hs,hss⟩)
theorem D2:∀n,VV (cG n) fun l=>∀s∈l,ib s
 | 0=>kp fun r=>by rw [cG]
 | n+1=>by
  rw [uh n];refine .skip (.name fun s hs=>.bind (D2 n) fun l hl=>.ret ?_) (.want (.ret (by simp)));intro x hx
  rcases Y3.1 hx with rfl|hx
  ·exact hs
  ·exact hl x hx
theorem Vw (n:Nat):VV (rf n) Fn.good:=by
 rw [ET n];refine .want (.name fun s hs=>.bind (Q1:=fun l=>∀s∈l,ib s) ?_ fun l hl=>.bind (vs_ n).block fun b hb=>.ret ⟨hs,hl,hb⟩);rw [wJ n];refine .want (.skip (.ret (by simp)) (.name fun s hs=>.bind (D2 n) fun l hl=>.ret ?_));intro x hx
 rcases Y3.1 hx with rfl|hx
 ·exact hs
 ·exact hl x hx
theorem MH {s:Str} {k:Int} (h:kindOf s=some k):0<=k/\k<=3:=by
 unfold kindOf at h
 repeat' split at h
 all_goals first|(injection h with h;omega)|cases h
theorem WV:Bg 0:=⟨by decide,by decide⟩
theorem SI:VV rh Dec.good:=by
 rw [va];refine .word fun t _ _=>?_;unfold tt
 cases hk:kindOf t with
 | none=>exact .bad
 | some k=>
  have:=MH hk;refine .name fun s hs=>?_;show VV (if k=0 then _ else _) _
  split
  ·exact .skip (.word fun _ n hn=>.want (.ret ⟨this,hs,hn rfl,fun h=>absurd ‹k=0› h⟩)) (.want (.ret ⟨this,hs,WV,fun h=>rfl⟩))
  ·exact .want (.ret ⟨this,hs,WV,fun h=>rfl⟩)
theorem zH.good {r r' : List Tok} {ds:List Dec} (h:zH r ds r'):(∀t∈r,v7 t)->(∀d∈ds,d.good)/\∀t∈r',v7 t:=by
 induction h with
 | stop _=>exact fun ht=>⟨by simp,ht⟩
 | cons _ h1 _ ih=>
  intro ht;obtain ⟨g1,g2⟩:=SI _ _ _ ht h1;obtain ⟨g3,g4⟩:=ih g2;exact ⟨fun d hd=>(Y3.1 hd).elim (fun e=>e ▸ g1) (g3 d),g4⟩
theorem BK.good {r:List Tok} {fs:List Fn} (h:BK r fs):(∀t∈r,v7 t)->∀f∈fs,f.good:=by
 induction h with
 | nil=>exact fun ht=>by simp
 | cons h1 _ ih=>
  intro ht;obtain ⟨n,h1⟩:=h1;obtain ⟨g1,g2⟩:=Vw n _ _ _ ht h1;exact fun d hd=>(Y3.1 hd).elim (fun e=>e ▸ g1) (ih g2 d)
theorem Prg.good {l:List Tok} {ds:List Dec} {fs:List Fn} (h:Prg l ds fs) (ht:∀t∈l,v7 t):(∀d∈ds,d.good)/\∀f∈fs,f.good:=by
 obtain ⟨r,h1,h2⟩:=h;obtain ⟨g1,g2⟩:=h1.good ht;exact ⟨g1,h2.good g2⟩
theorem jR {α:Type} (p:α->Bool):∀(l:List α),l.take (l.takeWhile p).length=l.takeWhile p
 | []=>rfl
 | a::l=>by
  rw [Zr];by_cases h:p a=true
  ·rw [if_pos h,YR,ZE,jR p l]
  ·rw [if_neg h];rfl
theorem lv {α:Type} (p:α->Bool):∀(l:List α),(l.takeWhile p).takeWhile p=l.takeWhile p
 | []=>rfl
 | a::l=>by
  rw [Zr];by_cases h:p a=true
  ·rw [if_pos h,Zr,if_pos h,lv p l]
  ·rw [if_neg h];rfl
theorem lK {α:Type} (p:α->Bool):∀(l:List α),(l.takeWhile p).dropWhile p=[]
 | []=>rfl
 | a::l=>by
  rw [Zr];by_cases h:p a=true
  ·rw [if_pos h,List.dropWhile_cons,if_pos h,lK p l]
  ·rw [if_neg h];rfl
theorem JK {r:List UInt8} {k:Int} {n:Nat} {v:Int} (h:bQ r=some (k,n,v)):bQ (r.take n)=some (k,n,v)/\(k=1\/k=2\/k=3)/\(k=2->Bg v)/\(k=1->v=0):=by
 cases r with
 | nil=>simp [bQ] at h
 | cons c t=>
  rw [bQ] at h;by_cases a1:cls c=1
  ·rw [if_pos a1] at h
   split at h
   ·rename_i hl
    simp only [Zc,ZJ] at h;obtain ⟨rfl,rfl,rfl⟩:=h;refine ⟨?_,.inl rfl,fun h=>by omega,fun _=>rfl⟩;rw [aap,ZE,jR,bQ,if_pos a1,lv,if_pos hl,aap]
   ·cases h
  ·rw [if_neg a1] at h
   by_cases a2:cls c=2
   ·rw [if_pos a2] at h
    split at h
    ·rename_i hl
     simp only [Zc,ZJ] at h;obtain ⟨rfl,rfl,rfl⟩:=h;obtain ⟨h1,h2,h3,h4⟩:=hl;refine ⟨?_,.inr (.inl rfl),fun h=>⟨by omega,by omega⟩,fun h=>by omega⟩;rw [aap,ZE,jR,bQ,if_neg a1,if_pos a2,lv,lK,if_pos ⟨h1,h2,h3,rfl⟩,aap]
    ·cases h
   ·rw [if_neg a2] at h
    by_cases a5:cls c=5
    ·rw [if_pos a5] at h
     split at h
     ·rename_i hq
      simp only [Zc,ZJ] at h;obtain ⟨rfl,rfl,rfl⟩:=h
      cases t with
      | nil=>simp [eqq] at hq
      | cons b u=>
       refine ⟨?_,.inr (.inr rfl),fun h=>by omega,fun h=>by omega⟩;show bQ [c,b]=_;rw [bQ,if_neg a1,if_neg a2,if_pos a5,if_pos ⟨hq.1,by have:=hq.2;simpa [eqq] using this⟩]
     ·rename_i hq
      simp only [Zc,ZJ] at h;obtain ⟨rfl,rfl,rfl⟩:=h;refine ⟨?_,.inr (.inr rfl),fun h=>by omega,fun h=>by omega⟩;show bQ [c]=_;rw [bQ,if_neg a1,if_neg a2,if_pos a5,if_neg (by simp [eqq])]
    ·rw [if_neg a5] at h;cases h
theorem JL {s:Str} (h:delta s≠0):∃c,s=[c]/\cls c=5:=by
 unfold delta at h
 split at h
 ·rename_i h1
  rcases h1 with rfl|rfl
  ·exact ⟨_,rfl,by decide⟩
  ·exact ⟨_,rfl,by decide⟩
 ·split at h
  ·rename_i h1
   rcases h1 with rfl|rfl
   ·exact ⟨_,rfl,by decide⟩
   ·exact ⟨_,rfl,by decide⟩
  ·exact absurd rfl h
theorem Vx {r:List UInt8} {k:Int} {n:Nat} {v:Int} (h:bQ r=some (k,n,v)) (a:Int):v7 ⟨k,r.take n,v,a⟩:=by
 obtain ⟨h1,h2,h3,h4⟩:=JK h;have hl:=mb h;refine ⟨fun hk=>?_,h3,fun hk=>?_⟩
 ·have hk:k=1:=hk
  subst hk;show bQ (r.take n)=some (1,(r.take n).length,0);rw [h1,h4 rfl,Y8,aaZ hl.2]
 ·refine Classical.byContradiction fun hd=>?_
  obtain ⟨c,e,hc⟩:=JL hd;have e:r.take n=[c]:=e;rw [e] at h1;rw [bQ,if_neg (by omega),if_neg (by omega),if_pos hc,if_neg (by simp [eqq])] at h1;injection h1 with h1
  injection h1 with h1 _
  exact hk h1.symm
theorem Gs:∀(f:Nat) (r:List UInt8) (a:Int) (l:List Tok),oO f r a=some l->∀t∈l,v7 t
 | 0,[],a,l,h=>by rw [oO] at h;injection h with h;subst h;simp
 | _+1,[],a,l,h=>by rw [oO] at h;injection h with h;subst h;simp
 | 0,c::t,a,l,h=>by unfold oO at h;cases h
 | f+1,c::t,a,l,h=>by
  rw [oO] at h
  split at h
  ·exact Gs f _ _ _ h
  ·split at h
   ·cases h
   ·rename_i k n v ht
    rw [YS] at h;obtain ⟨l',h1,rfl⟩:=h;intro x hx
    rcases Y3.1 hx with rfl|hx
    ·exact Vx ht a
    ·exact Gs f _ _ _ h1 x hx
theorem Bh (s:List UInt8):∀t∈(fD s).1,v7 t:=by
 unfold fD
 split
 ·simp
 ·split
  ·simp
  ·rename_i l h
   exact Gs _ _ _ _ h
end Uw.Tryz
namespace Uw.Tryz
open Go Uw
mutual
theorem Ex.ng:∀(e:Ex) (b:Nat),e.good->sa (e.flat b)
 | .num _,b,_=>.one (fun _=>rfl)
 | .name _,b,_=>.one (fun _=>rfl)
 | .bin k x y,b,⟨hk,hx,hy⟩=>((x.ng b hx).app (y.ng _ hy)).app (.one (by simp only;omega))
 | .call o v ar,b,⟨_,_,h⟩=>(ar.ng b h).app (.one (by simp))
theorem Exs.ng:∀(e:Exs) (b:Nat),e.good->sa (e.flat b)
 | .nil,b,_=>by simp [sa,Exs.flat]
 | .cons e r,b,⟨h1,h2⟩=>(e.ng b h1).app (r.ng _ h2)
end
theorem Bl.sb {x:Bl} {b:Nat} (h:sa (x.flat b)):sa (x.all b):=h.app (.one (by simp))
mutual
theorem Stm.ng:∀(e:Stm) (b:Nat),e.good->sa (e.flat b)
 | .set s e,b,⟨_,h⟩=>(e.ng b h).app (.one (by simp))
 | .task par to f ar,b,⟨_,_,h,_⟩=>(ar.ng b h).app (.one (by simp only;split<;>omega))
 | .sync,b,_=>.one (fun _=>rfl)
 | .if1 e x,b,⟨h1,h2⟩=>((e.ng b h1).app (Bl.sb (x.ng _ h2))).app (.one (by simp))
 | .if2 e x y,b,⟨h1,h2,h3⟩=>(((e.ng b h1).app (Bl.sb (x.ng _ h2))).app (Bl.sb (y.ng _ h3))).app (.one (by simp))
 | .loop e x,b,⟨h1,h2⟩=>((e.ng b h1).app (Bl.sb (x.ng _ h2))).app (.one (by simp))
 | .one k e,b,⟨hk,h⟩=>(e.ng b h).app (.one (by simp only;omega))
 | .act o v ar,b,⟨_,_,h⟩=>((ar.ng b h).app (.one (by simp))).app (.one (by simp))
theorem Bl.ng:∀(e:Bl) (b:Nat),e.good->sa (e.flat b)
 | .nil,b,_=>by simp [sa,Bl.flat]
 | .cons e r,b,⟨h1,h2⟩=>(e.ng b h1).app (r.ng _ h2)
end
theorem yf:∀(fs:List Fn) (b:Nat),(∀f∈fs,f.good)->sa (bV fs b)
 | [],b,_=>by simp [sa,bV]
 | f::fs,b,h=>(Bl.sb (f.body.ng b (h f (ZY ..)).body)).app (yf fs _ fun x hx=>h x (ZH _ hx))
theorem IJ:∀(l:List Nod),sa l->BH (l.map bU) ((l.map Nod.nd).map ndL)
 | [],_=>.refl _
 | x::l,h=>.cons (.cons (.refl _) (.cons (.refl _) (.cons (.refl _) (.cons (.refl _) (.cons (Vv (h x (ZY ..))) (.refl _)))))) (IJ l fun y hy=>h y (ZH _ hy))
theorem Vy {x:List Dec×List Fn} (h:∀f∈x.2,f.good):DLe (X4 x) (pgD (Jk x)):=
 .agg (.cons (.refl _) (.cons (.slice (II x.2 0)) (.cons (.slice (IJ _ (yf x.2 0 h))) (.refl _))))
theorem Ti:DLe noD (pgD BL):=.agg (.cons (.nil 3) (.cons (.nil 3) (.cons (.nil 5) (.refl _))))
theorem Bi:∀(f:Nat) (r:List UInt8) (a:Int) (l:List Tok),oO f r a=some l->l.length<=r.length
 | 0,[],a,l,h=>by rw [oO] at h;injection h with h;subst h;simp
 | _+1,[],a,l,h=>by rw [oO] at h;injection h with h;subst h;simp
 | 0,c::t,a,l,h=>by unfold oO at h;cases h
 | f+1,c::t,a,l,h=>by
  rw [oO] at h
  split at h
  ·have:=Bi f _ _ _ h
   simp;omega
  ·split at h
   ·cases h
   ·rename_i k n v ht
    rw [YS] at h;obtain ⟨l',h1,rfl⟩:=h;have:=Bi f _ _ _ h1;have:=mb ht;simp at *;omega
theorem Bj (s:List UInt8):(fD s).1.length<=s.length:=by
 unfold fD
 split
 ·simp
 ·split
  ·simp
  ·rename_i l h
   exact Bi _ _ _ _ h
theorem Bm (s:List UInt8) (hs:s.length<1000000):Ret P0 fk [.str s] (Tf (ofR s)):=by
 have hno:∀e:Int,DLe (.tuple [noD,I e]) (.tuple [pgD BL,I e]):=fun e=>.tuple (.cons Ti (.refl _));generalize hw:fD s=w;obtain ⟨l,e⟩:=w;have hl:l.length<1000000:=by
  have:=Bj s;rw [hw] at this;simp only at this;omega
 unfold ofR;rw [hw];simp only;by_cases he:e≠0
 ·rw [if_pos he]
  exact (Be s hs l e hw he).res (hno e)
 ·rw [if_neg he]
  have he:e=0:=Classical.byContradiction he;subst he;by_cases hd:40<mJ l 0 0
  ·rw [if_pos hd]
   exact (yD s hs l hl hw hd).res (hno 2)
  ·rw [if_neg hd]
   have hc:=Vu l hl (xP l);have X5:=Q7 l;unfold vd
   cases hp:u9 (xP l) l with
   | out=>exact absurd hp X5
   | bad=>
    rw [hp] at hc;exact (Bf s hs l hl hw (by omega) hc).res (hno 3)
   | ok x r=>
    obtain ⟨ds,fs⟩:=x;rw [hp] at hc;refine (B9 s hs l hl hw (by omega) _ _ _ (bV fs 0) hc).res ?_;refine .tuple (.cons (Vy (x:=(ds,fs)) ?_) (.refl _));have:=Bh s;rw [hw] at this;exact ((KE hp).good this).2
end Uw.Tryz
namespace Uw.Tryz
open Go Uw
def N9 (l:List Nod):Prop:=∀x∈l,x.kind=9->x.name≠[]
theorem N9.app {a b:List Nod} (h1:N9 a) (h2:N9 b):N9 (a++b):=fun x h=>(Y7.1 h).elim (h1 x) (h2 x)
theorem N9.one {x:Nod} (h:x.kind=9->x.name≠[]):N9 [x]:=by intro a ha;simp at ha;subst ha;exact h
theorem P3 {s:Str} (h:ib s):s≠[]:=fun e=>by
 subst e;have:=h.1;simp [P2,bQ] at this
mutual
theorem Ex.n9:∀(e:Ex) (b:Nat),e.good->N9 (e.flat b)
 | .num _,b,_=>.one (fun h=>by simp at h)
 | .name _,b,_=>.one (fun h=>by simp at h)
 | .bin k x y,b,⟨hk,hx,hy⟩=>((x.n9 b hx).app (y.n9 _ hy)).app (.one (by simp only;omega))
 | .call o v ar,b,⟨_,_,h⟩=>(ar.n9 b h).app (.one (fun h=>by simp at h))
theorem Exs.n9:∀(e:Exs) (b:Nat),e.good->N9 (e.flat b)
 | .nil,b,_=>by simp [N9,Exs.flat]
 | .cons e r,b,⟨h1,h2⟩=>(e.n9 b h1).app (r.n9 _ h2)
end
theorem Bl.Bn {x:Bl} {b:Nat} (h:N9 (x.flat b)):N9 (x.all b):=h.app (.one (fun h=>by simp at h))
mutual
theorem Stm.n9:∀(e:Stm) (b:Nat),e.good->N9 (e.flat b)
 | .set s e,b,⟨hs,h⟩=>(e.n9 b h).app (.one (fun _=>P3 hs))
 | .task par to f ar,b,⟨_,_,h,_⟩=>(ar.n9 b h).app (.one (by simp only;split<;>omega))
 | .sync,b,_=>.one (fun h=>by simp at h)
 | .if1 e x,b,⟨h1,h2⟩=>((e.n9 b h1).app (Bl.Bn (x.n9 _ h2))).app (.one (fun h=>by simp at h))
 | .if2 e x y,b,⟨h1,h2,h3⟩=>(((e.n9 b h1).app (Bl.Bn (x.n9 _ h2))).app (Bl.Bn (y.n9 _ h3))).app (.one (fun h=>by simp at h))
 | .loop e x,b,⟨h1,h2⟩=>((e.n9 b h1).app (Bl.Bn (x.n9 _ h2))).app (.one (fun h=>by simp at h))
 | .one k e,b,⟨hk,h⟩=>(e.n9 b h).app (.one (by simp only;omega))
 | .act o v ar,b,⟨_,_,h⟩=>((ar.n9 b h).app (.one (fun h=>by simp at h))).app (.one (fun h=>by simp at h))
theorem Bl.n9:∀(e:Bl) (b:Nat),e.good->N9 (e.flat b)
 | .nil,b,_=>by simp [N9,Bl.flat]
 | .cons e r,b,⟨h1,h2⟩=>(e.n9 b h1).app (r.n9 _ h2)
end
theorem D3:∀(fs:List Fn) (b:Nat),(∀f∈fs,f.good)->N9 (bV fs b)
 | [],b,_=>by simp [N9,bV]
 | f::fs,b,h=>(Bl.Bn (f.body.n9 b (h f (ZY ..)).body)).app (D3 fs _ fun x hx=>h x (ZH _ hx))
theorem Bo:∀(n:Nat) {r r' : List Tok} {l:List Str},cG n r = .ok l r'->Suf r r' l.length
 | 0,_,_,_,h=>by rw [cG] at h;cases h
 | n+1,r,r',l,h=>by
  rw [cG] at h
  split at h
  ·rename_i hh
   obtain ⟨s,r1,h1,h⟩:=bind_ok.1 h;obtain ⟨l2,r2,h2,h⟩:=bind_ok.1 h;injection h with e1 e2
   subst e1 e2;exact ((Suf.hd hh (by decide)).trans ((Suf.name h1).trans (Bo n h2))).le (by simp;omega)
  ·obtain ⟨u,r1,h1,h⟩:=bind_ok.1 h
   injection h with e1 e2
   subst e1 e2;exact (Suf.want (by decide) h1).le (by simp)
theorem SJ {n:Nat} {r r' : List Tok} {f:Fn} (h:rf n r = .ok f r'):r'.length+f.sz<=r.length/\f.args.length<=r.length/\r'.length<r.length:=by
 rw [rf] at h;obtain ⟨u,r1,h1,h⟩:=bind_ok.1 h;obtain ⟨s,r2,h2,h⟩:=bind_ok.1 h;obtain ⟨l,r3,h3,h⟩:=bind_ok.1 h;obtain ⟨b,r4,h4,h⟩:=bind_ok.1 h;injection h with e1 e2
 subst e1 e2;have a1:=(Suf.want (by decide) h1).len;have a2:=(Suf.name h2).len;have a4:=((tr n).block _ _ _ h4).len;have a3:Suf r2 r3 l.length:=by
  rw [jE] at h3;obtain ⟨u,q1,g1,h3⟩:=bind_ok.1 h3
  split at h3
  ·rename_i hh
   injection h3 with e1 e2
   subst e1 e2;exact ((Suf.want (by decide) g1).trans (Suf.hd hh (by decide))).le (by simp)
  ·obtain ⟨s,q2,g2,h3⟩:=bind_ok.1 h3
   obtain ⟨l2,q3,g3,h3⟩:=bind_ok.1 h3;injection h3 with e1 e2
   subst e1 e2;exact ((Suf.want (by decide) g1).trans ((Suf.name g2).trans (Bo n g3))).le (by simp;omega)
 have a3:=a3.len;simp only [Fn.sz];omega
theorem P4 {r:List Tok} {fs:List Fn} (h:BK r fs):eO fs<=r.length/\fs.length<=r.length/\∀f∈fs,f.args.length<=r.length:=by
 induction h with
 | nil=>simp [eO]
 | cons h1 h2 ih=>
  obtain ⟨n,h1⟩:=h1;have:=SJ h1;refine ⟨by rw [eO];omega,by rw [YR];omega,fun f hf=>?_⟩
  rcases Y3.1 hf with rfl|hf
  ·exact this.2.1
  ·have:=ih.2.2 f hf;omega
theorem Vz (s:List UInt8) (h:(ofR s).2≠0):(ofR s).1=BL:=by
 unfold ofR at h ⊢
 split at h
 ·rename_i h1
  rw [if_pos h1]
 ·split at h
  ·rename_i h1 h2
   rw [if_neg h1,if_pos h2]
  ·rename_i h1 h2
   rw [if_neg h1,if_neg h2]
   cases hp:vd (fD s).1 with
   | none=>rfl
   | some x=>rw [hp] at h;exact absurd rfl h
theorem VA (s:List UInt8) (h:(ofR s).2=0):∃ds fs,Prg (fD s).1 ds fs/\(ofR s).1=Jk (ds,fs):=by
 unfold ofR at h ⊢
 split at h
 ·rename_i h1
  exact absurd h h1
 ·split at h
  ·cases h
  ·rename_i h1 h2
   rw [if_neg h1,if_neg h2]
   cases hp:vd (fD s).1 with
   | none=>rw [hp] at h;cases h
   | some x=>exact ⟨x.1,x.2,DC.1 hp,rfl⟩
theorem D4:∀(fs:List Fn) (b:Nat),∀g∈oR fs b,∃f∈fs,g.args=f.args/\g.name=f.name
 | [],_,g,h=>by simp [oR] at h
 | f::fs,b,g,h=>by
  rw [oR] at h
  rcases Y3.1 h with rfl|h
  ·exact ⟨f,by simp,rfl,rfl⟩
  ·obtain ⟨f2,h1,h2⟩:=D4 fs _ g h
   exact ⟨f2,by simp [h1],h2⟩
theorem VB {ns:List Nod} {x:Nod} (h:x∈ns):x.of.length<=(ofs ns).length:=by
 induction ns with
 | nil=>simp at h
 | cons y ns ih=>
  rw [ofs,Z3,YP]
  rcases Y3.1 h with rfl|h
  ·omega
  ·have:=ih h
   rw [ofs] at this;omega
theorem P5 (s:List UInt8) (hs:s.length<100000):Lim (ofR s).1/\U7 (ofR s).1/\(ofR s).1.nodes.length<=s.length/\(ofR s).1.ae.length<=s.length:=by
 by_cases he:(ofR s).2=0
 rotate_left 1
 ·rw [Vz s he]
  exact ⟨⟨by decide,by decide,by decide,by decide,by decide⟩,⟨fun d h=>by simp [BL] at h,fun x h=>by simp [BL] at h⟩,ZP _,ZP _⟩
 ·obtain ⟨ds,fs,hp,e⟩:=VA s he
  have hg:=hp.good (Bh s);obtain ⟨r,h1,h2⟩:=hp;have hl:=Bj s;have a1:=h1.len;obtain ⟨b1,b2,b3⟩:=P4 h2;have hn:((bV fs 0).map Nod.nd).length<=s.length:=by rw [Y5,mI];omega
  have hof:(ofs (bV fs 0)).length<=eO fs:=by
   have:=(rl fs 0).length_eq;rw [YP,List.length_range'] at this;omega
  rw [e];refine ⟨⟨?_,?_,?_,?_,?_⟩,⟨fun d hd=>(hg.1 d hd).n,fun x hx=>?_⟩,hn,?_⟩
  ·exact aa6 hn hs
  ·show (oR fs 0).length<_;rw [wN];omega
  ·show ds.length<_;omega
  ·intro x hx
   obtain ⟨y,hy,rfl⟩:=Zk.1 hx;have:y.of.length<=(ofs (bV fs 0)).length:=VB hy;show (y.of.map _).length<_;rw [Y5];omega
  ·intro g hgm
   obtain ⟨f,hf,e,_⟩:=D4 fs 0 g hgm;rw [e];have:=b3 f hf;omega
  ·obtain ⟨y,hy,rfl⟩:=Zk.1 hx
   exact D3 fs 0 hg.2 y hy
  ·show (oR fs 0).length<=_;rw [wN];omega
end Uw.Tryz
namespace Uw.Tryz
open Go Uw
def alT:List UInt8:=[99,101,108,108,32,120,59,32,109,97,112,32,109,59,32,102,117,110,99,32,102,40,97,41,32,123,32,109,46,112,117,116,40,97,44,32,49,41,59,32,125,32,102,117,110,99,32,109,97,105,110,40,41,32,123,32,105,102,32,120,32,60,32,49,32,123,32,120,32,61,32,50,59,32,125,32,121,32,61,32,112,97,114,32,102,40,48,44,32,51,41,59,32,125]
def MJ:Bd:=⟨1,1,[⟨2,0,0,0⟩,⟨1,1,0,0⟩,⟨11,2,0,2⟩,⟨12,0,0,0⟩,⟨1,0,0,0⟩,⟨17,0,0,0⟩]⟩
def MK:Bd:=⟨0,1,[⟨4,0,0,0⟩,⟨1,1,0,0⟩,⟨9,0,0,0⟩,⟨16,6,0,0⟩,⟨1,2,0,0⟩,⟨5,0,0,0⟩,⟨1,0,0,0⟩,⟨1,3,0,0⟩,⟨13,2,2,0⟩,⟨1,0,0,0⟩,⟨17,0,0,0⟩]⟩
def alC:Cd:=⟨[MJ,MK,xY 0 2],[0],1,0,0,1⟩
abbrev VC (b:Bd):Dat:=.agg [I b.args,I b.locals,.slice 4 (b.ins.map in4) true]
theorem P6 (b:Bd):DLe (VC b) (.agg (bdC b)):=.agg (.cons (.refl _) (.cons (.refl _) (.cons (.slice (.refl _)) (.refl _))))
theorem VD (p:Pg):runT nY.res (exec nY.code (lj []) Tree.done) [.tuple [pgD p,I 0],.tuple [cdD alC,I 0],.tuple [cdD BZ,I 4],.bool true,.bool true,.bool true,.bool false,cb [0,1,2,1,0,1],.bool true,.nil] =
  some ([(fk,[.str alT]),(jH,[pgD p]),(jH,[.agg [.nil,.nil,.nil]]),(iq,[.agg (bdC MJ),VC MJ]),(iq,[.agg (bdC MK),VC MK]),(eT,[cdD alC]),(eT,[L8]),(dZ,[cdD alC,I 0]),(pN,[cb [0,1,2,1,0,1],.slice 1 ([0,1,2,1,0,1].map fun i=>[I i]) true]),(dZ,[cdD alC,I 3])],.bool true):=by kernel_rfl
def P7:List (Nat×bp):=[(dZ,nA),(oW,oY),(oZ,o4),(qm,qn),(o6,o7),(qw,qx),(qo,qp),(eT,ql)]
theorem Gt:∀f m,look P7 f=some m->aM P0 f m:=KA ⟨ui,vk,vl,wQ,vA,wS,wR,wO,trivial⟩
theorem WW:ofP (ofR alT).1=(alC,0):=by kernel_rfl
theorem WX:(ofR alT).2=0:=by kernel_rfl
theorem P8:(evN P7 100).F eT [cdD alC]=some (.bool true):=by kernel_rfl
theorem SK:(evN P7 100).F eT [L8]=some (.bool false):=by kernel_rfl
theorem SL:(evN P7 100).F dZ [cdD alC,I 0]=some (.slice 1 ([0,1,2,1,0,1].map fun i=>[I i]) false):=by kernel_rfl
theorem VF:(evN P7 100).F dZ [cdD alC,I 3]=some .nil:=by kernel_rfl
theorem CB:Ret P0 nX [] (.bool true):=by
 have h1:=Bm alT (by decide);have h2:=lX (ofR alT).1 (P5 alT (by decide)).1;have h3:=lX BL ⟨by decide,by decide,by decide,by decide,by decide⟩;have e3:ofP BL=(BZ,4):=by kernel_rfl
 have h4:=qc MJ MJ (by decide);have h5:=qc MK MK (by decide);have h9:=vU [0,1,2,1,0,1] [0,1,2,1,0,1] (by decide);rw [WW] at h2;rw [e3] at h3;rw [decide_eq_true rfl] at h4 h5 h9;have h1:Ret P0 fk [.str alT] (.tuple [pgD (ofR alT).1,I 0]):=by
  have e:Tf (ofR alT) = .tuple [pgD (ofR alT).1,I (ofR alT).2]:=rfl;rw [e,WX] at h1;exact h1
 exact Ot zM _ _ rfl (VD (ofR alT).1) ⟨h1,h2,h3.args (.cons Ti (.refl _)),h4.args (.cons (.refl _) (.cons (P6 MJ) (.refl _))),h5.args (.cons (.refl _) (.cons (P6 MK) (.refl _))),EO 100 Gt P8,EO 100 Gt SK,EO 100 Gt SL,h9.args (.cons (.refl _) (.cons (.slice (.refl _)) (.refl _))),EO 100 Gt VF,trivial⟩
end Uw.Tryz
namespace Uw.Tryz
open Go Uw
theorem qg (l:List Str) (s:Str) (hl:l.length<1000000000):Ret P0 mN [ei l,.str s] (.bool (decide (s∈l))):=by
 have hm:(l.map fun s=>[Dat.str s]).length=l.length:=by simp
 have hall:(∀(j:Nat) (h:j<l.length),¬l[j]=s)->decide (s∈l)=false:=fun h=>by
  rw [decide_eq_false];intro hm;obtain ⟨j,hj,e⟩:=Y0.1 hm;exact h j hj e
 have hone:∀(j:Nat) (h:j<l.length),l[j]=s->decide (s∈l)=true:=fun j h e=>by
  rw [decide_eq_true];exact e ▸ YT h
 have hel:∀(j:Nat) (h:j<l.length),(l.map fun s=>[Dat.str s])[(j:Int).toNat]? = some [.str l[j]]:=fun j h=>by simp [h]
 generalize decide (s∈l)=R at *;refine aF HG rfl ?_
 repeat refine aw ?_
 refine bn l.length (fun j:Nat=>⟨[(5,.d (I j)),(0,.d (ei l)),(1,.d (.str s))],[],0,[],0⟩) (fun j=>∀h:j<l.length,¬l[j]=s) (by exact Uw.wM) (fun g=>?_) (fun j hj _=>?_)
 ·rw [hall fun j h=>g j h h]
  refine aw ?_;refine aA ?_;exact al rfl rfl rfl rfl rfl
 have he:=hel j hj;have hone:=hone j hj;have hG:¬l[j]=s->(fun j=>∀h:j<l.length,¬l[j]=s) j:=fun h _=>h;clear hall hel;generalize l[j]=x at *;by_cases q:x=s
 ·rw [hone q]
  repeat refine aw ?_
  exact aN (al rfl rfl rfl rfl rfl)
 ·have hG1:=hG q
  repeat refine aw ?_
  exact ay j hG1 (by exact Uw.wM)
def sc (p:Pg) (s:Str):Int:=match cV p s with|some i=>((i:Nat):Int)|none=>-1
theorem SN {p:Pg} {s:Str} (j:Nat) (h:j<p.ae.length) (hn:p.ae[j].name=s) (hb:∀i,(hi:i<j)->¬p.ae[i].name=s):cV p s=some j:=by
 refine Zy.2 ⟨h,by simpa using hn,fun i hi hh=>?_⟩;exact hb i hi (by simpa using hh)
theorem ML {p:Pg} {s:Str} (h:∀(j:Nat) (h:j<p.ae.length),¬p.ae[j].name=s):cV p s=none:=by
 rw [cV,aaS];intro f hf;obtain ⟨j,hj,rfl⟩:=Y0.1 hf;simpa using h j hj
end Uw.Tryz
namespace Uw.Tryz
open Go Uw
theorem wa (k:Int):Ret P0 vB [I k] (I (cQ k)):=by
 by_cases h1:1<=k
 ·by_cases h2:k<=8
  ·rw [show cQ k=1 by rw [cQ,if_pos ⟨h1,h2⟩]]
   refine aF iP rfl ?_
   repeat refine aw ?_
   exact al rfl rfl rfl rfl rfl
  ·by_cases h3:k<=17
   ·rw [show cQ k=2 by rw [cQ,if_neg (by omega),if_pos (by omega)]]
    have h4:9<=k:=by omega
    refine aF iP rfl ?_
    repeat refine aw ?_
    exact al rfl rfl rfl rfl rfl
   ·by_cases h5:k=18
    ·subst h5
     refine aF iP rfl ?_
     repeat refine aw ?_
     exact al rfl rfl rfl rfl rfl
    ·rw [show cQ k=0 by rw [cQ,if_neg (by omega),if_neg (by omega),if_neg h5]]
     refine aF iP rfl ?_
     repeat refine aw ?_
     exact al rfl rfl rfl rfl rfl
 ·rw [show cQ k=0 by rw [cQ,if_neg (by omega),if_neg (by omega),if_neg (by omega)]]
  have h4:¬9<=k:=by omega
  have h5:¬k=18:=by omega
  refine aF iP rfl ?_
  repeat refine aw ?_
  exact al rfl rfl rfl rfl rfl
def lw (p:Pg) (s:Str):Dat:=.tuple [I ((aE p s).getD (-1)),.bool (aE p s).isSome]
theorem P9 {p:Pg} {s:Str} (j:Nat) (h:j<p.decls.length) (hn:p.decls[j].name=s) (hb:∀i,(hi:i<j)->∀h:i<p.decls.length,¬p.decls[i].name=s):aE p s=some p.decls[j].kind:=by
 unfold aE;rw [List.find?_eq_some_iff_getElem.2 ⟨by simpa using hn,j,h,rfl,fun i hi=>by simpa using hb i hi (by omega)⟩];rfl
theorem JM {p:Pg} {s:Str} (h:∀(j:Nat) (h:j<p.decls.length),¬p.decls[j].name=s):aE p s=none:=
 kU.2 fun d hd=>by
  obtain ⟨j,hj,rfl⟩:=Y0.1 hd;exact h j hj
theorem gi (p:Pg) (s:Str) (hp:p.decls.length<1000000):Ret P0 cy [pgD p,.str s] (lw p s):=by
 have hdl:(p.decls.map bM).length=p.decls.length:=by simp
 have hall:(∀(j:Nat) (h:j<p.decls.length),¬p.decls[j].name=s)->lw p s = .tuple [I (-1),.bool false]:=fun h=>by rw [lw,JM h];rfl
 have hone:∀(j:Nat) (h:j<p.decls.length),(∀i,i<j->∀h:i<p.decls.length,¬p.decls[i].name=s)->p.decls[j].name=s->lw p s = .tuple [I p.decls[j].kind,.bool true]:=fun j h hb e=>by
  rw [lw,P9 j h e hb];rfl
 have hel:∀(j:Nat) (h:j<p.decls.length),(p.decls.map bM)[(j:Int).toNat]? = some (bM p.decls[j]):=fun j h=>by simp [h]
 generalize lw p s=R at *;refine aF zY rfl ?_
 repeat refine aw ?_
 refine bn p.decls.length (fun j:Nat=>⟨[(6,.d (I j)),(1,.d (.str s)),(2,.ptr 0 0)],[(0,pgV p)],1,[],0⟩) (fun j=>∀h:j<p.decls.length,¬p.decls[j].name=s) (by exact Uw.wM) (fun g=>?_) (fun j hj hpre=>?_)
 ·rw [hall fun j h=>g j h h]
  refine aw ?_;refine aA ?_;exact al rfl rfl rfl rfl rfl
 have he:=hel j hj;have hone:=hone j hj hpre;have hG:¬p.decls[j].name=s->(fun j=>∀h:j<p.decls.length,¬p.decls[j].name=s) j:=fun h _=>h;clear hall hel;generalize p.decls[j]=f at *;obtain ⟨dk,dn,dv⟩:=f;have he:(p.decls.map bM)[(j:Int).toNat]? = some [I dk,.str dn,I dv]:=he;simp only at hone hG;by_cases q:dn=s
 ·rw [hone q]
  repeat refine aw ?_
  exact aN (al rfl rfl rfl rfl rfl)
 ·have hG1:=hG q
  repeat refine aw ?_
  exact ay j hG1 (by exact Uw.wM)
theorem jo (p:Pg) (s:Str) (hp:p.ae.length<1000000):Ret P0 kP [pgD p,.str s] (I (sc p s)):=by
 have hfl:(p.ae.map fuL).length=p.ae.length:=by simp
 have hall:(∀(j:Nat) (h:j<p.ae.length),¬p.ae[j].name=s)->sc p s = -1:=fun h=>by rw [sc,ML h]
 have hone:∀(j:Nat) (h:j<p.ae.length),(∀i,i<j->∀h:i<p.ae.length,¬p.ae[i].name=s)->p.ae[j].name=s->sc p s=(j:Nat):=fun j h hb e=>by
  rw [sc,SN j h e fun i hi=>hb i hi (by omega)]
 have hel:∀(j:Nat) (h:j<p.ae.length),(p.ae.map fuL)[(j:Int).toNat]? = some (fuL p.ae[j]):=fun j h=>by simp [h]
 generalize sc p s=R at *;refine aF E9 rfl ?_
 repeat refine aw ?_
 refine bn p.ae.length (fun j:Nat=>⟨[(5,.d (I j)),(1,.d (.str s)),(2,.ptr 0 0)],[(0,pgV p)],1,[],0⟩) (fun j=>∀h:j<p.ae.length,¬p.ae[j].name=s) (by exact Uw.wM) (fun g=>?_) (fun j hj hpre=>?_)
 ·rw [hall fun j h=>g j h h]
  refine aw ?_;refine aA ?_;exact al rfl rfl rfl rfl rfl
 have he:=hel j hj;have hone:=hone j hj hpre;have hG:¬p.ae[j].name=s->(fun j=>∀h:j<p.ae.length,¬p.ae[j].name=s) j:=fun h _=>h;clear hall hel;generalize p.ae[j]=f at *;obtain ⟨fn,fa,fb⟩:=f;have he:(p.ae.map fuL)[(j:Int).toNat]? = some [.str fn,ei fa,I fb]:=he;simp only at hone hG;by_cases q:fn=s
 ·rw [hone q]
  repeat refine aw ?_
  exact aN (al rfl rfl rfl rfl rfl)
 ·have hG1:=hG q
  repeat refine aw ?_
  exact ay j hG1 (by exact Uw.wM)
theorem kz (p:Pg) (k:Int) (hp:p.decls.length<1000000):Ret P0 tG [pgD p,I k] (I (bX p.decls k:Nat)):=by
 have hdl:(p.decls.map bM).length=p.decls.length:=by simp
 obtain ⟨E,hE⟩:∃E:Nat->Nat,∀j,E j=bX (p.decls.take j) k:=⟨_,fun _=>rfl⟩
 have hE0:E 0=0:=by rw [hE];rfl
 have hEn:E p.decls.length=bX p.decls k:=by rw [hE,YW]
 have hEl:∀j,E j<=p.decls.length:=fun j=>by
  rw [hE];refine Zp (OU _ _) ?_;rw [Y8];omega
 have hEs:∀(j:Nat) (h:j<p.decls.length),E (j+1)=if p.decls[j].kind=k then E j+1 else E j:=fun j h=>by rw [hE,hE];exact Js _ _ j h
 have hel:∀(j:Nat) (h:j<p.decls.length),(p.decls.map bM)[(j:Int).toNat]? = some (bM p.decls[j]):=fun j h=>by simp [h]
 rw [<- hEn];clear hE hEn;refine aF zX rfl ?_
 repeat refine aw ?_
 refine bn p.decls.length (fun j:Nat=>⟨[(6,.d (I j)),(5,.d (I (E j:Nat))),(1,.d (I k)),(2,.ptr 0 0)],[(0,pgV p)],1,[],0⟩) (fun _=>True) (by exact Uw.wM) (fun _=>?_) (fun j hj _=>?_)
 ·refine aw ?_
  refine aA ?_;exact al rfl rfl rfl rfl rfl
 have he:=hel j hj;have hEs:=hEs j hj;have hEl:=hEl j;clear hel;generalize p.decls[j]=f at *;obtain ⟨dk,dn,dv⟩:=f;have he:(p.decls.map bM)[(j:Int).toNat]? = some [I dk,.str dn,I dv]:=he;simp only at hEs;by_cases q:dk=k
 ·rw [if_pos q] at hEs
  repeat refine aw ?_
  exact ay j trivial (by exact Uw.wM)
 ·rw [if_neg q] at hEs
  repeat refine aw ?_
  exact ay j trivial (by exact Uw.wM)
theorem wb (k:Int) (s:Str):Ret P0 jK [I k,.str s] (I ((cX k s).getD (-1))):=by
 by_cases k1:k=1
 ·subst k1
  by_cases a1:s=LN
  ·subst a1;refine aF dh rfl ?_;repeat refine aw ?_
   exact al rfl rfl rfl rfl rfl
  by_cases a2:s=LO
  ·subst a2;refine aF dh rfl ?_;repeat refine aw ?_
   exact al rfl rfl rfl rfl rfl
  by_cases a3:s=LP
  ·subst a3;refine aF dh rfl ?_;repeat refine aw ?_
   exact al rfl rfl rfl rfl rfl
  rw [show (cX 1 s).getD (-1) = -1 by simp [cX,a1,a2,a3]];have b1:¬s=[103,101,116]:=a1;have b2:¬s=[100,101,108]:=a2;have b3:¬s=[112,117,116]:=a3;refine aF dh rfl ?_;repeat refine aw ?_
  exact al rfl rfl rfl rfl rfl
 by_cases k2:k=2
 ·subst k2
  by_cases a1:s=DG
  ·subst a1;refine aF dh rfl ?_;repeat refine aw ?_
   exact al rfl rfl rfl rfl rfl
  by_cases a2:s=LQ
  ·subst a2;refine aF dh rfl ?_;repeat refine aw ?_
   exact al rfl rfl rfl rfl rfl
  rw [show (cX 2 s).getD (-1) = -1 by simp [cX,a1,a2]];have b1:¬s=[112,117,115,104]:=a1;have b2:¬s=[112,111,112]:=a2;refine aF dh rfl ?_;repeat refine aw ?_
  exact al rfl rfl rfl rfl rfl
 by_cases k3:k=3
 ·subst k3
  by_cases a1:s=DI
  ·subst a1;refine aF dh rfl ?_;repeat refine aw ?_
   exact al rfl rfl rfl rfl rfl
  by_cases a2:s=DJ
  ·subst a2;refine aF dh rfl ?_;repeat refine aw ?_
   exact al rfl rfl rfl rfl rfl
  rw [show (cX 3 s).getD (-1) = -1 by simp [cX,a1,a2]];have b1:¬s=[115,101,110,100]:=a1;have b2:¬s=[114,101,99,118]:=a2;refine aF dh rfl ?_;repeat refine aw ?_
  exact al rfl rfl rfl rfl rfl
 rw [show (cX k s).getD (-1) = -1 by simp [cX,k1,k2,k3]];refine aF dh rfl ?_;repeat refine aw ?_
 exact al rfl rfl rfl rfl rfl
end Uw.Tryz
namespace Uw.Tryz
open Go Uw
theorem m5 (l:List Int) (k:Int) (j:Nat) (h:j<l.length):(l.take (j+1)).count k=if l[j]=k then (l.take j).count k+1 else (l.take j).count k:=by
 rw [YM h,Zq];by_cases e:l[j]=k
 ·rw [if_pos e];simp [e]
 ·rw [if_neg e];simp [e]
theorem ax:∀(l:List Nd),(∀x∈l,x.of.length<100000)->(l.flatMap (·.of)).length<=l.length * 100000
 | [],_=>by simp
 | x::l,h=>by
  have:=h x (by simp);have:=ax l fun y hy=>h y (by simp [hy]);rw [Z3,YP,YR];omega
theorem Gu (p:Pg) (k:Int) (hp:Lim p):Ret P0 vv [pgD p,I k] (I ((eX p).count k:Nat)):=by
 have hN:=hp.nodes;have hF:=hp.ae;have hnl:(p.nodes.map ndL).length=p.nodes.length:=by simp
 have hfl:(p.ae.map fuL).length=p.ae.length:=by simp
 obtain ⟨E,hE⟩:∃E:Nat->Nat,∀j,E j=((p.nodes.take j).flatMap (·.of)).count k:=⟨_,fun _=>rfl⟩
 have hE0:E 0=0:=by rw [hE];simp
 have hEl:∀j,j<=p.nodes.length->E j<=10000000000:=fun j hj=>by
  have h1:=ax (p.nodes.take j) fun x hx=>hp.of x (Zs hx);rw [Y8] at h1;have h2:E j<=((p.nodes.take j).flatMap (·.of)).length:=by rw [hE];exact Z2
  have h3:min j p.nodes.length * 100000<=100000 * 100000:=Zd _ (by omega);omega
 have hEs:∀(j:Nat) (h:j<p.nodes.length),E (j+1)=E j+p.nodes[j].of.count k:=fun j h=>by
  rw [hE,hE,YM h,List.flatMap_append,Zq];simp
 obtain ⟨F,hF0⟩:∃F:Nat->Nat,∀j,F j=E p.nodes.length+((p.ae.take j).map (·.body)).count k:=⟨_,fun _=>rfl⟩
 have hFb:F 0=E p.nodes.length:=by rw [hF0];simp
 have hFe:F p.ae.length=(eX p).count k:=by
  rw [hF0,hE,YW,YW,eX,Zq]
 have hFs:∀(j:Nat) (h:j<p.ae.length),F (j+1)=if p.ae[j].body=k then F j+1 else F j:=fun j h=>by
  have:=m5 (p.ae.map (·.body)) k j (by simpa using h);rw [hF0,hF0,abx,abx,this];simp only [ZZ]
  split<;>rfl
 have hFl:∀j,j<=p.ae.length->F j<=10000100000:=fun j hj=>by
  have h2:((p.ae.take j).map (·.body)).count k<=((p.ae.take j).map (·.body)).length:=Z2;rw [Y5,Y8] at h2;have:=hEl p.nodes.length (YN _);rw [hF0];omega
 have hof:=fun (j:Nat) (h:j<p.nodes.length)=>hp.of p.nodes[j] (YT h);have lZ:∀(j:Nat) (h:j<p.nodes.length),(p.nodes.map ndL)[(j:Int).toNat]? = some (ndL p.nodes[j]):=fun j h=>by simp [h]
 have qP:∀(j:Nat) (h:j<p.ae.length),(p.ae.map fuL)[(j:Int).toNat]? = some (fuL p.ae[j]):=fun j h=>by simp [h]
 rw [<- hFe];clear hE hF0 hFe;refine aF BR rfl ?_
 repeat refine aw ?_
 refine bn p.nodes.length (fun j:Nat=>⟨[(6,.d (I j)),(5,.d (I (E j:Nat))),(1,.d (I k)),(2,.ptr 0 0)],[(0,pgV p)],1,[],0⟩) (fun _=>True) (by exact Uw.wM) (fun _=>?_) (fun j hj _=>?_);rotate_left 1
 ·have he:=lZ j hj
  have hEs:=hEs j hj;have Yo:=hEl j (by omega);have Yp:=hEl (j+1) (by omega);have hof:=hof j hj;clear lZ qP hFs hFb hFl hEl hE0;generalize p.nodes[j]=x at *;obtain ⟨xk,xn,xs,xt,xo⟩:=x;have he:(p.nodes.map ndL)[(j:Int).toNat]? = some [I xk,I xn,.str xs,.str xt,.slice 1 (xo.map fun i=>[I i]) false]:=he;have hol:(xo.map fun i=>[I i]).length=xo.length:=by simp
  simp only at hEs hof;obtain ⟨G,hG⟩:∃G:Nat->Nat,∀i,G i=E j+(xo.take i).count k:=⟨_,fun _=>rfl⟩
  have hG0:G 0=E j:=by rw [hG];simp
  have hGn:G xo.length=E (j+1):=by rw [hG,YW,hEs]
  have hGs:∀(i:Nat) (h:i<xo.length),G (i+1)=if xo[i]=k then G i+1 else G i:=fun i h=>by
   rw [hG,hG,m5 _ _ _ h]
   split<;>rfl
  have hGl:∀i,G i<=E j+100000:=fun i=>by
   have h2:(xo.take i).count k<=(xo.take i).length:=Z2;rw [Y8] at h2;rw [hG];omega
  have hei:∀(i:Nat) (h:i<xo.length),(xo.map fun i=>[I i])[(i:Int).toNat]? = some [I xo[i]]:=fun i h=>by simp [h]
  clear hG hEs
  repeat refine aw ?_
  refine bn xo.length (fun i:Nat=>⟨[(7,.d (I i)),(6,.d (I j)),(5,.d (I (G i:Nat))),(1,.d (I k)),(2,.ptr 0 0)],[(0,pgV p)],1,[],0⟩) (fun _=>True) (by exact Uw.wM) (fun _=>?_) (fun i hi _=>?_)
  ·refine aw ?_
   refine aw ?_;refine aw ?_;refine aA ?_
   repeat refine aw ?_
   exact ay j trivial (by exact Uw.wM)
  have hei:=hei i hi;have hGs:=hGs i hi;have hGl:=hGl i;clear hGn hG0;generalize xo[i]=y at *;by_cases q:y=k
  ·rw [if_pos q] at hGs
   repeat refine aw ?_
   exact ay i trivial (by exact Uw.wM)
  ·rw [if_neg q] at hGs
   repeat refine aw ?_
   exact ay i trivial (by exact Uw.wM)
 clear hEs hE0 hEl lZ hof;refine aw ?_;refine aA ?_
 repeat refine aw ?_
 refine bn p.ae.length (fun j:Nat=>⟨[(8,.d (I j)),(5,.d (I (F j:Nat))),(1,.d (I k)),(2,.ptr 0 0)],[(0,pgV p)],1,[],0⟩) (fun _=>True) (by exact Uw.wM) (fun _=>?_) (fun j hj _=>?_)
 ·refine aw ?_
  refine aA ?_;exact al rfl rfl rfl rfl rfl
 have he:=qP j hj;have hFs:=hFs j hj;have hFl:=hFl j (by omega);clear qP hFb;generalize p.ae[j]=f at *;obtain ⟨fn,fa,fb⟩:=f;have he:(p.ae.map fuL)[(j:Int).toNat]? = some [.str fn,ei fa,I fb]:=he;simp only at hFs;by_cases q:fb=k
 ·rw [if_pos q] at hFs
  repeat refine aw ?_
  exact ay j trivial (by exact Uw.wM)
 ·rw [if_neg q] at hFs
  repeat refine aw ?_
  exact ay j trivial (by exact Uw.wM)
theorem xr {v:Int}:∀{so:List Int},(so.all fun s=>decide (s=v))=true->so.count v=so.length/\∀u,u≠v->so.count u=0
 | [],_=>by simp
 | s::so,h=>by
  simp only [aaJ,YL,decide_eq_true_eq] at h;obtain ⟨rfl,h⟩:=h;obtain ⟨h1,h2⟩:=xr h;exact ⟨by simp [h1],fun u hu=>by rw [Zz,h2 u hu];simp [Ne.symm hu]⟩
inductive X6 (k n k0:Int) (so:List Int):Prop
 | num (h:k=1) (h1:so.length=0) (h2:0<=n) (h3:n<4294967296)
 | none (h:k=2\/k=12) (h1:so.length=0)
 | two (h:k=3\/k=4\/k=5\/k=6\/k=7\/k=11) (h1:so.length=2) (h2:so.count 1=2)
 | many (h:k=8\/k=10) (h1:so.count 1=so.length)
 | one (h:k=9\/k=15\/k=16) (h1:so.length=1) (h2:so.count 1=1)
 | act (h:k=17) (h1:so.length=1) (h2:k0=8)
 | cond (h:k=13) (h0:0<so.length) (h1:so.headD 0=1) (h2:so.count 1=1) (h3:so.count 2=0) (h4:so.count 3=1\/so.count 3=2)
 | loop (h:k=14) (h0:0<so.length) (h1:so.headD 0=1) (h2:so.count 1=1) (h3:so.count 2=0) (h4:so.count 3=1)
 | blk (h:k=18) (h1:so.count 2=so.length)
theorem JO {k n k0:Int} {so:List Int} (h:dY k n so k0=true):X6 k n k0 so/\so.count 1+so.count 2+so.count 3=so.length/\∀s∈so,s=1\/s=2\/s=3:=by
 unfold dY at h
 split at h
 ·rename_i hk
  simp only [YL,decide_eq_true_eq] at h;obtain ⟨⟨rfl,h2⟩,h3⟩:=h;exact ⟨.num hk rfl h2 h3,rfl,by simp⟩
 split at h
 ·rename_i hk
  simp only [decide_eq_true_eq] at h;subst h;exact ⟨.none hk rfl,rfl,by simp⟩
 split at h
 ·rename_i hk
  simp only [decide_eq_true_eq] at h;subst h;exact ⟨.two hk rfl rfl,rfl,by simp⟩
 split at h
 ·rename_i hk
  obtain ⟨h1,h2⟩:=xr h;refine ⟨.many hk h1,by rw [h1,h2 2 (by decide),h2 3 (by decide)];rfl,fun s hs=>.inl ?_⟩;simpa using Y1.1 h s hs
 split at h
 ·rename_i hk
  simp only [decide_eq_true_eq] at h;subst h;exact ⟨.one hk rfl rfl,rfl,by simp⟩
 split at h
 ·rename_i hk
  simp only [YL,decide_eq_true_eq] at h;obtain ⟨rfl,h2⟩:=h;exact ⟨.act hk rfl h2,rfl,by simp⟩
 split at h
 ·rename_i hk
  simp only [Zj,decide_eq_true_eq] at h
  rcases h with rfl|rfl
  ·exact ⟨.cond hk (by decide) rfl rfl rfl (.inl rfl),rfl,by simp⟩
  ·exact ⟨.cond hk (by decide) rfl rfl rfl (.inr rfl),rfl,by simp⟩
 split at h
 ·rename_i hk
  simp only [decide_eq_true_eq] at h;subst h;exact ⟨.loop hk (by decide) rfl rfl rfl rfl,rfl,by simp⟩
 split at h
 ·rename_i hk
  obtain ⟨h1,h2⟩:=xr h;refine ⟨.blk hk h1,by rw [h1,h2 1 (by decide),h2 3 (by decide)];omega,fun s hs=>.inr (.inl ?_)⟩;simpa using Y1.1 h s hs
 ·cases h
end Uw.Tryz
