/- RIc: Ic (merged by merge2.py from the working texts). -/
import Derived.Test.YtkmkjfkpnmhaiaaGreatDoorMa
set_option linter.unusedSimpArgs false
set_option linter.unnecessarySimpa false
set_option linter.unusedVariables false
set_option linter.unusedSectionVars false
namespace Uw.Tryz
open Go Uw
set_option maxRecDepth 8000 in
set_option maxHeartbeats 8000000 in
theorem JW (p:Pg) (s was is:Str) (hs:¬(900:Int)<(s.length:Nat)+(is.length:Nat)) (hra:s.length<=140737488355328) (hrc:is.length<=140737488355328) (hlim:Lim p) (hfm:aY p=true) (hi:¬is=[]) (hw:¬was=[]) (ho:Ret P0 fk [.str s] (.tuple [pgD p,I 0])) (ha:Ret P0 nX [] (.bool true)):Ret P0 gl [.str s,.str was,.str is] (.bool true):=by
 have ht:=VJ was is;have hdl:(p.decls.map bM).length=p.decls.length:=by simp
 have hfl:(p.ae.map fuL).length=p.ae.length:=by simp
 have hnl:(p.nodes.map ndL).length=p.nodes.length:=by simp
 have hN:=hlim.nodes;have hF:=hlim.ae;have hD:=hlim.decls;obtain ⟨F,hF0,hFl,hFs,hFe⟩:=Gx (((p.ae.map (j8 was is))).map fuL);obtain ⟨N,hN0,hNl,hNs,hNe⟩:=Gx (((p.nodes.map (cr was is))).map ndL);have Rq:((p.ae.map (j8 was is)).map fuL).length=p.ae.length:=by simp
 have Ya:((p.nodes.map (cr was is)).map ndL).length=p.nodes.length:=by simp
 rw [Rq] at hFl hFe;rw [Ya] at hNl hNe;have hend:(∀(k:Nat) (h:k<p.decls.length),p.decls[k].name≠was/\p.decls[k].name≠is)->(∀(k:Nat) (h:k<p.ae.length),∀a∈p.ae[k].args,a≠is)->(∀(k:Nat) (h:k<p.nodes.length),p.nodes[k].name≠is)->Turn was is p:=fun h1 h2 h3=>
  ⟨hw,hi,fun d hd=>by obtain ⟨k,hk,rfl⟩:=Y0.1 hd;exact h1 k hk,fun f hf=>by obtain ⟨k,hk,rfl⟩:=Y0.1 hf;exact h2 k hk,fun x hx=>by obtain ⟨k,hk,rfl⟩:=Y0.1 hx;exact h3 k hk⟩
 refine aF dB rfl ?_
 repeat (first|refine aw ?_|refine f1 ?_)
 refine bn p.decls.length (X9 p was is) (fun k=>∀h:k<p.decls.length,p.decls[k].name≠was/\p.decls[k].name≠is) ?_ (fun hd=>?_) (fun k hk hpre=>?_)
 ·exact Uw.wM
 rotate_left 1
 ·have he:(p.decls.map bM)[(k:Int).toNat]? = some (bM p.decls[k]):=by simp [hk]
  have hgood:p.decls[k].name≠was/\p.decls[k].name≠is->∀h:k<p.decls.length,p.decls[k].name≠was/\p.decls[k].name≠is:=fun h _=>h;obtain ⟨⟨dk,dn,dx⟩,hd⟩:∃d,p.decls[k]=d:=⟨_,rfl⟩
  rw [hd] at he;have he:(p.decls.map bM)[(k:Int).toNat]? = some [I dk,.str dn,I dx]:=he;have hdn:p.decls[k].name=dn:=by rw [hd]
  by_cases c1:dn=was
  ·repeat (first|refine aw ?_|refine f1 ?_)
   exact aN (al rfl rfl rfl rfl rfl)
  by_cases c2:dn=is
  ·repeat (first|refine aw ?_|refine f1 ?_)
   exact aN (al rfl rfl rfl rfl rfl)
  repeat (first|refine aw ?_|refine f1 ?_)
  refine ay k (hgood ⟨by rw [hdn];exact c1,by rw [hdn];exact c2⟩) ?_;exact Uw.wM
 repeat (first|refine aw ?_|refine f1 ?_)
 refine aA ?_
 repeat (first|refine aw ?_|refine f1 ?_)
 have hS3:VK p was is (F 0) 0=VK p was is [] 0:=by rw [hF0]
 refine bn p.ae.length (fun k=>VK p was is (F k) k) (fun k=>∀h:k<p.ae.length,∀a∈p.ae[k].args,a≠is) (cH hS3 ?_) (fun hfa=>?_) (fun k hk hpre=>?_)
 ·exact Uw.wM
 rotate_left 1
 ·have hk2:k<((p.ae.map (j8 was is)).map fuL).length:=by omega
  have he:(p.ae.map fuL)[(k:Int).toNat]? = some (fuL p.ae[k]):=by simp [hk]
  have hFk:=hFl k (by omega);have hrow:=hFs k hk2;rw [ZZ,ZZ] at hrow;have hgood:(∀a∈p.ae[k].args,a≠is)->∀h:k<p.ae.length,∀a∈p.ae[k].args,a≠is:=fun h _=>h;have hal:=hlim.args _ (YT hk);obtain ⟨⟨gn,ga,gb⟩,hg⟩:∃g,p.ae[k]=g:=⟨_,rfl⟩
  rw [hg] at he hrow hal;have hga:p.ae[k].args=ga:=by rw [hg]
  rw [hga] at hgood;have he:(p.ae.map fuL)[(k:Int).toNat]? = some [.str gn,.slice 1 (rowT ga) false,I gb]:=he;have hrow:F k++[[.str gn,.slice 1 (rowT (ga.map (cm was is))) false,I gb]]=F (k+1):=hrow;obtain ⟨G,hG0,hGl,hGs,hGe⟩:=Gx (rowT (ga.map (cm was is)));have Yb:(rowT (ga.map (cm was is))).length=ga.length:=by simp
  rw [Yb] at hGl hGe;rw [<- hGe] at hrow;simp only at hal;have hgl:(rowT ga).length=ga.length:=by simp
  have hS4:VL p was is (F k) k gn ga gb (G 0) 0=VL p was is (F k) k gn ga gb [] 0:=by rw [hG0]
  clear hg hga hend hfm hFl hFs hFe hNl hNs hNe
  repeat (first|refine aw ?_|refine f1 ?_)
  refine bn ga.length (fun j=>VL p was is (F k) k gn ga gb (G j) j) (fun j=>∀h:j<ga.length,ga[j]≠is) (cH hS4 ?_) (fun Yc=>?_) (fun j hj S7=>?_)
  ·exact Uw.wM
  rotate_left 1
  ·have he2:(rowT ga)[(j:Int).toNat]? = some [.str ga[j]]:=by simp [hj]
   have hGj:=hGl j (by omega);have hrow2:=hGs j (by omega);have hrow2:G j++[[.str (cm was is ga[j])]]=G (j+1):=by simpa using hrow2
   have Gy:ga[j]≠is->∀h:j<ga.length,ga[j]≠is:=fun h _=>h;obtain ⟨a,hae⟩:∃a,ga[j]=a:=⟨_,rfl⟩
   rw [hae] at he2 hrow2 Gy;have hta:=ht a;by_cases c1:a=is
   ·repeat (first|refine aw ?_|refine f1 ?_)
    exact aN (aN (al rfl rfl rfl rfl rfl))
   have Gy:=Gy c1
   repeat (first|refine aw ?_|refine f1 ?_|refine ag 7 [0,1] hta ?_)
   refine ay j Gy ?_;exact Uw.wM
  have hgood:=hgood fun a ha=>by obtain ⟨j,hj,rfl⟩:=Y0.1 ha;exact Yc j hj hj
  have hGn:=hGl ga.length (YN _);generalize G ga.length=g at *;refine aw ?_;refine aA ?_;refine aw ?_;refine aw ?_;refine ay k hgood ?_;exact Uw.wM
 have hFn:=hFl p.ae.length (YN _);clear hFl hFs;generalize F p.ae.length=f at *;refine aw ?_;refine aA ?_;have hS5:VM p was is f p.ae.length (N 0) 0=VM p was is f p.ae.length [] 0:=by rw [hN0]
 refine bn p.nodes.length (fun k=>VM p was is f p.ae.length (N k) k) (fun k=>∀h:k<p.nodes.length,p.nodes[k].name≠is) (cH hS5 ?_) (fun hna=>?_) (fun k hk hpre=>?_)
 ·exact Uw.wM
 rotate_left 1
 ·have he:(p.nodes.map ndL)[(k:Int).toNat]? = some (ndL p.nodes[k]):=by simp [hk]
  have hNk:=hNl k (by omega);have hrow:=hNs k (by omega);rw [ZZ,ZZ] at hrow;have hgood:p.nodes[k].name≠is->∀h:k<p.nodes.length,p.nodes[k].name≠is:=fun h _=>h;obtain ⟨⟨xk,xn,xs,xt,xo⟩,hx⟩:∃x,p.nodes[k]=x:=⟨_,rfl⟩
  rw [hx] at he hrow;have hxn:p.nodes[k].name=xs:=by rw [hx]
  rw [hxn] at hgood;have he:(p.nodes.map ndL)[(k:Int).toNat]? = some [I xk,I xn,.str xs,.str xt,cb xo]:=he;have hta:=ht xs;clear hx hend hfm hFe hNl hNs hNe hfa hd;by_cases c1:xs=is
  ·repeat (first|refine aw ?_|refine f1 ?_)
   exact aN (al rfl rfl rfl rfl rfl)
  have hgood:=hgood c1;by_cases hkk:xk=2\/xk=9\/xk=10\/xk=11
  ·have e:cr was is ⟨xk,xn,xs,xt,xo⟩=⟨xk,xn,cm was is xs,xt,xo⟩:=if_pos hkk
   rw [e] at hrow;have hrow:N k++[[I xk,I xn,.str (cm was is xs),.str xt,cb xo]]=N (k+1):=hrow
   rcases hkk with rfl|rfl|rfl|rfl
   all_goals repeat (first|refine aw ?_|refine f1 ?_|refine ag 7 [0,1] hta ?_)
   all_goals refine ay k hgood ?_
   all_goals exact Uw.wM
  ·have e:cr was is ⟨xk,xn,xs,xt,xo⟩=⟨xk,xn,xs,xt,xo⟩:=if_neg hkk
   rw [e] at hrow;have hrow:N k++[[I xk,I xn,.str xs,.str xt,cb xo]]=N (k+1):=hrow;have k2:¬xk=2:=by omega
   have k9:¬xk=9:=by omega
   have k10:¬xk=10:=by omega
   have k11:¬xk=11:=by omega
   repeat (first|refine aw ?_|refine f1 ?_)
   refine ay k hgood ?_;exact Uw.wM
 have hT:=hend (fun k hk=>hd k hk hk) (fun k hk=>hfa k hk hk) (fun k hk=>hna k hk hk);have hlq:Lim (bC was is p):=by
  refine ⟨?_,?_,hlim.decls,fun x hx=>?_,fun g hg=>?_⟩
  ·show (p.nodes.map _).length<_
   rw [Y5];exact hN
  ·show (p.ae.map _).length<_
   rw [Y5];exact hF
  ·obtain ⟨y,hy,rfl⟩:=Zk.1 hx
   rw [(cz was is y).2.2.2];exact hlim.of y hy
  ·obtain ⟨y,hy,rfl⟩:=Zk.1 hg
   show (y.args.map _).length<_;rw [Y5];exact hlim.args y hy
 have hwy:=IV _ (by rw [x5];exact hfm) hlq;have hcp:=lX p hlim;have hcq:=lX _ hlq;rw [hT.of] at hcq;obtain ⟨w1',w2',w3'⟩:=VI p hlim;have hsm:=F7 (ofP p).1 (ofP p).1 w1' w2' w3';rw [decide_eq_true rfl] at hsm;have hNn:=hNl p.nodes.length (YN _);clear hNl hNs hT w1' w2' w3' hend hd hfa hna;generalize N p.nodes.length=g at *;have hq:pgD (bC was is p) = .agg [.slice 3 (p.decls.map bM) false,.slice 3 ((f.drop 0).take p.ae.length) false,.slice 5 ((g.drop 0).take p.nodes.length) false]:=by rw [hFe,hNe];rfl
 rw [hq] at hwy hcq;clear hFe hNe hq;generalize jT (bC was is p)=w at *;generalize (ofP p).2=ec at *;generalize (ofP p).1=c at *;refine aw ?_;refine aA ?_;by_cases hw0:w=0
 ·subst hw0
  repeat (first|refine aw ?_|refine f1 ?_)
  exact al rfl rfl rfl rfl rfl
 ·repeat (first|refine aw ?_|refine f1 ?_)
  exact al rfl rfl rfl rfl rfl
theorem yE (s was is:List UInt8) (hra:s.length<=140737488355328) (hrb:was.length<=140737488355328) (hrc:is.length<=140737488355328):Ret P0 gl [.str s,.str was,.str is] (.bool true):=by
 have ha:=CB;by_cases hs:900<s.length+is.length
 ·have hs' : (900:Int)<(s.length:Nat)+(is.length:Nat):=by omega
  refine aF dB rfl ?_
  repeat refine aw ?_
  exact al rfl rfl rfl rfl rfl
 have hs' : ¬(900:Int)<(s.length:Nat)+(is.length:Nat):=by omega
 have ho:=Bm s (by omega);have hlim:=(P5 s (by omega)).1;have hfm:=JV s;have ho:Ret P0 fk [.str s] (.tuple [pgD (ofR s).1,I (ofR s).2]):=ho;generalize (ofR s).1=p at *;generalize (ofR s).2=e0 at *;by_cases he:e0=0
 rotate_left 1
 ·refine aF dB rfl ?_
  repeat refine aw ?_
  exact al rfl rfl rfl rfl rfl
 subst he;by_cases hi:is=[]
 ·subst hi
  refine aF dB rfl ?_
  repeat refine aw ?_
  exact al rfl rfl rfl rfl rfl
 by_cases hw:was=[]
 ·subst hw
  refine aF dB rfl ?_
  repeat refine aw ?_
  exact al rfl rfl rfl rfl rfl
 exact JW p s was is hs' hra hrc hlim (hfm rfl) hi hw ho ha
end Uw.Tryz
