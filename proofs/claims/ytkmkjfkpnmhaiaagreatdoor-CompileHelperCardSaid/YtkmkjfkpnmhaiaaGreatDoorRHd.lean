/- RHd: Hd (merged by merge2.py from the working texts). -/
import Derived.Test.YtkmkjfkpnmhaiaaGreatDoorN8
set_option linter.unusedSimpArgs false
set_option linter.unnecessarySimpa false
set_option linter.unusedVariables false
set_option linter.unusedSectionVars false
namespace Uw.Tryz
open Go Uw
theorem B1 (p:Pg):((ofP p).2≠0/\(ofP p).1=wq)\/(ofP p=(db p,0)/\m3 p=0/\∀(k:Nat) (hk:k<p.ae.length),(dt p k p.ae[k]).ins.length<=400):=by
 by_cases hw:m3 p=0
 ·cases ha:(fU p 0 p.ae).any fun b=>decide (400<b.ins.length) with
  | true=>
   have e:ofP p=(wq,2):=by rw [ofP,if_neg (by simp [hw]),ha];rfl
   rw [e];exact .inl ⟨by simp,rfl⟩
  | false=>
   have e:ofP p=(db p,0):=by rw [ofP,if_neg (by simp [hw]),ha];rfl
   refine .inr ⟨e,hw,fun k hk=>?_⟩;have:=jC p p.ae 0 k hk;rw [Nat.zero_add] at this;have h2:=List.any_eq_false.1 ha _ (List.mem_of_getElem? this);simp at h2;omega
 ·have e:ofP p=(wq,m3 p):=by rw [ofP,if_pos hw]
  rw [e];exact .inl ⟨hw,rfl⟩
theorem Nz {p:Pg} (hfew:∀(k:Nat) (hk:k<p.ae.length),(dt p k p.ae[k]).ins.length<=400) (k:Nat) (hk:k<(db p).ae.length):(db p).ae[k].ins.length<=400:=by
 rcases uu p k hk with ⟨h1,e⟩|⟨j,h1,_,e⟩
 ·rw [e];exact hfew k h1
 ·rw [e];exact (by decide:(30:Nat)<=400)
abbrev pgB (p:Pg):Blk:=.var [.d (.slice 3 (p.decls.map cI) false),.d (.slice 3 (p.ae.map fuL) false),.d (bN p.nodes)]
abbrev myS (p:Pg) (c:Cd) (j:Nat):St:=⟨[(39,.d (I j)),(38,.d (I ((c.ae.map bdC).length:Nat))),(37,.d (.slice 3 (c.ae.map bdC) false)),(5,.ptr 1 0),(2,.d (.bool false))],[(1,cdB c),(0,pgB p)],2,[],0⟩
abbrev Wy (p:Pg) (c:Cd) (k:Nat) (x y:Int) (ins:List (List Dat)) (hl:List Int) (j:Nat):St:=⟨[(71,.d (I j)),(70,.d (I (ins.length:Nat))),(69,.d (.slice 4 ins false)),(9,.d (bT hl)),(39,.d (I k)),(38,.d (I ((c.ae.map bdC).length:Nat))),(37,.d (.slice 3 (c.ae.map bdC) false)),(5,.ptr 1 0),(2,.d (.bool false))],[(1,cdB c),(0,pgB p)],2,[],0⟩
set_option maxRecDepth 8000 in
set_option maxHeartbeats 4000000 in
theorem Ep (s:List UInt8):Ret P0 m4 [.str s] (.bool true):=by
 have ha:=tu;by_cases hs:900<s.length
 ·have hs' : (900:Int)<(s.length:Nat):=by omega
  refine az iL rfl ?_
  repeat refine aw ?_
  exact ak rfl rfl rfl rfl rfl
 have hs' : ¬(900:Int)<(s.length:Nat):=by omega
 have ho:=ut s (by omega);obtain ⟨hlim,hread,_⟩:=Ia s (by omega);have hof:=mj (ofR s).1 hlim;have hcs:=B1 (ofR s).1;have ho:Ret P0 eN [.str s] (.tuple [pgD (ofR s).1,I (ofR s).2]):=ho;generalize (ofR s).1=p at *;generalize (ofR s).2=e0 at *
 rcases hcs with ⟨h1,h2⟩|⟨h1,h2,h3⟩
 ·rw [h2] at hof
  generalize (ofP p).2=e at *;refine az iL rfl ?_
  repeat refine aw ?_
  exact ak rfl rfl rfl rfl rfl
 rw [h1] at hof;have hm:=HD h2;have hR:=Kz hm hread h3;have hcl:=pC p;have hpf:=Aq hm;have hk:=hm.kinds;have hRt:=lE (db p) (by omega) (by rw [show (db p).cells.length=_ from kj p];omega);rw [hR] at hRt;have hfew:=Nz h3;have hok:=Jf hm;have hhe:∀(k:Nat) (hk:k<(db p).ae.length),Ret P0 dz [cdD (db p),I k] (bT (iI (db p).ae[k].ins)):=fun k hk=>by
  have:=gG (db p) (by omega) k (fun b hb=>by
   rw [Int.toNat_natCast,List.getElem?_eq_getElem hk] at hb;injection hb with hb;subst hb
   have:=hfew k hk;omega)
  rwa [show fA (db p) k=iI (db p).ae[k].ins by rw [fA,if_neg (by omega),List.getD,Int.toNat_natCast,List.getElem?_eq_getElem hk];rfl] at this
 have hbn:(db p).ae.length<=32:=by omega
 have hof:Ret P0 fP [pgD p] (.tuple [cdD (db p),I 0]):=hof;clear hR hcl hpf hk h1 h2 h3 hm hread;generalize db p=c at *;have hfl:(c.ae.map bdC).length=c.ae.length:=by simp
 have hel:∀(j:Nat) (h:j<c.ae.length),(c.ae.map bdC)[(j:Int).toNat]? = some (bdC c.ae[j]):=fun j h=>by simp [h]
 refine az iL rfl ?_
 repeat (first|refine aw ?_|refine f1 ?_)
 refine cb c.ae.length (myS p c) (fun _=>True) ?_ (fun _=>?_) (fun k hk _=>?_)
 ·exact Uw.wM
 ·repeat (first|refine aw ?_|refine f1 ?_)
  refine aC ?_
  repeat (first|refine aw ?_|refine f1 ?_)
  exact ak rfl rfl rfl rfl rfl
 have he:=hel k hk;have hh:=hhe k hk;have hf:=hfew k hk;obtain ⟨c1,c2,⟨i0,c3,c4⟩,c5⟩:=hok k hk;clear hel hhe hfew hok hRt;generalize c.ae[k]=b at *;obtain ⟨ba,bl,ins⟩:=b;simp only at hh hf c1 c2 c3 c5;generalize iI ins=hl at *;have he:(c.ae.map bdC)[(k:Int).toNat]? = some [I ba,I bl,.slice 4 (ins.map in4) false]:=he;have hnl:(ins.map in4).length=ins.length:=by simp
 have hhl:(hl.map fun i=>[I i]).length=hl.length:=by simp
 have q1:¬(((ins.map in4).length:Nat):Int)<2:=by omega
 have q2:(((hl.map fun i=>[I i]).length:Nat):Int)=((ins.map in4).length:Nat):=by omega
 have q3:(ins.map in4)[((((ins.map in4).length:Nat):Int) - 1).toNat]? = some (in4 i0):=by
  rw [show ((((ins.map in4).length:Nat):Int) - 1).toNat=ins.length - 1 by omega,List.getElem?_map,c3];rfl
 obtain ⟨io,ia,ib,ic⟩:=i0;simp only at c4;subst c4;have q3:(ins.map in4)[((((ins.map in4).length:Nat):Int) - 1).toNat]? = some [I 17,I ia,I ib,I ic]:=q3;have MX:∀(j:Nat) (h:j<ins.length),(ins.map in4)[(j:Int).toNat]? = some (in4 ins[j]):=fun j h=>by simp [h]
 have Vu:∀(j:Nat) (h:j<ins.length),(hl.map fun i=>[I i])[(j:Int).toNat]? = some [I (hl.getD j 0)]:=fun j h=>by simp [List.getD,show j<hl.length by omega]
 repeat (first|refine aw ?_|refine f1 ?_)
 refine cb ins.length (Wy p c k ba bl (ins.map in4) hl) (fun _=>True) ?_ (fun _=>?_) (fun j hj _=>?_)
 ·exact Uw.wM
 ·refine aw ?_
  refine aC ?_;refine aw ?_;exact aJ k trivial (by exact Uw.wM)
 have he2:=MX j hj;have he3:=Vu j hj;have hr:=c5 j hj;clear MX Vu c5 q3 he hh c3;generalize ins[j]=i at *;generalize hl.getD j 0=h at *;obtain ⟨jo,ja,jb,jc⟩:=i;have he2:(ins.map in4)[(j:Int).toNat]? = some [I jo,I ja,I jb,I jc]:=he2;simp only at hr;by_cases k17:jo=17
 ·subst k17
  rcases hr rfl with hh|hh
  ·have q4:¬(0:Int)<=h:=by omega
   repeat (first|refine aw ?_|refine f1 ?_)
   exact aJ j trivial (by exact Uw.wM)
  ·have q4:(0:Int)<=h:=by omega
   repeat (first|refine aw ?_|refine f1 ?_)
   exact aJ j trivial (by exact Uw.wM)
 ·repeat (first|refine aw ?_|refine f1 ?_)
  exact aJ j trivial (by exact Uw.wM)
end Uw.Tryz
