/- RBm: Bm (merged by merge2.py from the working texts). -/
import Derived.Test.YtikpfliiodgonaaGreatDoorN8
set_option linter.unusedSimpArgs false
set_option linter.unnecessarySimpa false
set_option linter.unusedVariables false
set_option linter.unusedSectionVars false
set_option maxRecDepth 8000
set_option maxHeartbeats 2000000
namespace Uw.Tryz.El
open Go Uw Uw.Tryz Go.Proofs
theorem Md {l:List (List Int)} (h:l.Nodup) (i:Nat) (h1:i+1<(dN l).length):bQ ((dN l).getD i []) ((dN l).getD (i+1) [])=true:=by
 have hp:=abT.1 (JZ l) i (i+1) (by omega) h1 (by omega);have hn:(dN l).Nodup:=(nZ l).nodup_iff.2 h;have hne:(dN l)[i]≠(dN l)[i+1]:=by
  intro e;have:=(List.getElem_inj hn).1 e;omega
 have e1:(dN l).getD i []=(dN l)[i]:=by simp [show i<(dN l).length by omega]
 have e2:(dN l).getD (i+1) []=(dN l)[i+1]:=by simp [h1]
 rw [e1,e2]
 cases h2:bQ (dN l)[i] (dN l)[i+1] with
 | true=>rfl
 | false=>exact absurd (uf _ _ h2 hp) hne
theorem EC (c:Cd) (hr:Rch c):Ret P0 lO [cdD c] (.bool true):=by
 have ha:=EB;have hfw:=J2 c hr
 cases hl:L2 c with
 | false=>
  rw [hl] at hfw;refine ao fY rfl ?_
  repeat refine aw ?_
  exact ai rfl rfl rfl rfl rfl
 | true=>
 rw [hl] at hfw
 rcases J4 c hl with ⟨e,he,hR⟩|⟨hX,hR⟩
 ·have hs:=HQ e
  refine ao fY rfl ?_
  repeat refine aw ?_
  exact ai rfl rfl rfl rfl rfl
 have hd:=hX.done;have hb:=hX.bnd;obtain ⟨L,l1,l2,_⟩:=hb.fails;have l1:(dE c).1.fails=L:=l1;have hrise:=Md (l1 ▸ l2:(dE c).1.fails.Nodup);have hlen:(dN (dE c).1.fails).length=(dE c).1.fails.length:=(nZ _).length_eq;have hsh:∀x∈dN (dE c).1.fails,x.length<1000000:=fun x hx=>by
  have:=hb.short x ((nZ _).mem_iff.1 hx);omega
 have hT1:(dE c).1.values.length<=64:=hd.wi.vals;obtain ⟨V,hV,_⟩:=hd.adds;have hT0:1<=(dE c).1.values.length:=by omega
 have hF:(dE c).1.fails.length<=(dE c).1.values.length:=hd.wi.fails;have hS1:(dE c).1.steps<=2000 * ((dE c).1.values.length:Int):=hd.wi.st1;have hS0:1<=(dE c).1.steps:=by have:(0:Int)+1<=_:=hb.steps;omega
 have hU:((dE c).1.uses.length:Int)<=(dE c).1.steps:=by
  have:((dE c).1.uses.length:Int)<=(0:Nat)+((dE c).1.steps - 0):=hb.uses;omega
 have hv:Vm.isVal ((dE c).1.values.getD 0 0)=true:=by
  refine hb.vals _ ?_;rw [acn,aa9 (by omega)];exact abg _
 simp only [Vm.isVal,aa5,decide_eq_true_eq] at hv;obtain ⟨hv0,hv1⟩:=hv;unfold FZ at hR;clear hb hd hX l1 l2;generalize dN (dE c).1.fails=Fs at *;generalize hFl:(dE c).1.fails.length=nf at *;generalize (dE c).1.values.getD 0 0=v at *;generalize (dE c).1.values.length=T at *;generalize (dE c).1.steps=S at *;have hul:((dE c).1.uses.map eS).length=(dE c).1.uses.length:=by simp
 generalize (dE c).1.uses.map eS=U at *;generalize (dE c).1.uses.length=nu at *;generalize (dE c).1.maps.map aR=D1 at *;generalize (dE c).1.stacks.map aR=D2 at *;generalize (dE c).1.chans.map aR=D3 at *;generalize (dE c).1.splits.map ix=D4 at *;generalize (dE c).1.cells=D5 at *;have hrow:(cN Fs).length=Fs.length:=by simp [cN]
 have hat:∀j (h:j+1<Fs.length),(cN Fs)[((j+1:Nat):Int).toNat]? = some [ae (Fs.getD (j+1) [])]/\(cN Fs)[(((j+1:Nat):Int) - 1).toNat]? = some [ae (Fs.getD j [])]/\Ret P0 eL [ae (Fs.getD j []),ae (Fs.getD (j+1) [])] (.bool true):=by
  intro j h;have e1:Fs.getD j []=Fs[j]:=by simp [show j<Fs.length by omega]
  have e2:Fs.getD (j+1) []=Fs[j+1]:=by simp [h]
  have hrj:=hrise j h;rw [e1,e2] at hrj ⊢;have e3:(((j+1:Nat):Int) - 1).toNat=j:=by omega
  rw [e3];exact ⟨by simp [cN,h],by simp [cN,show j<Fs.length by omega],HS _ _ (hsh _ (abg _)) (hsh _ (abg _)) hrj⟩
 generalize hrF:cN Fs=rF at *;generalize hnF:Fs.length=n at *;rw [show Dat.bool true=Dat.bool (decide (v<4294967296)) by rw [decide_eq_true hv1]];refine ao fY rfl ?_
 repeat refine aw ?_
 refine dM (fun j:Nat=>⟨[(4,.d (I (j+1:Nat))),(3,.ptr 1 0),(2,.d (.bool false)),(1,.ptr 0 0)],[(1,.var [.d (I 0),.d (I v),.d (ae D5),.d (.slice 3 D1 false),.d (.slice 3 D2 false),.d (.slice 3 D3 false),.d (.slice 10 U false),.d (.slice 5 D4 false),.d (I S),.d (I T),.d (.slice 1 rF false)]),(0,.var (cdV c))],2,[],0⟩) (fun j=>True) (fun j=>n - j) 0 (by exact Uw.wM) trivial ?_;intro j _;by_cases hj:j+1<n
 ·obtain ⟨g1,g2,g3⟩:=hat j hj
  have hj' : ((j+1:Nat):Int)<(rF.length:Nat):=by omega
  generalize Fs.getD j []=x at *;generalize Fs.getD (j+1) []=y at *
  repeat refine aw ?_
  refine aW (j+1) trivial (by omega) (by exact Uw.wM)
 ·have hj' : ¬((j+1:Nat):Int)<(rF.length:Nat):=by omega
  repeat refine aw ?_
  refine aZ ?_
  repeat refine aw ?_
  exact ai rfl rfl rfl rfl rfl
end Uw.Tryz.El
