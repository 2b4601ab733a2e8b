/- RKa: Ka (merged by merge2.py from the working texts). -/
import Derived.Test.YtkmkjfkpnmhaiaaGreatDoorB7
import Derived.Test.YtkmkjfkpnmhaiaaGreatDoorB8
import Derived.Test.YtkmkjfkpnmhaiaaGreatDoorBa
set_option linter.unusedSimpArgs false
set_option linter.unnecessarySimpa false
set_option linter.unusedVariables false
set_option linter.unusedSectionVars false
namespace Uw.Tryz
open Go Uw
theorem C9:∀(r:List Nd) (l:List Str),(gX r l).length<=l.length+r.length
 | [],l=>by rw [gX];simp
 | x::r,l=>by
  rw [gX];refine aa7 (C9 r _) ?_
  split
  ·simp;omega
  ·simp
theorem Dj (p:Pg):∀(l:List Str) (i:Nat),∀b∈lj p i l,b.ins.length<1000000
 | [],_,b,h=>by cases h
 | s::l,i,b,h=>by
  rw [lj] at h
  rcases aaN.1 h with rfl|h
  ·exact (by decide:30<1000000)
  ·exact Dj p l _ b h
theorem Vk (p:Pg) (hp:Lim p):(ofP p).1.ag.length<1000000/\(ofP p).1.cells.length<1000000/\∀f∈(ofP p).1.ag,f.ins.length<1000000:=by
 have hno:DL.ag.length<1000000/\DL.cells.length<1000000/\∀f∈DL.ag,f.ins.length<1000000:=⟨by decide,by decide,fun f h=>by cases h⟩
 by_cases hw:pT p=0
 ·cases ha:(ii p 0 p.ag).any fun b=>decide (400<b.ins.length) with
  | true=>rw [ofP,if_neg (by simp [hw]),ha];exact hno
  | false=>
   rw [ofP,if_neg (by simp [hw]),ha];have h1:=hp.nodes;have h2:=hp.ag;have h3:=hp.decls;have h4:(dA p).length<=0+p.nodes.length:=C9 p.nodes [];refine ⟨?_,?_,fun f hf=>?_⟩
   ·show (ii p 0 p.ag++lj p p.ag.length (dA p)).length<_
    rw [aaw,jR,rE];omega
   ·show ((p.decls.filter _).map _).length<_
    rw [aaT];exact ac3 (adz _ _) (by omega)
   ·rcases aaZ.1 (show f∈ii p 0 p.ag++lj p p.ag.length (dA p) from hf) with hf|hf
    ·have:=abp.1 ha f hf
     simp at this;omega
    ·exact Dj p _ _ f hf
 ·rw [ofP,if_pos hw];exact hno
set_option maxRecDepth 8000 in
set_option maxHeartbeats 8000000 in
theorem yz (s:List UInt8):Ret P0 gI [.str s] (.bool true):=by
 have ha:=DU;by_cases hs:900<s.length
 ·have hs' : (900:Int)<(s.length:Nat):=by omega
  refine aU fZ rfl ?_
  repeat refine aw ?_
  exact aC rfl rfl rfl rfl rfl
 have hs' : ¬(900:Int)<(s.length:Nat):=by omega
 have ho:=vM s (by omega);have hlim:=(RD s (by omega)).1;have bad:∀(p:Pg) (e:Int),e≠0->Ret P0 ez [.str s] (.tuple [pgD p,I e])->Ret P0 gI [.str s] (.bool true):=by
  intro p e he ho;refine aU fZ rfl ?_
  repeat refine aw ?_
  exact aC rfl rfl rfl rfl rfl
 have ho:Ret P0 ez [.str s] (.tuple [pgD (ofR s).1,I (ofR s).2]):=ho;by_cases h0:(ofR s).2=0
 rotate_left 1
 ·exact bad _ _ h0 ho
 cases hx:jD s 0 with
 | none=>rw [P7 hx (by omega)] at h0;cases h0
 | some l=>
  have e3:=Il hx (by omega);rw [e3] at h0 ho hlim;obtain ⟨ds,fs,hp,e4,hd⟩:=WM h0;obtain ⟨v1,v2,v3,v4⟩:=Gj hx (by omega) hp hd;have hlen:=hp.len;have hln:=(Ik hx).1;have hwl:=v4.length_le;rw [aaT] at hwl;have htx:=DK (ds,fs) v3 (by show bR fs<_;omega) (by omega) (by omega);have ho2:=vM (dw [] (nQ (ds,fs))) (by omega);rw [e4] at ho hlim;rw [v2] at ho2;have hcp:=rF (mW (ds,fs)) hlim;obtain ⟨f1,f2,f3⟩:=Vk (mW (ds,fs)) hlim;have hsm:=G5 (ofP (mW (ds,fs))).1 (ofP (mW (ds,fs))).1 f1 f2 f3;rw [decide_eq_true rfl] at hsm;generalize dw [] (nQ (ds,fs))=o at *;generalize mW (ds,fs)=p at *;have ho:Ret P0 ez [.str s] (.tuple [pgD p,I 0]):=ho;have ho2:Ret P0 ez [.str o] (.tuple [pgD p,I 0]):=ho2;clear e3 e4 v2 v3 v4 hp hlen hwl hln bad h0 hx f1 f2 f3 hlim;generalize (ofP p).2=ec at *;generalize (ofP p).1=c at *;refine aU fZ rfl ?_
  repeat (first|refine aw ?_|refine f1 ?_)
  exact aC rfl rfl rfl rfl rfl
end Uw.Tryz
