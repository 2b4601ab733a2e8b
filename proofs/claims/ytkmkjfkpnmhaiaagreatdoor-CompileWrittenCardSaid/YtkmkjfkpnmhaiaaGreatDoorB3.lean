/- B3: Uq2 Uq3 Uq4 Un Uz Uz2 Uz3 Uz4 Uz5 Uz6 Uz7 Uz8 Uz9 Uza Uze Uzf Uzg Uzh (merged by merge2.py from the working texts). -/
import Derived.Test.YtkmkjfkpnmhaiaaGreatDoorB2
import Derived.LoopN
import Derived.Recover
import Derived.Carry
import Derived.ProofKit
import Derived.OpenShut
import Derived.SizedLaws
import Derived.Lib.SpaceUEq
import Derived.RangeFuncNested
import Derived.RangeFuncLeaves
set_option linter.unusedSimpArgs false
set_option linter.unnecessarySimpa false
set_option linter.unusedVariables false
set_option linter.unusedSectionVars false
namespace Uw
open Go Go.RowKit
variable [Glob]
def St.uI (st s:St):St:={ st with heap:=s.heap,next:=s.next,defers:=s.defers,base:=s.base }
theorem Ju {op:MOp} {st s:St} (ha:∀t∈op.tmps,look s.regs t=look st.regs t) (hh:s.heap=st.heap) (hn:s.next=st.next) (hd:s.defers=st.defers) (hb:s.base=st.base) (q:V->St->Tree) (x:aG->St->Tree) :
  step op s (fun v s'=>q v (st.uI s')) (fun e s'=>x e (st.uI s'))=step op st q x:=by
 obtain ⟨r,h,n,d,b⟩:=st;obtain ⟨r',h',n',d',b'⟩:=s;simp only at hh hn hd hb ha;subst hh hn hd hb
 cases op with
 | mm mx1 x1 y1=>
  have e0:Opd.ev ⟨r',h',n',d',b'⟩ x1=Opd.ev ⟨r,h',n',d',b'⟩ x1:=av fun t ht=>ha t (by simp [MOp.tmps,ht]);have e1:Opd.ev ⟨r',h',n',d',b'⟩ y1=Opd.ev ⟨r,h',n',d',b'⟩ y1:=av fun t ht=>ha t (by simp [MOp.tmps,ht]);simp only [step,aj,az,aA,e0,e1];rfl
 | fw a1=>
  have e0:Opd.ev ⟨r',h',n',d',b'⟩ a1=Opd.ev ⟨r,h',n',d',b'⟩ a1:=av fun t ht=>ha t (by simp [MOp.tmps,ht]);simp only [step,aj,az,aA,e0];rfl
 | qJ a1 x1=>
  have e0:Opd.ev ⟨r',h',n',d',b'⟩ a1=Opd.ev ⟨r,h',n',d',b'⟩ a1:=av fun t ht=>ha t (by simp [MOp.tmps,ht]);have e1:Opd.ev ⟨r',h',n',d',b'⟩ x1=Opd.ev ⟨r,h',n',d',b'⟩ x1:=av fun t ht=>ha t (by simp [MOp.tmps,ht]);simp only [step,aj,az,aA,e0,e1];rfl
 | yA b1 z1 l1 c1=>
  have e0:Opd.ev ⟨r',h',n',d',b'⟩ l1=Opd.ev ⟨r,h',n',d',b'⟩ l1:=av fun t ht=>ha t (by simp [MOp.tmps,ht]);have e1:Opd.ev ⟨r',h',n',d',b'⟩ c1=Opd.ev ⟨r,h',n',d',b'⟩ c1:=av fun t ht=>ha t (by simp [MOp.tmps,ht]);simp only [step,aj,az,aA,e0,e1];rfl
 | LY k1 b1 s1 x1=>
  have e0:Opd.ev ⟨r',h',n',d',b'⟩ s1=Opd.ev ⟨r,h',n',d',b'⟩ s1:=av fun t ht=>ha t (by simp [MOp.tmps,ht]);have e1:Opd.ev ⟨r',h',n',d',b'⟩ x1=Opd.ev ⟨r,h',n',d',b'⟩ x1:=av fun t ht=>ha t (by simp [MOp.tmps,ht]);simp only [step,aj,az,aA,e0,e1];rfl
 | vO ok1 kk1 z1 m1 x1=>
  have e0:Opd.ev ⟨r',h',n',d',b'⟩ m1=Opd.ev ⟨r,h',n',d',b'⟩ m1:=av fun t ht=>ha t (by simp [MOp.tmps,ht]);have e1:Opd.ev ⟨r',h',n',d',b'⟩ x1=Opd.ev ⟨r,h',n',d',b'⟩ x1:=av fun t ht=>ha t (by simp [MOp.tmps,ht]);simp only [step,aj,az,aA,e0,e1];rfl
 | yB kk1 m1 x1 v1=>
  have e0:Opd.ev ⟨r',h',n',d',b'⟩ m1=Opd.ev ⟨r,h',n',d',b'⟩ m1:=av fun t ht=>ha t (by simp [MOp.tmps,ht]);have e1:Opd.ev ⟨r',h',n',d',b'⟩ x1=Opd.ev ⟨r,h',n',d',b'⟩ x1:=av fun t ht=>ha t (by simp [MOp.tmps,ht]);have e2:Opd.ev ⟨r',h',n',d',b'⟩ v1=Opd.ev ⟨r,h',n',d',b'⟩ v1:=av fun t ht=>ha t (by simp [MOp.tmps,ht]);simp only [step,aj,az,aA,e0,e1,e2];rfl
 | xH n1 zs1 ps1=>
  have e0:∀z,eW ⟨r',h',n',d',b'⟩ z ps1=eW ⟨r,h',n',d',b'⟩ z ps1:=fun z=>ju z fun t ht=>ha t (by simp [MOp.tmps,ht]);simp only [step,aj,az,aA,e0];rfl
 | zK k1 n1 zs1 ps1=>
  have e0:∀k z,iN ⟨r',h',n',d',b'⟩ k z ps1=iN ⟨r,h',n',d',b'⟩ k z ps1:=fun k z=>ll (st:=⟨r,h',n',d',b'⟩) (st':=⟨r',h',n',d',b'⟩) rfl fun t ht=>ha t (by simp [MOp.tmps,ht]);simp only [step,aj,az,aA,e0];rfl
 | lq kk1=>
  simp only [step,aj,az,aA];rfl
 | lkp ok1 kk1 z1 m1 x1=>
  have e0:Opd.ev ⟨r',h',n',d',b'⟩ m1=Opd.ev ⟨r,h',n',d',b'⟩ m1:=av fun t ht=>ha t (by simp [MOp.tmps,ht]);have e1:Opd.ev ⟨r',h',n',d',b'⟩ x1=Opd.ev ⟨r,h',n',d',b'⟩ x1:=av fun t ht=>ha t (by simp [MOp.tmps,ht]);simp only [step,aj,az,aA,e0,e1];rfl
 | oD kk1 m1 x1 v1=>
  have e0:Opd.ev ⟨r',h',n',d',b'⟩ m1=Opd.ev ⟨r,h',n',d',b'⟩ m1:=av fun t ht=>ha t (by simp [MOp.tmps,ht]);have e1:Opd.ev ⟨r',h',n',d',b'⟩ x1=Opd.ev ⟨r,h',n',d',b'⟩ x1:=av fun t ht=>ha t (by simp [MOp.tmps,ht]);have e2:Opd.ev ⟨r',h',n',d',b'⟩ v1=Opd.ev ⟨r,h',n',d',b'⟩ v1:=av fun t ht=>ha t (by simp [MOp.tmps,ht]);simp only [step,aj,az,aA,e0,e1,e2];rfl
 | Dk m1=>
  have e0:Opd.ev ⟨r',h',n',d',b'⟩ m1=Opd.ev ⟨r,h',n',d',b'⟩ m1:=av fun t ht=>ha t (by simp [MOp.tmps,ht]);simp only [step,aj,az,aA,e0];rfl
 | rng x1=>
  have e0:Opd.ev ⟨r',h',n',d',b'⟩ x1=Opd.ev ⟨r,h',n',d',b'⟩ x1:=av fun t ht=>ha t (by simp [MOp.tmps,ht]);simp only [step,aj,az,aA,e0];rfl
 | nxt x1=>
  have e0:Opd.ev ⟨r',h',n',d',b'⟩ x1=Opd.ev ⟨r,h',n',d',b'⟩ x1:=av fun t ht=>ha t (by simp [MOp.tmps,ht]);simp only [step,aj,az,aA,e0];rfl
 | mov x1=>
  have e0:Opd.ev ⟨r',h',n',d',b'⟩ x1=Opd.ev ⟨r,h',n',d',b'⟩ x1:=av fun t ht=>ha t (by simp [MOp.tmps,ht]);simp only [step,aj,az,aA,e0];rfl
 | pick c1 a1 b1=>
  have e0:Opd.ev ⟨r',h',n',d',b'⟩ c1=Opd.ev ⟨r,h',n',d',b'⟩ c1:=av fun t ht=>ha t (by simp [MOp.tmps,ht]);have e1:Opd.ev ⟨r',h',n',d',b'⟩ a1=Opd.ev ⟨r,h',n',d',b'⟩ a1:=av fun t ht=>ha t (by simp [MOp.tmps,ht]);have e2:Opd.ev ⟨r',h',n',d',b'⟩ b1=Opd.ev ⟨r,h',n',d',b'⟩ b1:=av fun t ht=>ha t (by simp [MOp.tmps,ht]);simp only [step,aj,az,aA,e0,e1,e2];rfl
 | box x1=>
  have e0:Opd.ev ⟨r',h',n',d',b'⟩ x1=Opd.ev ⟨r,h',n',d',b'⟩ x1:=av fun t ht=>ha t (by simp [MOp.tmps,ht]);simp only [step,aj,az,aA,e0];rfl
 | alloc zs1=>
  simp only [step,aj,az,aA];rfl
 | build zs1 ps1=>
  have e0:∀z,eW ⟨r',h',n',d',b'⟩ z ps1=eW ⟨r,h',n',d',b'⟩ z ps1:=fun z=>ju z fun t ht=>ha t (by simp [MOp.tmps,ht]);simp only [step,aj,az,aA,e0];rfl
 | load g1 n1 a1=>
  have e0:Opd.ev ⟨r',h',n',d',b'⟩ a1=Opd.ev ⟨r,h',n',d',b'⟩ a1:=av fun t ht=>ha t (by simp [MOp.tmps,ht]);simp only [step,aj,az,aA,e0];rfl
 | store n1 a1 x1=>
  have e0:Opd.ev ⟨r',h',n',d',b'⟩ a1=Opd.ev ⟨r,h',n',d',b'⟩ a1:=av fun t ht=>ha t (by simp [MOp.tmps,ht]);have e1:Opd.ev ⟨r',h',n',d',b'⟩ x1=Opd.ev ⟨r,h',n',d',b'⟩ x1:=av fun t ht=>ha t (by simp [MOp.tmps,ht]);simp only [step,aj,az,aA,e0,e1];rfl
 | fld off1 a1=>
  have e0:Opd.ev ⟨r',h',n',d',b'⟩ a1=Opd.ev ⟨r,h',n',d',b'⟩ a1:=av fun t ht=>ha t (by simp [MOp.tmps,ht]);simp only [step,aj,az,aA,e0];rfl
 | cC x1=>
  have e0:Opd.ev ⟨r',h',n',d',b'⟩ x1=Opd.ev ⟨r,h',n',d',b'⟩ x1:=av fun t ht=>ha t (by simp [MOp.tmps,ht]);simp only [step,aj,az,aA,e0];rfl
 | idx k1 s1 i1=>
  have e0:Opd.ev ⟨r',h',n',d',b'⟩ s1=Opd.ev ⟨r,h',n',d',b'⟩ s1:=av fun t ht=>ha t (by simp [MOp.tmps,ht]);have e1:Opd.ev ⟨r',h',n',d',b'⟩ i1=Opd.ev ⟨r,h',n',d',b'⟩ i1:=av fun t ht=>ha t (by simp [MOp.tmps,ht]);simp only [step,aj,az,aA,e0,e1];rfl
 | idxs s1 i1=>
  have e0:Opd.ev ⟨r',h',n',d',b'⟩ s1=Opd.ev ⟨r,h',n',d',b'⟩ s1:=av fun t ht=>ha t (by simp [MOp.tmps,ht]);have e1:Opd.ev ⟨r',h',n',d',b'⟩ i1=Opd.ev ⟨r,h',n',d',b'⟩ i1:=av fun t ht=>ha t (by simp [MOp.tmps,ht]);simp only [step,aj,az,aA,e0,e1];rfl
 | len b1 s1=>
  have e0:Opd.ev ⟨r',h',n',d',b'⟩ s1=Opd.ev ⟨r,h',n',d',b'⟩ s1:=av fun t ht=>ha t (by simp [MOp.tmps,ht])
  cases b1
  all_goals
   simp only [step,aj,az,aA,e0];rfl
 | bin op1 x1 y1=>
  have e0:Opd.ev ⟨r',h',n',d',b'⟩ x1=Opd.ev ⟨r,h',n',d',b'⟩ x1:=av fun t ht=>ha t (by simp [MOp.tmps,ht]);have e1:Opd.ev ⟨r',h',n',d',b'⟩ y1=Opd.ev ⟨r,h',n',d',b'⟩ y1:=av fun t ht=>ha t (by simp [MOp.tmps,ht]);simp only [step,aj,az,aA,e0,e1];rfl
 | eqb V6 x1 y1=>
  have e0:Opd.ev ⟨r',h',n',d',b'⟩ x1=Opd.ev ⟨r,h',n',d',b'⟩ x1:=av fun t ht=>ha t (by simp [MOp.tmps,ht]);have e1:Opd.ev ⟨r',h',n',d',b'⟩ y1=Opd.ev ⟨r,h',n',d',b'⟩ y1:=av fun t ht=>ha t (by simp [MOp.tmps,ht]);simp only [step,aj,az,aA,e0,e1];rfl
 | not x1=>
  have e0:Opd.ev ⟨r',h',n',d',b'⟩ x1=Opd.ev ⟨r,h',n',d',b'⟩ x1:=av fun t ht=>ha t (by simp [MOp.tmps,ht]);simp only [step,aj,az,aA,e0];rfl
 | call f1 args1=>
  have e0:ep ⟨r',h',n',d',b'⟩ args1=ep ⟨r,h',n',d',b'⟩ args1:=fy fun t ht=>ha t (by simp [MOp.tmps,ht]);simp only [step,aj,az,aA,e0];rfl
 | ext x1 i1=>
  have e0:Opd.ev ⟨r',h',n',d',b'⟩ x1=Opd.ev ⟨r,h',n',d',b'⟩ x1:=av fun t ht=>ha t (by simp [MOp.tmps,ht]);simp only [step,aj,az,aA,e0];rfl
 | aW k1 n1 zs1 ps1=>
  have e0:∀k z,iN ⟨r',h',n',d',b'⟩ k z ps1=iN ⟨r,h',n',d',b'⟩ k z ps1:=fun k z=>ll (st:=⟨r,h',n',d',b'⟩) (st':=⟨r',h',n',d',b'⟩) rfl fun t ht=>ha t (by simp [MOp.tmps,ht]);simp only [step,aj,az,aA,e0];rfl
 | app m1 k1 V7 s1 x1=>
  have e0:Opd.ev ⟨r',h',n',d',b'⟩ s1=Opd.ev ⟨r,h',n',d',b'⟩ s1:=av fun t ht=>ha t (by simp [MOp.tmps,ht]);have e1:Opd.ev ⟨r',h',n',d',b'⟩ x1=Opd.ev ⟨r,h',n',d',b'⟩ x1:=av fun t ht=>ha t (by simp [MOp.tmps,ht]);simp only [step,aj,az,aA,e0,e1];rfl
 | EU m1 k1 V7 zs1 l1 c1=>
  have e0:Opd.ev ⟨r',h',n',d',b'⟩ l1=Opd.ev ⟨r,h',n',d',b'⟩ l1:=av fun t ht=>ha t (by simp [MOp.tmps,ht]);have e1:Opd.ev ⟨r',h',n',d',b'⟩ c1=Opd.ev ⟨r,h',n',d',b'⟩ c1:=av fun t ht=>ha t (by simp [MOp.tmps,ht]);simp only [step,aj,az,aA,e0,e1];rfl
 | zb g1 n1 off1 x1=>
  have e0:Opd.ev ⟨r',h',n',d',b'⟩ x1=Opd.ev ⟨r,h',n',d',b'⟩ x1:=av fun t ht=>ha t (by simp [MOp.tmps,ht]);simp only [step,aj,az,aA,e0];rfl
 | sl k1 x1 lo1 hi1=>
  have e0:Opd.ev ⟨r',h',n',d',b'⟩ x1=Opd.ev ⟨r,h',n',d',b'⟩ x1:=av fun t ht=>ha t (by simp [MOp.tmps,ht]);have e1:∀z,fr ⟨r',h',n',d',b'⟩ z lo1=fr ⟨r,h',n',d',b'⟩ z lo1:=fun z=>fz fun t ht=>ha t (by simp [MOp.tmps,ht]);have e2:∀z,fr ⟨r',h',n',d',b'⟩ z hi1=fr ⟨r,h',n',d',b'⟩ z hi1:=fun z=>fz fun t ht=>ha t (by simp [MOp.tmps,ht]);simp only [step,aj,az,aA,e0,e1,e2];rfl
 | rH x1 lo1 hi1=>
  have e0:Opd.ev ⟨r',h',n',d',b'⟩ x1=Opd.ev ⟨r,h',n',d',b'⟩ x1:=av fun t ht=>ha t (by simp [MOp.tmps,ht]);have e1:∀z,fr ⟨r',h',n',d',b'⟩ z lo1=fr ⟨r,h',n',d',b'⟩ z lo1:=fun z=>fz fun t ht=>ha t (by simp [MOp.tmps,ht]);have e2:∀z,fr ⟨r',h',n',d',b'⟩ z hi1=fr ⟨r,h',n',d',b'⟩ z hi1:=fun z=>fz fun t ht=>ha t (by simp [MOp.tmps,ht]);simp only [step,aj,az,aA,e0,e1,e2];rfl
 | eqn V6 x1=>
  have e0:Opd.ev ⟨r',h',n',d',b'⟩ x1=Opd.ev ⟨r,h',n',d',b'⟩ x1:=av fun t ht=>ha t (by simp [MOp.tmps,ht]);simp only [step,aj,az,aA,e0];rfl
 | eqi V6 x1=>
  have e0:Opd.ev ⟨r',h',n',d',b'⟩ x1=Opd.ev ⟨r,h',n',d',b'⟩ x1:=av fun t ht=>ha t (by simp [MOp.tmps,ht]);simp only [step,aj,az,aA,e0];rfl
 | eqs V6 ks1 x1 y1=>
  have e0:Opd.ev ⟨r',h',n',d',b'⟩ x1=Opd.ev ⟨r,h',n',d',b'⟩ x1:=av fun t ht=>ha t (by simp [MOp.tmps,ht]);have e1:Opd.ev ⟨r',h',n',d',b'⟩ y1=Opd.ev ⟨r,h',n',d',b'⟩ y1:=av fun t ht=>ha t (by simp [MOp.tmps,ht]);simp only [step,aj,az,aA,e0,e1];rfl
 | sub f1 args1=>
  have e0:ep ⟨r',h',n',d',b'⟩ args1=ep ⟨r,h',n',d',b'⟩ args1:=fy fun t ht=>ha t (by simp [MOp.tmps,ht]);simp only [step,aj,az,aA,e0];rfl
 | lp x1 args1=>
  have e0:Opd.ev ⟨r',h',n',d',b'⟩ x1=Opd.ev ⟨r,h',n',d',b'⟩ x1:=av fun t ht=>ha t (by simp [MOp.tmps,ht]);have e1:ep ⟨r',h',n',d',b'⟩ args1=ep ⟨r,h',n',d',b'⟩ args1:=fy fun t ht=>ha t (by simp [MOp.tmps,ht]);simp only [step,aj,az,aA,e0,e1];rfl
 | mK f1 xs1 ys1=>
  have e0:ep ⟨r',h',n',d',b'⟩ xs1=ep ⟨r,h',n',d',b'⟩ xs1:=fy fun t ht=>ha t (by simp [MOp.tmps,ht]);have e1:ep ⟨r',h',n',d',b'⟩ ys1=ep ⟨r,h',n',d',b'⟩ ys1:=fy fun t ht=>ha t (by simp [MOp.tmps,ht]);simp only [step,aj,az,aA,e0,e1];rfl
 | defer x1 args1=>
  have e0:Opd.ev ⟨r',h',n',d',b'⟩ x1=Opd.ev ⟨r,h',n',d',b'⟩ x1:=av fun t ht=>ha t (by simp [MOp.tmps,ht]);have e1:ep ⟨r',h',n',d',b'⟩ args1=ep ⟨r,h',n',d',b'⟩ args1:=fy fun t ht=>ha t (by simp [MOp.tmps,ht]);simp only [step,aj,az,aA,e0,e1];rfl
 | panic x1=>
  have e0:Opd.ev ⟨r',h',n',d',b'⟩ x1=Opd.ev ⟨r,h',n',d',b'⟩ x1:=av fun t ht=>ha t (by simp [MOp.tmps,ht]);simp only [step,aj,az,aA,e0];rfl
 | vN t1 x1=>
  have e0:Opd.ev ⟨r',h',n',d',b'⟩ x1=Opd.ev ⟨r,h',n',d',b'⟩ x1:=av fun t ht=>ha t (by simp [MOp.tmps,ht]);simp only [step,aj,az,aA,e0];rfl
end Uw
namespace Uw
open Go Go.RowKit
variable [Glob]
theorem MG {x i:Nat} {r:List Nat}:sr (x::r) i=true<->x=i\/sr r i=true:=by
 rw [sr]
 cases h:Nat.beq x i with
 | true=>simp [aaB h]
 | false=>
  have:x≠i:=by rintro rfl;simp at h
  simp [this]
theorem ip {i:Nat}:∀{l:List Nat},sr l i=true<->i∈l
 | []=>by simp [sr]
 | x::r=>by rw [MG,ip,aaN];constructor<;>rintro (h|h)<;>simp [h]
theorem qW {E D:List Nat}:∀{l:List Nat},qM l E D=true<->∀j∈l,j∈E\/j∈D
 | []=>by simp [qM]
 | x::r=>by
  rw [qM,aay,abg,ip,ip,qW];simp
theorem Ag {all:List DOp} {i:Nat}:∀{D:List Nat},waited all D i=true<->∃n∈D,∃o,all[n]? = some o/\i∈o.dep
 | []=>by simp [waited]
 | n::D=>by
  rw [waited,abg,Ag];constructor
  ·rintro (h|⟨m,hm,o,h1,h2⟩)
   ·split at h
    ·rename_i o ho;exact ⟨n,by simp,o,ho,ip.1 h⟩
    ·cases h
   ·exact ⟨m,by simp [hm],o,h1,h2⟩
  ·rintro ⟨m,hm,o,h1,h2⟩
   simp at hm
   rcases hm with rfl|hm
   ·left;rw [h1];exact ip.2 h2
   ·right;exact ⟨m,hm,o,h1,h2⟩
structure Jv (l:List DOp):Prop where
 self:∀(i:Nat) (o:DOp),l[i]? = some o->∀t,o.mi.dst=some t->t∉o.mi.tmps
 Sv:∀(i:Nat) (o:DOp),l[i]? = some o->∀j∈o.dep,j<i
 noG:∀(i:Nat) (o:DOp),l[i]? = some o->o.loud=true->o.mi.g=none
 sees:∀(i j:Nat) (x y:DOp),i≠j->l[i]? = some x->l[j]? = some y->∀t,y.mi.dst=some t->x.mi.dst≠some t/\(t∈x.mi.tmps->j<i/\j∈x.dep)
theorem MH {l:List DOp} (h:zQ l=true):Jv l:=by
 unfold zQ at h;rw [aay] at h;have key:∀(i:Nat) (o:DOp),l[i]? = some o->(o.dep.all (fun j=>decide (j<i))&&(!o.loud||o.mi.g.isNone)&&N3 o)=true:=by
  intro i o ho;have hi:i<l.length:=by
   by_cases hh:i<l.length
   ·exact hh
   ·rw [aaJ (by omega)] at ho;cases ho
  have:=aaS.1 h.1 i (abV.2 hi)
  rwa [ho] at this
 refine ⟨?_,?_,?_,?_⟩
 ·intro i o ho t ht hm
  have:=key i o ho;rw [aay] at this;have h2:=this.2;simp only [N3,ht] at h2;have:o.mi.tmps.contains t=true:=by simpa using hm
  rw [this] at h2;simp at h2
 ·intro i o ho j hj
  have:=key i o ho;rw [aay,aay] at this;simpa using aaS.1 this.1.1 j hj
 ·intro i o ho hl
  have:=key i o ho;rw [aay,aay,hl] at this;simpa using this.1.2
 ·intro i j x y hij hx hy t ht
  have hi:i<l.length:=by
   by_cases hh:i<l.length
   ·exact hh
   ·rw [aaJ (by omega)] at hx;cases hx
  have hj:j<l.length:=by
   by_cases hh:j<l.length
   ·exact hh
   ·rw [aaJ (by omega)] at hy;cases hy
  have h1:=aaS.1 (aaS.1 h.2 i (abV.2 hi)) j (abV.2 hj);simp only [abg,beq_iff_eq] at h1
  rcases h1 with h1|h1
  ·exact (hij h1).elim
  ·simp only [Vm,hx,hy,ht,aay,abg] at h1
   refine ⟨by simpa using h1.1,fun hm=>?_⟩
   rcases h1.2 with h2|h2
   ·have:x.mi.tmps.contains t=true:=by simpa using hm
    rw [this] at h2;simp at h2
   ·exact ⟨by simpa using h2.1,ip.1 h2.2⟩
theorem HA {P:Program} {Q:aG->St->Prop} {i:MI} {st:St} {q:aG->St->Tree} (hq:iO i.op=true) (h:WT P Q (dt [i] none st q)):∃v sf,pG P i st v/\dE (put i.dst v st) sf/\WT P Q (q .normal sf):=by
 obtain ⟨vs,sf,kz,h1,h2,h3⟩:=uH (l2:=[]) [i] none st (by simpa using hq) (by intro t w' h' hh;simp at hh) (by simpa using h);obtain ⟨v,vs',rfl,g1,g2⟩:=h1;obtain ⟨rfl,g2⟩:=g2;exact ⟨v,sf,g1,g2,h3⟩
theorem pG.agree {P:Program} {i:MI} {st st1:St} {v:V} (ha:∀t∈i.tmps,look st1.regs t=look st.regs t) (hh:st1.heap=st.heap) (h:pG P i st v):pG P i st1 v:=
 fun st' g1 g2=>h st' (fun t ht=>(g1 t ht).trans (ha t ht)) (g2.trans hh)
theorem jY {dst:Option Nat} {v:V} {st:St} {t:Nat}:look (put dst v st).regs t=if dst=some t then some v else look st.regs t:=by
 cases dst with
 | none=>simp [Uw.put]
 | some d=>simp only [Uw.put,ai,aaP]
structure Sz (P:Program) (all:List DOp) (D E:List Nat) (S:St) (k:Nat):Prop where
 op:∀(i:Nat) (o:DOp),i<k->all[i]? = some o->o.loud=false->i∈E->waited all D i=false->∃v,pG P o.mi S v/\∀d,o.mi.dst=some d->look S.regs d=some v
 sat:∀(i:Nat) (o:DOp),i<k->all[i]? = some o->o.loud=false->(∀j∈o.dep,j∈E\/j∈D)->i∈E
structure Ext (all:List DOp) (D E E' : List Nat) (st st' : St):Prop where
 sub:∀i,i∈E->i∈E'
 quiet:∀(i:Nat) (o:DOp),all[i]? = some o->o.loud=true->i∈E'->i∈E
 same:∀t,(∀(i:Nat) (o:DOp),all[i]? = some o->o.mi.dst=some t->i∈E'->i∈E)->look st'.regs t=look st.regs t
 heap:st'.heap=st.heap
 next:st'.next=st.next
 defers:st'.defers=st.defers
 base:st'.base=st.base
theorem HD {P:Program} {Q:aG->St->Prop} {all:List DOp} (hd:Jv all) (hquiet:∀(i:Nat) (o:DOp),all[i]? = some o->o.loud=false->iO o.mi.op=true) {D:List Nat} {q:List Nat->St->Tree} :
  ∀(l:List DOp) (i:Nat) (E:List Nat) (st:St),l=all.drop i->(∀j∈E,j<i\/True)->Sz P all D E st i->WT P Q (pC all D l i E st q)->
   ∃E' st',Sz P all D E' st' all.length/\Ext all D E E' st st'/\WT P Q (q E' st'):=by
 intro l
 induction l with
 | nil=>
  intro i E st hl _ hp h;have hi:all.length<=i:=by
   have:=congrArg List.length hl;simp at this;omega
  exact ⟨E,st,⟨fun j o hj=>hp.op j o (by omega),fun j o hj=>hp.sat j o (by omega)⟩,⟨fun _ h=>h,fun _ _ _ _ h=>h,fun _ _=>rfl,rfl,rfl,rfl,rfl⟩,h⟩
 | cons o r ih=>
  intro i E st hl _ hp h;have ho:all[i]? = some o:=by
   have:(all.drop i)[0]? = some o:=by rw [<- hl];rfl
   rw [abq] at this;simpa using this
  have hr:r=all.drop (i+1):=by
   rw [<- aaI,<- hl];rfl
  have X7:=hd.Sv i o ho;simp only [pC] at h
  split at h
  ·-- a loud one
   rename_i D7;refine ih (i+1) E st hr (fun _ _=>.inr trivial) ⟨?_,?_⟩ h
   ·intro j oj hj hoj hlj
    by_cases hji:j=i
    ·subst hji;rw [ho] at hoj;injection hoj with hoj;subst hoj;rw [D7] at hlj;cases hlj
    ·exact hp.op j oj (by omega) hoj hlj
   ·intro j oj hj hoj hlj
    by_cases hji:j=i
    ·subst hji;rw [ho] at hoj;injection hoj with hoj;subst hoj;rw [D7] at hlj;cases hlj
    ·exact hp.sat j oj (by omega) hoj hlj
  ·rename_i D7
   have hqo:=hquiet i o ho D7
   split at h
   ·rename_i hmem
    have hmem:=ip.1 hmem
    split at h
    ·rename_i hw
     refine ih (i+1) E st hr (fun _ _=>.inr trivial) ⟨?_,?_⟩ h
     ·intro j oj hj hoj hlj hje hwj
      by_cases hji:j=i
      ·subst hji;rw [hw] at hwj;cases hwj
      ·exact hp.op j oj (by omega) hoj hlj hje hwj
     ·intro j oj hj hoj hlj hdj
      by_cases hji:j=i
      ·subst hji;exact hmem
      ·exact hp.sat j oj (by omega) hoj hlj hdj
    ·rename_i hw
     obtain ⟨v,sf,g1,g2,g3⟩:=HA hqo h;obtain ⟨g4,g5⟩:=g3;refine ih (i+1) E st hr (fun _ _=>.inr trivial) ⟨?_,?_⟩ g5
     ·intro j oj hj hoj hlj hje hwj
      by_cases hji:j=i
      ·subst hji;rw [ho] at hoj;injection hoj with hoj;subst hoj
       refine ⟨v,g1,fun d hdst=>?_⟩;rw [hdst] at g4;simp only at g4;rw [<- g4,g2.regs d,jY,if_pos hdst]
      ·exact hp.op j oj (by omega) hoj hlj hje hwj
     ·intro j oj hj hoj hlj hdj
      by_cases hji:j=i
      ·subst hji;exact hmem
      ·exact hp.sat j oj (by omega) hoj hlj hdj
   ·rename_i hmem
    have hmem:i∉E:=fun hh=>by rw [ip.2 hh] at hmem;cases hmem
    split at h
    ·rename_i hall
     have hall:=qW.1 hall;obtain ⟨v,sf,g1,g2,g3⟩:=HA hqo h
     -- what the new value does not touch
     have hlook:∀t,o.mi.dst≠some t->look sf.regs t=look st.regs t:=fun t ht=>by rw [g2.regs t,jY,if_neg ht]
     have u9:∀(j:Nat) (oj:DOp),all[j]? = some oj->j<=i->∀t∈oj.mi.tmps,look sf.regs t=look st.regs t:=by
      intro j oj hoj hji t ht;refine hlook t (fun hdst=>?_);by_cases hij:j=i
      ·subst hij
       rw [ho] at hoj;injection hoj with hoj;subst hoj
       -- an operation that reads what it writes: its own temporary;then agreement is asked of the state ahead of it
       exact absurd ht (hd.self j o ho t hdst)
      ·have:=(hd.sees j i oj o hij hoj ho t hdst).2 ht
       omega
     have hph:Sz P all D (i::E) sf (i+1):=by
      refine ⟨?_,?_⟩
      ·intro j oj hj hoj hlj hje hwj
       have hheap:sf.heap=st.heap:=by rw [g2.heap];cases o.mi.dst<;>rfl
       by_cases hji:j=i
       ·subst hji;rw [ho] at hoj;injection hoj with hoj;subst hoj
        exact ⟨v,g1.agree (u9 j o ho (aax _)) hheap,fun d hdst=>by rw [g2.regs d,jY,if_pos hdst]⟩
       ·have Y5 : j∈E:=by simpa [hji] using hje
        obtain ⟨u,u1,u2⟩:=hp.op j oj (by omega) hoj hlj Y5 hwj;refine ⟨u,u1.agree (u9 j oj hoj (by omega)) hheap,fun d hdst=>?_⟩;rw [hlook d (fun X8=>(hd.sees j i oj o hji hoj ho d X8).1 hdst)];exact u2 d hdst
      ·intro j oj hj hoj hlj hdj
       by_cases hji:j=i
       ·simp [hji]
       ·have:=hp.sat j oj (by omega) hoj hlj (fun m hm=>by
         have hmj:=hd.Sv j oj hoj m hm
         rcases hdj m hm with h1|h1
         ·simp at h1
          rcases h1 with rfl|h1
          ·omega
          ·exact .inl h1
         ·exact .inr h1)
        simp [this]
     obtain ⟨E',st',p1,p2,p3⟩:=ih (i+1) (i::E) sf hr (fun _ _=>.inr trivial) hph g3
     ·refine ⟨E',st',p1,⟨fun j hj=>p2.sub j (by simp [hj]),fun j oj hoj hlj hje=>by
       have:=p2.quiet j oj hoj hlj hje;simp at this
       rcases this with rfl|this
       ·rw [ho] at hoj;injection hoj with hoj;subst hoj;rw [D7] at hlj;cases hlj
       ·exact this,?_,?_,?_,?_,?_⟩,p3⟩
      ·intro t ht
       rw [p2.same t (fun j oj hoj hdst hje=>by simp [ht j oj hoj hdst hje])];refine hlook t (fun hdst=>hmem (ht i o ho hdst (p2.sub i (by simp))))
      ·rw [p2.heap,g2.heap];cases o.mi.dst<;>rfl
      ·rw [p2.next,g2.next];cases o.mi.dst<;>rfl
      ·rw [p2.defers,g2.defers];cases o.mi.dst<;>rfl
      ·rw [p2.base,g2.base];cases o.mi.dst<;>rfl
    ·rename_i hall
     refine ih (i+1) E st hr (fun _ _=>.inr trivial) ⟨?_,?_⟩ h
     ·intro j oj hj hoj hlj hje hwj
      by_cases hji:j=i
      ·subst hji;exact (hmem hje).elim
      ·exact hp.op j oj (by omega) hoj hlj hje hwj
     ·intro j oj hj hoj hlj hdj
      by_cases hji:j=i
      ·subst hji;rw [ho] at hoj;injection hoj with hoj;subst hoj
       rw [qW.2 hdj] at hall;cases hall
      ·exact hp.sat j oj (by omega) hoj hlj hdj
end Uw
namespace Uw
open Go Go.RowKit
variable [Glob]
theorem va:∀(ops:List Oper) (mi:List MI),mi.length=ops.length->(er ops mi).length=ops.length/\∀(i:Nat) (o:DOp),(er ops mi)[i]? = some o->∃oi,ops[i]? = some oi/\mi[i]? = some o.mi/\o.dep=EY oi/\o.loud = !iO o.mi.op
 | [],[],_=>⟨rfl,fun i o h=>by simp [er] at h⟩
 | [],_::_,h=>by simp at h
 | _::_,[],h=>by simp at h
 | x::ops,y::mi,h=>by
  obtain ⟨h1,h2⟩:=va ops mi (by simpa using h);refine ⟨by simp [er,h1],fun i o ho=>?_⟩
  cases i with
  | zero=>simp [er] at ho;subst ho;exact ⟨x,rfl,rfl,rfl,rfl⟩
  | succ i=>simp [er] at ho;simpa using h2 i o ho
theorem vd {o:Oper} {j:Nat}:j∈EY o<->∃e∈o.after,Region.binds .any e=true/\e.on=j:=by
 simp only [EY,abu,List.mem_filter,Array.mem_toList_iff];constructor
 ·rintro ⟨e,⟨h1,h2⟩,h3⟩;exact ⟨e,h1,h2,h3⟩
 ·rintro ⟨e,h1,h2,h3⟩;exact ⟨e,⟨h1,h2⟩,h3⟩
theorem Ah {P:Program} {Q:aG->St->Prop}:∀{l:List Tree},WT P Q (KE l)->l≠[]/\∀t∈l,WT P Q t
 | [],h=>h.elim
 | [t],h=>⟨by simp,fun u hu=>by simp at hu;subst hu;exact h⟩
 | t::t'::r,h=>by
  obtain ⟨h1,h2⟩:=h;obtain ⟨_,h3⟩:=Ah h2;refine ⟨by simp,fun u hu=>?_⟩;rw [aaN] at hu
  rcases hu with rfl|hu
  ·exact h1
  ·exact h3 u hu
theorem xY {E D:List Nat} {f:Nat->DOp->Tree}:∀{l:List DOp} {k:Nat} {T:Tree},T∈yC E D l k f<->∃i o,l[i]? = some o/\o.loud=true/\sr D (k+i)=false/\qM o.dep E D=true/\T=f (k+i) o
 | [],k,T=>by simp [yC]
 | x::l,k,T=>by
  have ih:=@xY E D f l (k+1) T;have shift:(∃i o,l[i]? = some o/\o.loud=true/\sr D (k+1+i)=false/\qM o.dep E D=true/\T=f (k+1+i) o)->∃i o,(x::l)[i]? = some o/\o.loud=true/\sr D (k+i)=false/\qM o.dep E D=true/\T=f (k+i) o:=by
   rintro ⟨i,o,h1,h2,h3,h4,h5⟩;exact ⟨i+1,o,by simpa using h1,h2,by rw [show k+(i+1)=k+1+i by omega];exact h3,h4,by rw [show k+(i+1)=k+1+i by omega];exact h5⟩
  rw [yC];constructor
  ·intro h
   split at h
   ·rename_i hb
    simp only [aay,acN] at hb;rw [aaN] at h
    rcases h with rfl|h
    ·exact ⟨0,x,rfl,hb.1.1,by simpa using hb.1.2,hb.2,rfl⟩
    ·exact shift (ih.1 h)
   ·exact shift (ih.1 h)
  ·rintro ⟨i,o,h1,h2,h3,h4,h5⟩
   cases i with
   | zero=>
    simp at h1;subst h1;simp only [abT] at h3 h5;rw [h2,h3,h4];simp [h5]
   | succ i=>
    have:T∈yC E D l (k+1) f:=ih.2 ⟨i,o,by simpa using h1,h2,by rw [show k+1+i=k+(i+1) by omega];exact h3,h4,by rw [show k+1+i=k+(i+1) by omega];exact h5⟩
    split
    ·exact aaL _ this
    ·exact this
theorem D8 {D:List Nat}:∀{l:List DOp} {k:Nat},zL D l k=true->∀(i:Nat) (o:DOp),l[i]? = some o->o.loud=true->k+i∈D
 | [],k,_,i,o,h,_=>by simp at h
 | x::l,k,hn,i,o,h,hl=>by
  rw [zL,aay] at hn
  cases i with
  | zero=>
   simp at h;subst h;rw [hl] at hn;simpa using ip.1 (by simpa using hn.1)
  | succ i=>
   have:=D8 hn.2 i o (by simpa using h) hl
   rwa [show k+1+i=k+(i+1) by omega] at this
theorem vf {all:List DOp}:∀{r:gw} {t:Nat} {v:V},look (keepR all r) t=some v->look r t=some v/\∀(i:Nat) (o:DOp),all[i]? = some o->o.mi.dst≠some t
 | [],t,v,h=>by simp [keepR,look] at h
 | (t0,u)::r,t,v,h=>by
  rw [keepR] at h
  split at h
  ·rename_i hb
   obtain ⟨h1,h2⟩:=vf h;refine ⟨?_,h2⟩;rw [ai];by_cases ht:t0=t
   ·subst ht
    exfalso;obtain ⟨o,ho,hd⟩:=abK.1 hb;obtain ⟨i,hi⟩:=acC ho;unfold KF at hd
    split at hd
    ·rename_i d hdst
     have:=aaB hd;subst this;exact h2 i o hi hdst
    ·cases hd
   ·rw [if_neg ht];exact h1
  ·rename_i hb
   rw [ai] at h;by_cases ht:t0=t
   ·subst ht
    rw [if_pos rfl] at h;refine ⟨by rw [ai,if_pos rfl];exact h,fun i o ho hdst=>?_⟩;have:all.any (KF t0)=true:=by
     refine abK.2 ⟨o,aaR ho,?_⟩;unfold KF;rw [hdst];exact acT _
    rw [hb] at this;cases this
   ·rw [if_neg ht] at h
    obtain ⟨h1,h2⟩:=vf h;exact ⟨by rw [ai,if_neg ht];exact h1,h2⟩
noncomputable def D9 (all:List DOp) (r0:gw) (m:Nat) (E D:List Nat) (st:St) (q:aG->St->Tree):Tree:=
 match m with
 | 0=>match zL D all 0 with
  | true=>q .normal st
  | false=>.fail
 | m+1=>KE (yC E D all 0 fun i o=>dt [o.mi] none st fun e EW=>match e with
  | .normal=>zM all r0 m E (i::D) EW q
  | e=>q e { EW with regs:=r0 })
theorem HE (all:List DOp) (r0:gw) (m:Nat) (E D:List Nat) (st:St) (q:aG->St->Tree):zM all r0 m E D st q=pC all D all 0 E st fun E' st'=>D9 all r0 m E' D st' q:=by
 cases m<;>rfl
structure SA (all:List DOp) (st0:St) (listed:Array Bool) (E D:List Nat) (S s:St):Prop where
 none:∀t,(∀(j:Nat) (o:DOp),all[j]? = some o->listed.getD j false=true->o.mi.dst≠some t)->look s.regs t=look st0.regs t
 one:∀(j:Nat) (o:DOp) (t:Nat),all[j]? = some o->listed.getD j false=true->o.mi.dst=some t->look s.regs t=look S.regs t
 other:∀t,(∀(j:Nat) (o:DOp),all[j]? = some o->o.mi.dst≠some t)->look S.regs t=look st0.regs t
 qE:∀(j:Nat) (o:DOp),all[j]? = some o->o.loud=false->listed.getD j false=true->j∈E
 lD:∀(j:Nat) (o:DOp),all[j]? = some o->o.loud=true->(listed.getD j false=true<->j∈D)
 Dl:∀j∈D,∃o:DOp,all[j]? = some o/\o.loud=true
 heap:s.heap=S.heap
 next:s.next=S.next
 defers:s.defers=S.defers
 base:s.base=S.base
section
variable {P : Program} {n : Nat} {pol : Pol} {ops : List Oper} {mi : List MI} {Q : aG -> St -> Prop} {q : aG -> St -> Tree} {w0 : World} {gs : Fr} {st0 : St} {c0 : Cx}
theorem Jw (hc:dV P n pol ops ops=some mi) (hd:Jv (er ops mi)) :
  ∀(d m:Nat) (listed:Array Bool) (E D:List Nat) (S s:St) (c:Cx) (a:Act),left listed ops.length=d->HeadInv .any ops.toArray ops.length listed->Sz P (er ops mi) D E S (er ops mi).length->SA (er ops mi) st0 listed E D S s->c.B=c0.B->c.J0=c0.J0->Rel c w0 n gs s a->
   WT P Q (D9 (er ops mi) (keepR (er ops mi) st0.regs) m E D S q)->wpAny P .any ops.toArray (Came P Q q c0 w0 n gs) d listed a c.w:=by
 obtain ⟨hlen,hget⟩:=sA hc;obtain ⟨hall,hmk⟩:=va ops mi hlen;generalize hA:er ops mi=all at hd hall hmk;have hex:∀i,i<ops.length->∃o,all[i]? = some o:=fun i hi=>⟨all[i]'(by omega),aaU (by omega)⟩
 have hquiet:∀(i:Nat) (o:DOp),all[i]? = some o->o.loud=false->iO o.mi.op=true:=by
  intro i o ho hl;obtain ⟨oi,h1,h2,h3,h4⟩:=hmk i o ho;rw [hl] at h4;simpa using h4.symm
 intro d
 induction d with
 | zero=>
  intro m listed E D S s c a hl hinv hph hact hB hJ r hW;have hlist:=tI hl;have u7:Region.ready .any ops.toArray listed=[]:=by
   rw [ade];intro i hi;obtain ⟨h1,oi,hoi,_⟩:=mem_ready.1 hi;have hilt:i<ops.length:=by simpa using (abL.1 hoi).1
   have h2:=hlist i hilt;rw [getD_both h1] at h2;cases h2
  refine ⟨u7,?_⟩
  cases m with
  | zero=>
   simp only [D9] at hW
   split at hW
   ·have hsame:dE s S:=by
     refine ⟨fun t=>?_,hact.heap.symm,hact.next.symm,hact.defers.symm,hact.base.symm⟩;by_cases hdst:∃(j:Nat) (o:DOp),all[j]? = some o/\o.mi.dst=some t
     ·obtain ⟨j,o,ho,ht⟩:=hdst
      have hj:j<ops.length:=by
       by_cases hh:j<all.length
       ·omega
       ·rw [aaJ (by omega)] at ho;cases ho
      exact (hact.one j o t ho (hlist j hj) ht).symm
     ·rw [hact.none t (fun j o ho _ ht=>hdst ⟨j,o,ho,ht⟩),hact.other t (fun j o ho ht=>hdst ⟨j,o,ho,ht⟩)]
    exact ⟨c,.normal,S,hB,hJ,rfl,trivial,r.same hsame,hW⟩
   ·exact hW.elim
  | succ m=>
   exfalso;simp only [D9] at hW;obtain ⟨hne,_⟩:=Ah hW;apply hne;rw [ade];intro T hT;obtain ⟨i,o,ho,hlo,hnd,_⟩:=xY.1 hT;rw [aaF] at hnd;have hi:i<ops.length:=by
    by_cases hh:i<all.length
    ·omega
    ·rw [aaJ (by omega)] at ho;cases ho
   have:=ip.2 ((hact.lD i o ho hlo).1 (hlist i hi));rw [hnd] at this;cases this
 | succ d ih=>
  intro m listed E D S s c a hl hinv hph hact hB hJ r hW;obtain ⟨i0,hi0,hu0,hlo0⟩:=kA (listed:=listed) (h:=ops.length) (by omega);have hsz:=hinv.size;have Y4:listed.size=ops.length:=by simpa using hsz
  have u7:i0∈Region.ready .any ops.toArray listed:=by
   rw [mem_ready];refine ⟨getD_in (by omega) hu0,?_⟩;obtain ⟨o0,ho0⟩:=hex i0 hi0;obtain ⟨oi,h1,h2,h3,h4⟩:=hmk i0 o0 ho0;refine ⟨oi,by simpa using h1,fun e he hb=>?_⟩;exact hlo0 _ (hd.Sv i0 o0 ho0 e.on (by rw [h3];exact vd.2 ⟨e,he,hb,rfl⟩))
  refine ⟨fun h0=>(by rw [h0] at u7;cases u7),?_⟩;intro i hi;obtain ⟨hui,oi,hoi,OI⟩:=mem_ready.1 hi;have Hz:=getD_both hui;have hoi' : ops[i]? = some oi:=by simpa using hoi
  have hilt:i<ops.length:=by
   by_cases hh:i<ops.length
   ·exact hh
   ·rw [aaJ (by omega)] at hoi';cases hoi'
  obtain ⟨o,ho⟩:=hex i hilt;obtain ⟨oi2,h1,hmi,X7,D7⟩:=hmk i o ho;have:oi2=oi:=acW (h1.symm.trans hoi');subst this;obtain ⟨x,hx,hg,hop,hdst,hdn⟩:=hget i oi2 hoi';have hxo:x=o.mi:=acW (hx.symm.trans hmi);subst hxo;have hdl:∀j∈o.dep,listed.getD j false=true:=by
   intro j hj;rw [X7] at hj;obtain ⟨e,he,hb,rfl⟩:=vd.1 hj;exact OI e he hb
  have OL:∀j∈o.dep,j∈E\/j∈D:=by
   intro j hj;have hji:=hd.Sv i o ho j hj;obtain ⟨oj,hoj⟩:=hex j (by omega)
   cases hlj:oj.loud with
   | true=>exact .inr ((hact.lD j oj hoj hlj).1 (hdl j hj))
   | false=>exact .inl (hact.qE j oj hoj hlj (hdl j hj))
  have u9:∀t∈o.mi.tmps,look s.regs t=look S.regs t:=by
   intro t ht;by_cases hdst:∃(j:Nat) (oj:DOp),all[j]? = some oj/\oj.mi.dst=some t
   ·obtain ⟨j,oj,hoj,htj⟩:=hdst
    by_cases hji:j=i
    ·subst hji
     rw [ho] at hoj;injection hoj with hoj;subst hoj
     exact absurd ht (hd.self j o ho t htj)
    ·have:=(hd.sees i j o oj (Ne.symm hji) ho hoj t htj).2 ht
     exact hact.one j oj t hoj (hdl j this.2) htj
   ·rw [hact.none t (fun j oj hoj _ htj=>hdst ⟨j,oj,hoj,htj⟩),hact.other t (fun j oj hoj htj=>hdst ⟨j,oj,hoj,htj⟩)]
  have hleft:left (listed.setIfInBounds i true) ops.length=d:=by
   have:=Af (listed:=listed) (i:=i) (by omega) Hz (h:=ops.length) hilt;omega
  have hinv':=hinv.set hi hilt;have hii:(listed.setIfInBounds i true).getD i false=true:=by simp [show i<listed.size by omega]
  have qV:∀j,(listed.setIfInBounds i true).getD j false=true->j=i\/listed.getD j false=true:=by
   intro j hj;by_cases hji:j=i
   ·exact .inl hji
   ·rw [getD_set_ne false (Ne.symm hji)] at hj;exact .inr hj
  cases hlo:o.loud with
  | false=>
   have hiE:=hph.sat i o (by omega) ho hlo OL;have hwd:waited all D i=false:=by
    cases hw:waited all D i with
    | false=>rfl
    | true=>
     obtain ⟨nn,hn,on,hon,hin⟩:=Ag.1 hw;obtain ⟨on',Y6,Y7⟩:=hact.Dl nn hn;have:on' = on:=acW (Y6.symm.trans hon);subst this;have hnl:=(hact.lD nn on' hon Y7).2 hn;obtain ⟨oo,k1,k2,k3,k4⟩:=hmk nn on' hon;rw [k3] at hin;obtain ⟨e,he,hb,heq⟩:=vd.1 hin;have:=hinv.closed nn oo (by simpa using k1) hnl e he hb;rw [heq,Hz] at this;cases this
   obtain ⟨v,hok,hvS⟩:=hph.op i o (by omega) ho hlo hiE hwd;have KQ : ∀u,(∀dd,o.mi.dst=some dd->look S.regs dd=some u)->SA all st0 (listed.setIfInBounds i true) E D S (put o.mi.dst u s):=by
    intro u hu;have hput:(put o.mi.dst u s).heap=s.heap/\(put o.mi.dst u s).next=s.next/\(put o.mi.dst u s).defers=s.defers/\(put o.mi.dst u s).base=s.base:=by
     cases o.mi.dst<;>simp [Uw.put]
    refine ⟨?_,?_,hact.other,?_,?_,hact.Dl,by rw [hput.1,hact.heap],by rw [hput.2.1,hact.next],by rw [hput.2.2.1,hact.defers],by rw [hput.2.2.2,hact.base]⟩
    ·intro t ht
     rw [jY,if_neg (ht i o ho hii)];exact hact.none t (fun j oj hoj hlj=>ht j oj hoj (getD_set_true hlj))
    ·intro j oj t hoj hlj htj
     by_cases hji:j=i
     ·subst hji
      rw [ho] at hoj;injection hoj with hoj;subst hoj
      rw [jY,if_pos htj,hu t htj]
     ·rw [jY,if_neg (hd.sees i j o oj (Ne.symm hji) ho hoj t htj).1]
      exact hact.one j oj t hoj ((qV j hlj).resolve_left hji) htj
    ·intro j oj hoj hlj hl'
     by_cases hji:j=i
     ·subst hji;exact hiE
     ·exact hact.qE j oj hoj hlj ((qV j hl').resolve_left hji)
    ·intro j oj hoj hlj
     have hji:j≠i:=by rintro rfl;rw [ho] at hoj;injection hoj with hoj;subst hoj;rw [hlo] at hlj;cases hlj
     rw [getD_set_ne false (Ne.symm hji)];exact hact.lD j oj hoj hlj
   unfold wpOp;simp only [hoi]
   rcases hok s u9 hact.heap with ⟨hgr,hstep⟩|⟨hgr,rfl⟩
   ·rw [lw r hg hgr]
    simp only [if_true];left;have hW2:=hstep (fun _ z=>z=put (some 0) v s) (fun v' s'=>Tree.done .normal (put (some 0) v' s')) (fun _ _=>.fail) rfl;refine step_ok (xx:=fun _ _=>Tree.fail) r hop ?_ (fun c' st' d ch _ _ _ _ _ hq=>False.elim hq) hW2;intro c' s' a' v' gv hB' hJ' htm r' yH hv' hq;simp only [WT,Uw.put,St.mk.injEq,abE,abf,true_and] at hq;obtain ⟨⟨rfl,e1⟩,e2,e3,e4,e5⟩:=hq;have hss:s' = s:=by cases s';cases s;simp_all
    subst hss;refine ih m _ E D S (put o.mi.dst v' s') c' _ hleft hinv' hph (KQ v' hvS) (hB'.trans hB) (hJ'.trans hJ) ?_ hW;rw [hdst];exact r'.put hdn hv'
   ·rw [lw r hg hgr]
    simp only [aaX,if_false];refine ih m _ E D S (put o.mi.dst (.tuple []) s) c _ hleft hinv' hph (KQ (.tuple []) hvS) hB hJ ?_ hW;rw [hdst];exact r.put hdn (by simp [aB,ay,undef])
  | true=>
   have hnG:=hd.noG i o ho hlo;have hiD:i∉D:=fun hh=>by
    have:=(hact.lD i o ho hlo).2 hh;rw [Hz] at this;cases this
   cases m with
   | zero=>
    exfalso;simp only [D9] at hW
    split at hW
    ·rename_i hn
     have:=D8 hn i o ho hlo;rw [aaF] at this;exact hiD this
    ·exact hW
   | succ m=>
    simp only [D9] at hW;have hmem:=(Ah hW).2 _ (xY.2 ⟨i,o,ho,hlo,by
     rw [aaF]
     cases hh:sr D i with
     | false=>rfl
     | true=>exact (hiD (ip.1 hh)).elim,qW.2 OL,rfl⟩)
    rw [aaF] at hmem;simp only [sj,qK,EV,hnG] at hmem;have SB:∀t∈o.mi.op.tmps,look s.regs t=look S.regs t:=fun t ht=>u9 t (by simp [MI.tmps,ht]);rw [<- Ju SB hact.heap hact.next hact.defers hact.base] at hmem;unfold wpOp;simp only [hoi];have hwant:Region.wanted oi2 (yielded ops.toArray a.tmps)=true:=lw r hg (by simp [ub,hnG]);rw [hwant];simp only [if_true];left;refine step_ok r hop ?_ ?_ hmem
    ·intro c' s' a' v gv hB' hJ' htm r' yH hv hq
     simp only [] at hq;rw [HE] at hq;obtain ⟨E',S',p1,p2,p3⟩:=HD hd hquiet all 0 E (put o.mi.dst v (S.uI s')) rfl (fun _ _=>.inr trivial) ⟨fun j _ hj=>by omega,fun j _ hj=>by omega⟩ hq;have Vq:∀t,look (put o.mi.dst v (S.uI s')).regs t=if o.mi.dst=some t then some v else look S.regs t:=fun t=>by rw [jY];rfl
     have hold:∀(j:Nat) (oj:DOp) (t:Nat),all[j]? = some oj->(listed.setIfInBounds i true).getD j false=true->oj.mi.dst=some t->look S'.regs t=look (put o.mi.dst v (S.uI s')).regs t:=by
      intro j oj t hoj hlj htj;refine p2.same t (fun j' oj' OM Y8 hjE=>?_);have hjj:j' = j:=by
       by_cases hjj:j' = j
       ·exact hjj
       ·exact ((hd.sees j' j oj' oj hjj OM hoj t htj).1 Y8).elim
      subst hjj;rw [hoj] at OM;injection OM with OM;subst OM
      by_cases hji:j' = i
      ·subst hji
       exact p2.quiet j' oj hoj (by rw [ho] at hoj;injection hoj with hoj;subst hoj;exact hlo) hjE
      ·cases X9 : oj.loud with
       | false=>exact hact.qE j' oj hoj X9 ((qV j' hlj).resolve_left hji)
       | true=>exact p2.quiet j' oj hoj X9 hjE
     have hput:(put o.mi.dst v s').heap=s'.heap/\(put o.mi.dst v s').next=s'.next/\(put o.mi.dst v s').defers=s'.defers/\(put o.mi.dst v s').base=s'.base:=by
      cases o.mi.dst<;>simp [Uw.put]
     have KR:(put o.mi.dst v (S.uI s')).heap=s'.heap/\(put o.mi.dst v (S.uI s')).next=s'.next/\(put o.mi.dst v (S.uI s')).defers=s'.defers/\(put o.mi.dst v (S.uI s')).base=s'.base:=by
      cases o.mi.dst<;>simp [Uw.put,St.uI]
     have KQ : SA all st0 (listed.setIfInBounds i true) E' (i::D) S' (put o.mi.dst v s'):=by
      refine ⟨?_,?_,?_,?_,?_,?_,by rw [hput.1,p2.heap,KR.1],by rw [hput.2.1,p2.next,KR.2.1],by rw [hput.2.2.1,p2.defers,KR.2.2.1],by rw [hput.2.2.2,p2.base,KR.2.2.2]⟩
      ·intro t ht
       rw [jY,if_neg (ht i o ho hii),yH];exact hact.none t (fun j oj hoj hlj=>ht j oj hoj (getD_set_true hlj))
      ·intro j oj t hoj hlj htj
       rw [hold j oj t hoj hlj htj,Vq,jY,yH];by_cases hji:j=i
       ·subst hji
        rw [ho] at hoj;injection hoj with hoj;subst hoj
        rw [if_pos htj,if_pos htj]
       ·have hne:=(hd.sees i j o oj (Ne.symm hji) ho hoj t htj).1
        rw [if_neg hne,if_neg hne];exact hact.one j oj t hoj ((qV j hlj).resolve_left hji) htj
      ·intro t ht
       rw [p2.same t (fun j oj hoj htj _=>(ht j oj hoj htj).elim),Vq,if_neg (ht i o ho)];exact hact.other t ht
      ·intro j oj hoj hlj hl'
       have hji:j≠i:=by rintro rfl;rw [ho] at hoj;injection hoj with hoj;subst hoj;rw [hlo] at hlj;cases hlj
       exact p2.sub j (hact.qE j oj hoj hlj ((qV j hl').resolve_left hji))
      ·intro j oj hoj hlj
       by_cases hji:j=i
       ·subst hji;simp [hii]
       ·rw [getD_set_ne false (Ne.symm hji),hact.lD j oj hoj hlj]
        simp [hji]
      ·intro j hj
       simp at hj
       rcases hj with rfl|hj
       ·exact ⟨o,ho,hlo⟩
       ·exact hact.Dl j hj
     refine ih m _ E' (i::D) S' (put o.mi.dst v s') c' _ hleft hinv' p1 KQ (hB'.trans hB) (hJ'.trans hJ) ?_ p3;rw [hdst];exact r'.put hdn hv
    ·intro c' s' dd ch hB' hJ' r' yH hex' hq
     simp only [] at hq;refine ⟨c',.panic dd,_,hB'.trans hB,hJ'.trans hJ,rfl,hex',?_,hq⟩;refine ⟨r'.heap,r'.hrel,r'.size,?_,r'.frames,r'.kx,r'.base,r'.defers⟩;intro t v hv;obtain ⟨k1,k2⟩:=vf hv;rw [<- hact.none t (fun j oj hoj _=>k2 j oj hoj)] at k1;exact r'.regs t v (by rw [yH];exact k1)
theorem MJ (W:WPS P) {id fuel:Nat} {c:Cx} {a:Act} (hdf:W.dfr=true\/ops.all vR=true) (hm:P.follows .mixedOrders=true) (hc:dV P n pol ops ops=some mi) (hd:zQ (er ops mi)=true) (r:Rel c w0 n gs st0 a)
  (hw:WT P Q (zM (er ops mi) (keepR (er ops mi) st0.regs) fuel [] [] st0 q)):W.W (Code.region id ops.toArray true) (Came P Q q c w0 n gs) a c.w:=by
 have hd:=MH hd;obtain ⟨hlen,hget⟩:=sA hc;obtain ⟨hall,hmk⟩:=va ops mi hlen;have hquiet:∀(i:Nat) (o:DOp),(er ops mi)[i]? = some o->o.loud=false->iO o.mi.op=true:=by
  intro i o ho hl;obtain ⟨oi,h1,h2,h3,h4⟩:=hmk i o ho;rw [hl] at h4;simpa using h4.symm
 refine W.any hm E6 (by simpa using hdf) ?_;have hbel:Below c.w.heap.size c.w { c.w with drawn:=c.w.drawn+1 }:=⟨rfl,rfl,rfl,aax _,fun _ _=>rfl⟩
 have r1:=r.grow hbel;have hnone:∀j,(Array.replicate ops.toArray.size false).getD j false=false:=fun j=>getD_replicate_false _ j;have hl:∀k,left (Array.replicate ops.toArray.size false) k=k:=by
  intro k
  induction k with
  | zero=>rfl
  | succ k ih=>simp only [left,ih,hnone,aaX,if_false]
 rw [HE] at hw;obtain ⟨E',S',p1,p2,p3⟩:=HD hd hquiet (er ops mi) 0 [] st0 rfl (fun _ _=>.inr trivial) ⟨fun j _ hj=>by omega,fun j _ hj=>by omega⟩ hw;have hact:SA (er ops mi) st0 (Array.replicate ops.toArray.size false) E' [] S' st0:=
  ⟨fun _ _=>rfl,fun j o t _ hl'=>(by rw [hnone] at hl';cases hl'),fun t ht=>p2.same t (fun j o ho hdst _=>(ht j o ho hdst).elim),fun j o _ _ hl'=>(by rw [hnone] at hl';cases hl'),fun j o _ _=>⟨fun hl'=>(by rw [hnone] at hl';cases hl'),fun h=>(by cases h)⟩,fun j hj=>(by cases hj),p2.heap.symm,p2.next.symm,p2.defers.symm,p2.base.symm⟩
 have:=Jw (c0:=c) (gs:=gs) (w0:=w0) (st0:=st0) hc hd ops.length fuel (Array.replicate ops.toArray.size false) E' [] S' st0 { c with w:={ c.w with drawn:=c.w.drawn+1 } } a (hl _)
  ⟨by simp,fun j oj _ hl'=>(by rw [hnone] at hl';cases hl'),fun t _ ht=>getD_in (by simpa using ht) (hnone t)⟩ p1 hact rfl rfl r1 p3
 rw [show ops.toArray.size=ops.length by simp];exact this
end
end Uw
namespace Uw
open Go Go.RowKit
variable [Glob]
theorem jv {P:Program} (S:WPS P) {n:Nat} {pol:Pol} {Q:aG->St->Prop} {w0:World} {gs:Fr}:∀(code:Code) (m:ck),comp P n pol code=some m->(S.dfr=true\/noD code=true)->∀(q:aG->St->Tree) (c:Cx) (st:St) (a:Act),Rel c w0 n gs st a->
  WT P Q (exec m st q)->S.W code (Came P Q q c w0 n gs) a c.w:=by
 intro code
 induction code with
 | skip=>
  intro m hc hdf q c st a r h;simp [comp] at hc;subst hc;exact S.skip ⟨c,.normal,st,rfl,rfl,rfl,trivial,r,h⟩
 | region id ops draw=>
  intro m hc hdf q c st a r h
  cases draw with
  | true=>
   simp only [comp] at hc
   split at hc
   ·rename_i l hm hl
    split at hc
    ·rename_i hd
     simp at hc;subst hc;have:=OJ S (id:=id) (Q:=Q) (q:=q) (w0:=w0) (gs:=gs) hdf hm hl hd r h;simpa using this
    ·rename_i hd
     have hc' : comp P n pol (.region id ops true)=some m:=by simp only [comp,hm,hl,hd];exact hc
     split at hc
     ·simp only [aaP] at hc;subst hc
      simp only [pY,sk,sn,pZ,ny,qa,qb,sq,qc,WT] at h;exact h S n pol _ hc' hdf c w0 gs a r
     ·simp at hc
   ·simp at hc
  | false=>
   simp only [comp,aaC] at hc;obtain ⟨l,hl,rfl⟩:=hc;have:=u5 (P:=P) (n:=n) (ops:=ops.toList) (Q:=Q) (q:=q) (w0:=w0) (gs:=gs) (c0:=c) ops.toList l none c st a hl rfl rfl r (by intro t w' h' hh;simp at hh) h;exact S.list E6 hdf (by simpa using this)
 | seq x y ihx ihy=>
  intro m hc hdf q c st a r h;simp only [comp] at hc
  split at hc
  ·rename_i mx my hx hy
   simp at hc;subst hc;simp only [pY,sk,sn,pZ,ny,qa,qb,sq,qc] at h;refine S.seq (S.mono (ihx mx hx (hdf.imp id fun h=>by simp [noD] at h;exact h.1) _ c st a r h) ?_);intro e a' w' hq;obtain ⟨c',me,st',e1,e2,e3,e4,e5,e6⟩:=hq;subst e3
   cases e with
   | normal=>
    cases me<;>simp only [bB] at e4
    have:=ihy my hy (hdf.imp id fun h=>by simp [noD] at h;exact h.2) q c' st' a' e5 e6;refine S.mono this ?_;intro e a'' w'' ⟨c'',me',EW,f1,f2,f3,f4,f5,f6⟩;exact ⟨c'',me',EW,f1.trans e1,f2.trans e2,f3,f4,f5,f6⟩
   | exit id=>cases me<;>simp only [bB] at e4;rename_i j;exact ⟨c',.exit j,st',e1,e2,rfl,e4,e5,e6⟩
   | goto l=>cases me<;>simp only [bB] at e4
   | ret=>cases me<;>simp only [bB] at e4;exact ⟨c',.ret,st',e1,e2,rfl,trivial,e5,e6⟩
   | panic ch=>cases me<;>simp only [bB] at e4;rename_i d;exact ⟨c',.panic d,st',e1,e2,rfl,e4,e5,e6⟩
   | outgrown=>cases me<;>simp only [bB] at e4
  ·simp at hc
 | cond x y z ihy ihz=>
  intro m hc hdf q c st a r h;simp only [comp] at hc
  split at hc
  ·rename_i cx my mz hx hy hz
   simp at hc;subst hc;simp only [pY,sk,sn,pZ,ny,qa,qb,sq,qc] at h
   split at h
   ·rename_i b hb
    have e:=aK r hx hb;simp only [aB,aI] at e;simp only [WT] at h;exact S.cond e (fun hb'=>ihy my hy (hdf.imp id fun h=>by simp [noD] at h;exact h.1) q c st a r (h.1 hb')) (fun hb'=>ihz mz hz (hdf.imp id fun h=>by simp [noD] at h;exact h.2) q c st a r (h.2 hb'))
   ·exact h.elim
  ·simp at hc
 | block id x ih=>
  intro m hc hdf q c st a r h;simp only [comp,aaC] at hc;obtain ⟨mx,hx,rfl⟩:=hc;simp only [pY,sk,sn,pZ,ny,qa,qb,sq,qc] at h;refine S.block (S.mono (ih mx hx (hdf.imp (fun h=>h) fun h=>by simp [noD] at h;exact h) _ c st a r h) ?_);intro e a' w' hq;obtain ⟨c',me,st',e1,e2,e3,e4,e5,e6⟩:=hq
  cases e with
  | normal=>cases me<;>simp only [bB] at e4;exact ⟨c',.normal,st',e1,e2,e3,trivial,e5,e6⟩
  | exit j=>
   cases me<;>simp only [bB] at e4
   rename_i j';subst e4;simp only [Exit.inBlock];by_cases hj:j=id
   ·subst hj
    simp only [if_true];simp at e6;exact ⟨c',.normal,st',e1,e2,e3,trivial,e5,e6⟩
   ·have hb:Nat.beq j id=false:=by
     rw [acy];intro hb;exact hj (aaB hb)
    simp only [hb] at e6;simp only [hj,if_false];exact ⟨c',.exit j,st',e1,e2,e3,rfl,e5,e6⟩
  | goto l=>cases me<;>simp only [bB] at e4
  | ret=>cases me<;>simp only [bB] at e4;exact ⟨c',.ret,st',e1,e2,e3,trivial,e5,e6⟩
  | panic ch=>cases me<;>simp only [bB] at e4;rename_i d;exact ⟨c',.panic d,st',e1,e2,e3,e4,e5,e6⟩
  | outgrown=>cases me<;>simp only [bB] at e4
 | loop x ih=>
  intro m hc hdf q c st a r h;have hc':=hc;simp only [comp,aaC] at hc;obtain ⟨mx,hx,rfl⟩:=hc;simp only [pY,sk,sn,pZ,ny,qa,qb,sq,qc,WT] at h;exact h S n pol _ hc' hdf c w0 gs a r
 | exit id=>
  intro m hc hdf q c st a r h;simp [comp] at hc;subst hc;exact S.exit ⟨c,.exit id,st,rfl,rfl,rfl,rfl,r,h⟩
 | ret=>
  intro m hc hdf q c st a r h;simp [comp] at hc;subst hc;exact S.ret ⟨c,.ret,st,rfl,rfl,rfl,trivial,r,h⟩
 | scope x ih=>
  intro m hc hdf q c st a r h;simp only [comp,aaC] at hc;obtain ⟨mx,hx,rfl⟩:=hc;have hd:S.dfr=true:=hdf.resolve_right (by simp [noD]);have h' : WT P Q (exec mx st q):=h;refine S.scope hd (S.mono (ih mx hx (.inl hd) q c st a r h') ?_);intro e a' w' hq;have hq':=hq;obtain ⟨c',me,st',e1,e2,e3,e4,e5,e6⟩:=hq
  cases e with
  | goto l=>cases me<;>simp only [bB] at e4
  | normal=>exact hq'
  | exit j=>exact hq'
  | ret=>exact hq'
  | panic ch=>exact hq'
  | outgrown=>exact hq'
 | label l=>
  intro m hc hdf q c st a r h;simp [comp] at hc;subst hc;exact S.label ⟨c,.normal,st,rfl,rfl,rfl,trivial,r,h⟩
 | _=>intro m hc;simp [comp] at hc
theorem WT.mono {P:Program} {Q Q' : aG->St->Prop} (hq:∀e st,Q e st->Q' e st):∀(t:Tree),WT P Q t->WT P Q' t:=by
 intro t
 induction t with
 | done e st=>exact hq e st
 | fail=>exact fun h=>h
 | test b y n ih1 ih2=>exact fun h=>⟨fun hb=>ih1 (h.1 hb),fun hb=>ih2 (h.2 hb)⟩
 | elem xs i k ih=>rintro ⟨x,h1,h2⟩;exact ⟨x,h1,ih x h2⟩
 | byte s i k ih=>rintro ⟨x,h1,h2⟩;exact ⟨x,h1,ih x h2⟩
 | val o k ih=>rintro ⟨x,h1,h2⟩;exact ⟨x,h1,ih x h2⟩
 | blk o k ih=>rintro ⟨x,h1,h2⟩;exact ⟨x,h1,ih x h2⟩
 | Dm o k ih=>rintro ⟨x,h1,h2⟩;exact ⟨x,h1,ih x h2⟩
 | heq h k ih=>rintro ⟨x,h1,h2⟩;exact ⟨x,h1,ih x h2⟩
 | call f ds k ih=>rintro ⟨r,h1,h2⟩;exact ⟨r,h1,ih r h2⟩
 | both y n ih1 ih2=>exact fun h=>⟨ih1 h.1,ih2 h.2⟩
 | same x y t ih=>exact fun h=>⟨h.1,ih h.2⟩
 | sub f vs h nx k ih=>
  rintro ⟨hb,h⟩;refine ⟨hb,fun c w0 F gvs h1 h2 h3 h4 h5=>(h c w0 F gvs h1 h2 h3 h4 h5).mono ?_⟩;rintro e w' ⟨c',r,nx',e1,e2,e3,e4,e5,e6,e7,e8⟩;exact ⟨c',r,nx',e1,e2,e3,e4,e5,e6,e7,ih r _ nx' e8⟩
 | code m st k ih=>
  intro h S n pol code hc hdf c w0 gs a r;refine S.mono (h S n pol code hc hdf c w0 gs a r) ?_;intro e a' w' ⟨c',me,st',e1,e2,e3,e4,e5,e6⟩;exact ⟨c',me,st',e1,e2,e3,e4,e5,ih me st' e6⟩
mutual
def V.closed (h:Heap):V->Bool
 | .ptr id _=>(look h id).isSome
 | .nu id _ _ _=>(look h id).isSome
 | .ref id _ _ _=>(look h id).isSome
 | .agg cs=>cQ h cs
 | .func _ fs cs=>cQ h fs&&cQ h cs
 | .tuple cs=>cQ h cs
 | .d _=>true
 | .ro _ _=>true
 | .hnd id=>(look h id).isSome
 | .row id _=>(look h id).isSome
 | .undef=>true
def cQ (h:Heap):List V->Bool
 | []=>true
 | v::r=>v.closed h&&cQ h r
end
mutual
def V.ren (ρ:Nat->Nat):V->V
 | .ptr id o=>.ptr (ρ id) o
 | .nu id v i c=>.nu (ρ id) v i c
 | .ref id v o l=>.ref (ρ id) v o l
 | .agg cs=>.agg (gk ρ cs)
 | .func f fs cs=>.func f (gk ρ fs) (gk ρ cs)
 | .tuple cs=>.tuple (gk ρ cs)
 | .d x=>.d x
 | .ro cs o=>.ro cs o
 | .hnd id=>.hnd (ρ id)
 | .row id len=>.row (ρ id) len
 | .undef=>.undef
def gk (ρ:Nat->Nat):List V->List V
 | []=>[]
 | v::r=>v.ren ρ::gk ρ r
end
def Zero (ρ:Nat->Nat) (h h' : Heap) (v:V):Prop:=∃ver id k,v = .ref id ver 0 0/\look h (ρ id)=none/\(look h' id=some (.arr k [])\/look h' id=some (.mt k ver []))
def Vr (h:Heap) (v v' : V):Prop:=∃id ver off len k xs ys,v = .ref id ver off len/\look h id=some (.arr k xs)/\(xs.drop off).take len=ys/\v' = .d (.slice k ys false)
def VW0 (ρ:Nat->Nat) (h h' : Heap) (v v' : V):Prop:=(v=v'.ren ρ/\v'.closed h' = true)\/(v = .d .nil/\Zero ρ h h' v')\/v' = .undef\/Vr h v v'
def V8 (ρ:Nat->Nat) (h h' : Heap):List V->List V->Prop
 | [],[]=>True
 | v::r,v'::r'=>VW0 ρ h h' v v'/\V8 ρ h h' r r'
 | _,_=>False
def Y9 (v v' : V):Prop:=v = .d .nil/\∃k z,v' = .d (.slice k [] z)
def VW (ρ:Nat->Nat) (h h' : Heap) (v v' : V):Prop:=(v=v'.ren ρ/\v'.closed h' = true)\/(v = .d .nil/\Zero ρ h h' v')\/v' = .undef\/Vr h v v'\/(∃cs cs',v = .agg cs/\v' = .agg cs'/\V8 ρ h h' cs cs')\/Y9 v v'
theorem VW0.up {ρ:Nat->Nat} {h h' : Heap} {v v' : V} (hw:VW0 ρ h h' v v'):VW ρ h h' v v':=by
 rcases hw with h|h|h|h
 ·exact .inl h
 ·exact .inr (.inl h)
 ·exact .inr (.inr (.inl h))
 ·exact .inr (.inr (.inr (.inl h)))
def VWL (ρ:Nat->Nat) (h h' : Heap):List V->List V->Prop
 | [],[]=>True
 | v::r,v'::r'=>VW ρ h h' v v'/\VWL ρ h h' r r'
 | _,_=>False
def oH (ρ:Nat->Nat) (h h' : Heap):Blk->Blk->Prop
 | .var cs,.var cs'=>VWL ρ h h' cs cs'
 | .arr k xs,.arr k' xs'=>k=k'/\xs=xs'
 | .mt k v xs,.mt k' v' xs'=>k=k'/\v=v'/\xs=xs'
 | .iter s p,.iter s' p'=>s=s'/\p=p'
 | .map k es,.map k' es'=>k=k'/\es=es'
 | _,_=>False
def jK:Blk->Prop
 | .arr _ xs=>xs=[]
 | .mt _ _ xs=>xs=[]
 | _=>False
structure yJ (ρ:Nat->Nat) (st st' : St):Prop where
 regs:∀i v',look st'.regs i=some v'->∃v,look st.regs i=some v/\VW ρ st.heap st'.heap v v'
 heap:∀id b',look st'.heap id=some b'->(∃b,look st.heap (ρ id)=some b/\oH ρ st.heap st'.heap b b')\/(look st.heap (ρ id)=none/\jK b')
 lt:∀id b,look st'.heap id=some b->id<st'.next
 base:st'.base=st.base
 next:st.base<=st'.next
 keep:∀id,id<st.base->ρ id=id/\((look st.heap id).isSome=true->(look st'.heap id).isSome=true)
 inj:∀id id',(look st'.heap id).isSome=true->(look st'.heap id').isSome=true->ρ id=ρ id'->id=id'
 defers:cQ st'.heap st'.defers=true
 defers' : st.defers=gk ρ st'.defers
def Weak (st st' : St):Prop:=∃ρ,yJ ρ st st'
def Cx.i6 (c:Cx) (ρ:Nat->Nat) (h' : Heap) (J:JX):Cx:={ c with J0:=J,heap:=h',pl:=fun i=>match look c.heap (ρ i) with|some _=>c.pl (ρ i)|none=>⟨0,0⟩ }
abbrev Cx.weak (c:Cx) (ρ:Nat->Nat) (h' : Heap):Cx:=c.i6 ρ h' c.J0
section
variable {c : Cx} {h' : Heap} {ρ : Nat -> Nat} {J : JX} (hs : ∀ id b', look h' id = some b' -> (∃ b, look c.heap (ρ id) = some b /\ oH ρ c.heap h' b b') \/ (look c.heap (ρ id) = none /\ jK b'))
include hs
theorem gA {id:Nat} {b:Blk} (h:look c.heap (ρ id)=some b):(c.i6 ρ h' J).pl id=c.pl (ρ id):=by simp [Cx.i6,h]
theorem sB {id:Nat} (h:look c.heap (ρ id)=none):(c.i6 ρ h' J).pl id=⟨0,0⟩:=by simp [Cx.i6,h]
theorem Imm.weak (b o:Nat) (h:Imm c b o):Imm (c.weak ρ h') b o:=by
 rcases h with h|⟨h1,h2,h3⟩
 ·exact .inl h
 ·refine .inr ⟨h1,h2,fun id blk hl hph hg=>?_⟩
  rcases hs id blk hl with ⟨b0,hb,ed⟩|⟨hn,hz⟩
  ·rw [gA hs hb] at hph hg
   have Za:Ph (c.pl (ρ id)) b0:=by
    cases b0<;>cases blk<;>simp [oH] at ed<;>first|exact hph|trivial
   obtain ⟨k,xs,e,hlt⟩:=h3 (ρ id) b0 hb Za hg;subst e
   cases blk with
   | arr k' xs'=>obtain ⟨rfl,rfl⟩:=ed;exact ⟨k,xs,rfl,hlt⟩
   | _=>exact ed.elim
  ·rw [sB hs hn] at hph
   exfalso
   cases blk<;>simp [jK,Ph] at hz hph
theorem jB:Keeps c.w c.w (Imm c) (Imm (c.weak ρ h')):=fun b o h=>⟨Imm.weak hs b o h,rfl⟩
theorem nc {id:Nat} {b:Blk} (hc:(look h' id).isSome=true) (hb:look c.heap (ρ id)=some b):∃b',look h' id=some b'/\oH ρ c.heap h' b b':=by
 cases hl:look h' id with
 | none=>rw [hl] at hc;simp at hc
 | some b'=>
  rcases hs id b' hl with ⟨b0,hb0,ed⟩|⟨hn,_⟩
  ·rw [hb] at hb0;injection hb0 with hb0;subst hb0;exact ⟨b',rfl,ed⟩
  ·rw [hb] at hn;cases hn
variable (hk : Keeps c.w c.w (Imm c) (Imm (c.i6 ρ h' J)))
include hk
mutual
theorem aB.weak:∀(x:V) (v:Value),x.closed h' = true->aB c (x.ren ρ) v->aB (c.i6 ρ h' J) x v
 | .d x,v,_,r=>aI.keep (hk) x v r
 | .ptr id off,v,hc,r=>by
  obtain ⟨⟨cs,h1⟩,h2⟩:=r;obtain ⟨b',hb',ed⟩:=nc hs hc h1
  cases b' with
  | var cs'=>exact ⟨⟨cs',hb'⟩,by rw [gA hs h1];exact h2⟩
  | _=>exact ed.elim
 | .ro cs off,v,_,r=>by
  obtain ⟨b,o,h1,h2⟩:=r;exact ⟨b,o,h1,dR.keep (hk) _ _ _ h2⟩
 | .nu id ver i cc,v,hc,r=>by
  simp only [aB,V.ren] at r ⊢
  cases hl:look c.heap (ρ id) with
  | none=>rw [hl] at r;exact r.elim
  | some b=>
   obtain ⟨b',hb',ed⟩:=nc hs hc hl;rw [hl] at r;show jV (c.i6 ρ h' J) id ver i cc v (look h' id);rw [hb']
   cases b with
   | mt k v0 xs=>
    cases b' with
    | mt k' v' xs'=>
     obtain ⟨rfl,rfl,rfl⟩:=ed;unfold jV at *;rw [gA hs hl];exact r
    | _=>exact ed.elim
   | _=>exact r.elim
 | .ref id ver off len,v,hc,r=>by
  simp only [aB,V.ren] at r ⊢
  cases hl:look c.heap (ρ id) with
  | none=>rw [hl] at r;exact r.elim
  | some b=>
   obtain ⟨b',hb',ed⟩:=nc hs hc hl;rw [hl] at r;show kL (c.i6 ρ h' J) id ver off len v (look h' id);rw [hb']
   cases b with
   | mt k v0 xs=>
    cases b' with
    | mt k' v' xs'=>
     obtain ⟨rfl,rfl,rfl⟩:=ed;unfold kL at *;rw [gA hs hl];exact r
    | _=>exact ed.elim
   | arr k xs=>
    cases b' with
    | arr k' xs'=>
     obtain ⟨rfl,rfl⟩:=ed;unfold kL at *;rw [gA hs hl];obtain ⟨r1,r2⟩:=r;refine ⟨r1,?_⟩
     rcases r2 with r2|⟨b,o,cap,r2,r3,r4,r5⟩
     ·exact .inl r2
     ·exact .inr ⟨b,o,cap,r2,r3,cS.keep (hk) _ _ _ _ r4,r5⟩
    | _=>exact ed.elim
   | _=>exact r.elim
 | .agg cs,v,hc,r=>by
  obtain ⟨vs,h1,h2⟩:=r;exact ⟨vs,h1,ay.weak cs vs hc h2⟩
 | .func f fs cap,v,hc,r=>by
  obtain ⟨us,vs,h1,h2,h3⟩:=r;simp only [V.closed,aay] at hc;exact ⟨us,vs,h1,ay.weak fs us hc.1 h2,ay.weak cap vs hc.2 h3⟩
 | .tuple ds,v,hc,r=>by
  obtain ⟨vs,h1,h2⟩:=r;exact ⟨vs,h1,ay.weak ds vs hc h2⟩
 | .hnd id,v,hc,r=>by
  simp only [aB,V.ren] at r ⊢
  cases hl:look c.heap (ρ id) with
  | none=>rw [hl] at r;exact r.elim
  | some b=>
   obtain ⟨b',hb',ed⟩:=nc hs hc hl;rw [hl] at r;show fU (c.i6 ρ h' J) id v (look h' id);rw [hb']
   cases b with
   | iter s p=>
    cases b' with
    | iter s' p'=>unfold fU at *;rw [gA hs hl];exact r
    | _=>exact ed.elim
   | map kk es=>
    cases b' with
    | map kk' es'=>unfold fU at *;rw [gA hs hl];exact r
    | _=>exact ed.elim
   | _=>exact r.elim
 | .row id len,v,hc,r=>by
  obtain ⟨⟨cs,h1⟩,h2,h3⟩:=r;obtain ⟨b',hb',ed⟩:=nc hs hc h1
  cases b' with
  | var cs'=>exact ⟨⟨cs',hb'⟩,by rw [gA hs h1];exact h2,h3⟩
  | _=>exact ed.elim
 | .undef,v,_,r=>trivial
theorem ay.weak:∀(xs:List V) (vs:List Value),cQ h' xs=true->ay c (gk ρ xs) vs->ay (c.i6 ρ h' J) xs vs
 | [],vs,_,r=>r
 | d::ds,vs,hc,r=>by
  obtain ⟨v,vs',h1,h2,h3⟩:=r;simp only [cQ,aay] at hc;exact ⟨v,vs',h1,aB.weak d v hc.1 h2,ay.weak ds vs' hc.2 h3⟩
end
theorem aB.vw0 {x x' : V} {v:Value} (hw:VW0 ρ c.heap h' x x') (r:aB c x v):aB (c.i6 ρ h' J) x' v:=by
 rcases hw with ⟨rfl,hc⟩|⟨rfl,ver,id,k,rfl,hn,hl⟩|rfl|⟨id,ver,off,len,k,xs,ys,rfl,hl,rfl,rfl⟩
 ·exact aB.weak hs hk x' v hc r
 ·simp only [aB,aI] at r
  subst r;have hpl:=sB (J:=J) hs hn;show kL (c.i6 ρ h' J) id ver 0 0 (.slice none 0 0) (look h' id)
  rcases hl with hl|hl
  ·rw [hl];exact ⟨by simp,.inl ⟨rfl,rfl,fun _=>by rw [hpl]⟩⟩
  ·rw [hl];exact ⟨aax _,⟨_,_,_,rfl⟩,fun _=>⟨by simp,.inl ⟨rfl,rfl,rfl,by rw [hpl]⟩⟩⟩
 ·trivial
 ·exact aI.keep hk _ _ (tG hl r)
theorem ay.vw0:∀{xs xs' : List V} {vs:List Value},V8 ρ c.heap h' xs xs'->ay c xs vs->ay (c.i6 ρ h' J) xs' vs
 | [],[],vs,_,r=>r
 | x::xs,x'::xs',vs,hw,r=>by
  obtain ⟨v,vs',h1,h2,h3⟩:=r;exact ⟨v,vs',h1,aB.vw0 hs hk hw.1 h2,ay.vw0 hw.2 h3⟩
 | [],_::_,vs,hw,r=>hw.elim
 | _::_,[],vs,hw,r=>hw.elim
theorem aB.vw {x x' : V} {v:Value} (hw:VW ρ c.heap h' x x') (r:aB c x v):aB (c.i6 ρ h' J) x' v:=by
 rcases hw with h|h|h|h|⟨cs,cs',rfl,rfl,h⟩|⟨rfl,k,z,rfl⟩
 ·exact aB.vw0 hs hk (.inl h) r
 ·exact aB.vw0 hs hk (.inr (.inl h)) r
 ·exact aB.vw0 hs hk (.inr (.inr (.inl h))) r
 ·exact aB.vw0 hs hk (.inr (.inr (.inr h))) r
 ·obtain ⟨vs,h1,h2⟩:=r
  exact ⟨vs,h1,ay.vw0 hs hk h h2⟩
 ·simp only [aB,aI] at r
  exact .inl ⟨⟨_,r,fun _=>trivial⟩,rfl⟩
theorem ay.vw:∀{xs xs' : List V} {vs:List Value},VWL ρ c.heap h' xs xs'->ay c xs vs->ay (c.i6 ρ h' J) xs' vs
 | [],[],vs,_,r=>r
 | x::xs,x'::xs',vs,hw,r=>by
  obtain ⟨v,vs',h1,h2,h3⟩:=r;exact ⟨v,vs',h1,aB.vw hs hk hw.1 h2,ay.vw hw.2 h3⟩
 | [],_::_,vs,hw,r=>hw.elim
 | _::_,[],vs,hw,r=>hw.elim
theorem cU.weak {id:Nat} {b b' : Blk} (hl:look c.heap (ρ id)=some b) (ed:oH ρ c.heap h' b b') (r:cU c (ρ id) b):cU (c.i6 ρ h' J) id b':=by
 have hp:=gA (J:=J) hs hl
 cases b with
 | var cs=>
  cases b' with
  | var cs'=>obtain ⟨vs,e,h1,h2⟩:=r;exact ⟨vs,e,by rw [hp];exact h1,ay.vw hs hk ed h2⟩
  | _=>exact ed.elim
 | arr k xs=>
  cases b' with
  | arr k' xs'=>
   obtain ⟨rfl,rfl⟩:=ed;obtain ⟨h0,r⟩:=r;refine ⟨by rw [hp];exact h0,fun hc=>?_⟩;rw [hp] at hc ⊢;obtain ⟨vs,e,h1,h2,h4⟩:=r hc;exact ⟨vs,e,h1,h2,cS.keep (hk) _ _ _ _ h4⟩
  | _=>exact ed.elim
 | mt k v xs=>
  cases b' with
  | mt k' v' xs'=>
   obtain ⟨rfl,rfl,rfl⟩:=ed;obtain ⟨h0,h4,r⟩:=r;refine ⟨by rw [hp];exact h0,h4,fun hc=>?_⟩;rw [hp] at hc ⊢;obtain ⟨vs,e,h1,h2,h5,h6⟩:=r hc;exact ⟨vs,e,h1,h2,bp.keep (hk) _ _ h5,h6⟩
  | _=>exact ed.elim
 | iter s p=>
  cases b' with
  | iter s' p'=>obtain ⟨rfl,rfl⟩:=ed;unfold cU at *;rw [hp];exact r
  | _=>exact ed.elim
 | map kk es=>
  cases b' with
  | map kk' es'=>obtain ⟨rfl,rfl⟩:=ed;obtain ⟨ms,k,h1,h2⟩:=r;exact ⟨ms,k,by rw [hp];exact h1,qd.keep (hk) _ _ h2⟩
  | _=>exact ed.elim
theorem cH.weak:∀{vs:List V} {ds:List Deferred},cQ h' vs=true->cH c (gk ρ vs) ds->cH (c.i6 ρ h' J) vs ds
 | [],_,_,r=>r
 | v::vs,ds,hc,r=>by
  obtain ⟨d,ds',f,first,cap,fs,cs,h1,hv,h3,h4,h6,h5⟩:=r
  cases v with
  | func f0 V9 cap0=>
   simp only [V.ren,V.func.injEq] at hv;obtain ⟨rfl,rfl,rfl⟩:=hv;simp only [cQ,V.closed,aay] at hc;exact ⟨d,ds',f0,V9,cap0,fs,cs,h1,rfl,h3,ay.weak hs hk _ _ hc.1.1 h4,ay.weak hs hk _ _ hc.1.2 h6,cH.weak hc.2 h5⟩
  | _=>simp [V.ren] at hv
end
theorem oH.ph {ρ:Nat->Nat} {h h' : Heap} {p:Pl} {b b' : Blk} (hs:oH ρ h h' b b') (hp:Ph p b'):Ph p b:=by
 cases b<;>cases b'<;>simp [oH] at hs<;>first|exact hp|trivial
theorem Rel.OO {c:Cx} {w0:World} {n:Nat} {gs:Fr} {st st' : St} {a:Act} {ρ:Nat->Nat} (r:Rel c w0 n gs st a) (h:yJ ρ st st'):Rel (c.weak ρ st'.heap) w0 n gs st' a:=by
 have hs:∀id b',look st'.heap id=some b'->(∃b,look c.heap (ρ id)=some b/\oH ρ c.heap st'.heap b b')\/(look c.heap (ρ id)=none/\jK b'):=by rw [r.heap];exact h.heap
 have nz:∀id b',look c.heap (ρ id)=none->jK b'->¬Ph ((c.weak ρ st'.heap).pl id) b':=by
  intro id b' hn hz hp;rw [sB hs hn] at hp
  cases b'<;>simp [jK,Ph] at hz hp
 refine ⟨rfl,⟨r.hrel.below,r.hrel.other,r.hrel.lr,?_,h.lt,?_,?_⟩,r.size,?_,?_,by rw [h.base];exact r.kx,by rw [h.base];exact h.next,?_⟩
 ·intro id b' hl
  rcases hs id b' hl with ⟨b,hb,ed⟩|⟨hn,hz⟩
  ·exact cU.weak hs (jB hs) hb ed (r.hrel.blk (ρ id) b hb)
  ·have hp:=sB (J:=c.J0) hs hn
   cases b' with
   | arr k xs=>simp [jK] at hz;subst hz;exact ⟨by simp,fun hc=>by rw [hp] at hc;simp at hc⟩
   | mt k v xs=>simp [jK] at hz;subst hz;exact ⟨by simp,by simp,fun hc=>by rw [hp] at hc;simp at hc⟩
   | _=>exact hz.elim
 ·intro id b' hl hph
  rcases hs id b' hl with ⟨b,hb,ed⟩|⟨hn,hz⟩
  ·rw [gA hs hb] at hph ⊢;exact r.hrel.ge (ρ id) b hb (ed.ph hph)
  ·exact (nz id b' hn hz hph).elim
 ·intro id id' b1 b2 h1 h2 p1 p2 hg
  rcases hs id b1 h1 with ⟨x1,hb1,s1⟩|⟨hn,hz⟩
  ·rcases hs id' b2 h2 with ⟨x2,hb2,s2⟩|⟨hn,hz⟩
   ·rw [gA hs hb1] at p1 hg
    rw [gA hs hb2] at p2 hg;have:=r.hrel.inj (ρ id) (ρ id') x1 x2 hb1 hb2 (s1.ph p1) (s2.ph p2) hg;refine h.inj id id' ?_ ?_ this
    ·show (look st'.heap id).isSome=true
     have h1' : look st'.heap id=some b1:=h1;rw [h1'];rfl
    ·show (look st'.heap id').isSome=true
     have h2' : look st'.heap id' = some b2:=h2;rw [h2'];rfl
   ·exact (nz id' b2 hn hz p2).elim
  ·exact (nz id b1 hn hz p1).elim
 ·intro i v' hv
  obtain ⟨v,hv1,hv2⟩:=h.regs i v' hv;rw [<- r.heap] at hv2;exact aB.vw hs (jB hs) hv2 (r.regs i v hv1)
 ·refine gs.ok c _ ⟨jB hs,?_⟩ r.frames
  intro id b hid hb;have Hg : id<st.base:=abl hid r.kx;obtain ⟨hk1,hk2⟩:=h.keep id Hg;have hsome:(look st'.heap id).isSome=true:=hk2 (by rw [<- r.heap,hb];rfl);have hb' : look c.heap (ρ id)=some b:=by rw [hk1];exact hb
  obtain ⟨b',e1,e2⟩:=nc hs hsome hb';refine ⟨b',e1,?_⟩;rw [gA hs hb',hk1]
  cases b<;>cases b'<;>simp [oH] at e2<;>simp [dm,e2]
 ·exact cH.weak hs (jB hs) h.defers (by rw [<- h.defers'];exact r.defers)
theorem Rel.weak {c:Cx} {w0:World} {n:Nat} {gs:Fr} {st st' : St} {a:Act} (r:Rel c w0 n gs st a) (h:Weak st st'):∃c',c'.B=c.B/\c'.J0=c.J0/\c'.w=c.w/\Keeps c.w c.w (Imm c) (Imm c')/\Rel c' w0 n gs st' a:=by
 obtain ⟨ρ,h⟩:=h;exact ⟨c.weak ρ st'.heap,rfl,rfl,rfl,jB (by rw [r.heap];exact h.heap),r.OO h⟩
theorem Ea {P:Program} {n:Nat} {pol:Pol} {code:Code} {m:ck} (hc:comp P n pol code=some (.loop m)):∃x,code = .loop x/\comp P n pol x=some m:=by
 cases code with
 | loop x=>
  simp only [comp,aaC,ck.loop.injEq] at hc;obtain ⟨mx,hx,rfl⟩:=hc;exact ⟨x,rfl,hx⟩
 | region id ops draw=>
  cases draw with
  | false=>simp [comp] at hc
  | true=>
   simp only [comp] at hc
   split at hc
   ·split at hc
    ·simp at hc
    ·split at hc<;>simp at hc
   ·simp at hc
 | seq x y=>simp only [comp] at hc;split at hc<;>simp at hc
 | cond x y z=>simp only [comp] at hc;split at hc<;>simp at hc
 | _=>simp [comp] at hc
theorem MK {P:Program} {n:Nat} {pol:Pol} {code:Code} {fuel:Nat} {l:List DOp} (hc:comp P n pol code=some (.draw fuel l)):∃id ops mi,code = .region id ops true/\P.follows .mixedOrders=true/\dV P n pol ops.toList ops.toList=some mi/\zQ (er ops.toList mi)=true/\l=er ops.toList mi:=by
 cases code with
 | region id ops draw=>
  cases draw with
  | false=>simp [comp] at hc
  | true=>
   simp only [comp] at hc
   split at hc
   ·rename_i mi hm hl
    split at hc
    ·simp at hc
    ·split at hc
     ·rename_i hb
      simp only [aaP,ck.draw.injEq] at hc;exact ⟨id,ops,mi,rfl,hm,hl,hb,hc.2.symm⟩
     ·simp at hc
   ·simp at hc
 | seq x y=>simp only [comp] at hc;split at hc<;>simp at hc
 | cond x y z=>simp only [comp] at hc;split at hc<;>simp at hc
 | _=>simp [comp] at hc
theorem Eb {P:Program} {fuel:Nat} {l:List DOp} {st:St} {Q:aG->St->Prop} (h:WT P (fun e s=>∃s',(s' = s\/Weak s s')/\Q e s') (zM l (keepR l st.regs) fuel [] [] st Tree.done)):RN P (.draw fuel l) st Q:=by
 intro S n pol code hc hdf c w0 gs a r;obtain ⟨id,ops,mi,rfl,hm,hl,hb,rfl⟩:=MK hc;have:=MJ S (id:=id) (w0:=w0) (gs:=gs) (q:=Tree.done) hdf hm hl hb r h;have e:ops.toList.toArray=ops:=by simp
 rw [e] at this;refine S.mono this ?_;intro e a' w' ⟨c',me,st',e1,e2,e3,e4,e5,e6⟩;obtain ⟨s',hw,hq⟩:=e6;subst e3;obtain ⟨c3,k1,k2,k3,k5,k4⟩:∃c3:Cx,c3.B=c'.B/\c3.J0=c'.J0/\c3.w=c'.w/\Keeps c'.w c'.w (Imm c') (Imm c3)/\Rel c3 w0 n gs s' a':=by
  rcases hw with rfl|hw
  ·exact ⟨c',rfl,rfl,rfl,fun b o h=>⟨h,rfl⟩,e5⟩
  ·exact e5.weak hw
 refine ⟨c3,me,s',k1.trans e1,k2.trans e2,k3,?_,k4,hq⟩
 cases e<;>cases me<;>simp only [bB] at e4 ⊢<;>first|exact e4|skip
 obtain ⟨v,h1,h2⟩:=e4;refine ⟨v,h1,?_⟩;rw [k3];exact aI.keep k5 _ _ h2
theorem ML {P:Program} {m:ck} {st:St} {Q:aG->St->Prop} (I:Nat->St->Prop) (n0:Nat) (st0:St) (hw:Weak st st0) (h0:I n0 st0)
  (round:∀k s,I k s->WT P (fun e s'=>match e with | .normal=>∃k' s'',k' < k/\Weak s' s''/\I k' s'' | e=>Q e s') (exec m s Tree.done)):RN P (.loop m) st Q:=by
 intro S n pol code hc hdf c w0 gs a r;obtain ⟨x,rfl,hx⟩:=Ea hc
 ·refine S.ghost (fun k a' w'=>∃c' s,c'.B=c.B/\c'.J0=c.J0/\c'.w=w'/\Rel c' w0 n gs s a'/\I k s) n0 (by obtain ⟨c',k1,k2,k3,_,k4⟩:=r.weak hw;exact ⟨c',st0,k1,k2,k3,k4,h0⟩) ?_
  rintro k a' w' ⟨c',s,e1,e2,rfl,e4,e5⟩;refine S.mono (jv S x m hx (hdf.imp id fun h=>by simp [noD] at h;exact h) Tree.done c' s a' e4 (round k s e5)) ?_;intro e a'' w'' ⟨c'',me,s',f1,f2,f3,f4,f5,f6⟩;subst f3;simp only [WT] at f6
  cases e with
  | normal=>
   cases me<;>simp only [bB] at f4
   obtain ⟨k',s'',g1,g2,g3⟩:=f6;obtain ⟨c3,k1,k2,k3,_,k4⟩:=f5.weak g2;exact ⟨k',g1,c3,s'',k1.trans (f1.trans e1),k2.trans (f2.trans e2),k3,k4,g3⟩
  | exit id=>cases me<;>simp only [bB] at f4;rename_i j;exact ⟨c'',.exit j,s',f1.trans e1,f2.trans e2,rfl,f4,f5,f6⟩
  | goto l=>cases me<;>simp only [bB] at f4
  | ret=>cases me<;>simp only [bB] at f4;exact ⟨c'',.ret,s',f1.trans e1,f2.trans e2,rfl,trivial,f5,f6⟩
  | panic ch=>cases me<;>simp only [bB] at f4;rename_i d;exact ⟨c'',.panic d,s',f1.trans e1,f2.trans e2,rfl,f4,f5,f6⟩
  | outgrown=>cases me<;>simp only [bB] at f4
inductive gY where
 | tmp (t:Nat)
 | cell (t:Nat) (agg:Bool) (n:Nat)
def iP (P:Program):List ResultVar->Option (List gY)
 | []=>some []
 | .tmp t::r=>(iP P r).map (gY.tmp t::·)
 | .cell t ty::r=>match kK P ty,sizeT P ty,iP P r with
  | some g,some n,some l=>some (.cell t g n::l)
  | _,_,_=>none
def resV (st:St):List gY->Option (List V)
 | []=>some []
 | .tmp t::r=>match (Opd.t t).ev st,resV st r with
  | some v,some l=>some (v::l)
  | _,_=>none
 | .cell t g n::r=>match look st.regs t with
  | some (.ptr id off)=>match look st.heap id with
   | some (.var cs)=>match Nat.ble (off+n) cs.length with
    | true=>match si g ((cs.drop off).take n),resV st r with
     | some v,some l=>some (v::l)
     | _,_=>none
    | false=>none
   | _=>none
  | _=>none
structure bE where
 n:Nat
 pol:Pol
 res:List gY
 code:ck
def aM (P:Program) (f:FuncId) (m:bE):Prop:=
 ∃fn code,P.funcs[f]? = some fn/\fn.body=some code/\(fn.name == "runtime.NumGoroutine")=false/\fn.ntmps=m.n/\iP P fn.results.toList=some m.res/\comp P m.n m.pol code=some m.code
def isFun (P:Program) (f:FuncId) (n:Nat) (pol:Pol):Option (List gY×ck):=
 match P.funcs[f]? with
 | some fn=>match fn.body with
  | some code=>match !(fn.name == "runtime.NumGoroutine")&&Nat.beq fn.ntmps n,iP P fn.results.toList,comp P n pol code with
   | true,some l,some c=>some (l,c)
   | _,_,_=>none
  | none=>none
 | none=>none
theorem ap {P:Program} {f:FuncId} {m:bE} (h:isFun P f m.n m.pol=some (m.res,m.code)):aM P f m:=by
 unfold isFun at h
 split at h
 ·rename_i fn hf
  split at h
  ·rename_i code hb
   split at h
   ·rename_i l c h1 h2 h3
    simp at h;obtain ⟨rfl,rfl⟩:=h;rw [aay] at h1;exact ⟨fn,code,hf,hb,by simpa using h1.1,aaB h1.2,h2,h3⟩
   ·simp at h
  ·simp at h
 ·simp at h
def dP:Nat->List V->gw
 | _,[]=>[]
 | i,v::r=>(i,v)::dP (i+1) r
def lX (args:List Dat):St:={ regs:=dP 0 (args.map V.jS),heap:=[],next:=0,defers:=[],base:=0 }
theorem Ec:∀(vs:List V) (i j:Nat) (v:V),look (dP i vs) j=some v->i<=j/\vs[j - i]? = some v
 | [],i,j,v,h=>by simp [dP,look] at h
 | x::vs,i,j,v,h=>by
  simp only [dP,ai] at h;by_cases hij:i=j
  ·subst hij;simp at h;subst h;simp
  ·rw [if_neg hij] at h
   obtain ⟨h1,h2⟩:=Ec vs (i+1) j v h;refine ⟨by omega,?_⟩;rw [show j - i=(j - (i+1))+1 by omega];simpa using h2
theorem ay.OP {c:Cx}:∀{ds:List Dat} {vs:List Value},bp c.w (Imm c) ds vs->ay c (ds.map V.jS) vs
 | [],vs,h=>by simpa [ay,bp] using h
 | d::ds,vs,h=>by obtain ⟨v,vs',rfl,h2,h3⟩:=h;exact ⟨v,vs',rfl,aB.jS h2,ay.OP h3⟩
theorem jL {P:Program} {c:Cx} {w0:World} {n:Nat} {gs:Fr} {st:St} {a:Act} (r:Rel c w0 n gs st a):∀{l:List ResultVar} {ms:List gY} {vs:List V},iP P l=some ms->resV st ms=some vs->
  ∃us,(l.mapM (fun (x:ResultVar)=>(match x with | .tmp t=>pure (a.tmps.getD t undef) | .cell x t=>do loadVar t (<- asAddr (a.tmps.getD x undef)):Sem Value))).run P c.w = .ok us c.w/\ay c vs us:=by
 intro l
 induction l with
 | nil=>
  intro ms vs h1 h2;simp [iP] at h1;subst h1;simp [resV] at h2;subst h2;exact ⟨[],by simp,by simp [ay]⟩
 | cons x l ih=>
  intro ms vs h1 h2
  cases x with
  | tmp t=>
   simp only [iP,aaC] at h1;obtain ⟨ms',h1,rfl⟩:=h1;simp only [resV] at h2
   split at h2
   ·rename_i v l' g1 g2
    simp at h2;subst h2;obtain ⟨us,f1,f2⟩:=ih h1 g2;refine ⟨a.tmps.getD t undef::us,?_,⟨_,us,rfl,r.regs t v (VP g1).1,f2⟩⟩;rw [List.mapM_cons,run_bind_ok (s:=pure _) (x:=a.tmps.getD t undef) (w':=c.w) rfl,run_bind_ok f1];rfl
   ·simp at h2
  | cell t ty=>
   simp only [iP] at h1
   split at h1
   ·rename_i g m ms' e1 e2 e3
    simp at h1;subst h1;simp only [resV] at h2
    split at h2
    ·rename_i id off hv
     split at h2
     ·rename_i cs hl
      split at h2
      ·rename_i hle
       have hle:=aaO hle
       split at h2
       ·rename_i v l' hmk g2
        simp at h2;subst h2;obtain ⟨us,f1,f2⟩:=ih e3 g2;obtain ⟨⟨cs0,_⟩,p2⟩:=r.regs t _ hv;have hl' : look c.heap id=some (.var cs):=by rw [r.heap];exact hl
        obtain ⟨vs,e,b1,b2⟩:=r.hrel.blk id _ hl';have hlen:=b2.length;obtain ⟨u,hu,hru⟩:=sw ((b2.drop off).take m) hmk;refine ⟨u::us,?_,⟨u,us,rfl,hru,f2⟩⟩;have hload:(loadVar ty ⟨(c.pl id).gb,off,none⟩).run P c.w = .ok u c.w:=by
         refine oP e1 e2 ?_ hu ?_
         ·simp at hlen ⊢;omega
         ·intro j x hx
          rw [ct b1];rw [aaH] at hx
          split at hx
          ·simpa using hx
          ·simp at hx
        have hl2:((do loadVar ty (<- asAddr (a.tmps.getD t undef)):Sem Value)).run P c.w = .ok u c.w:=by
         rw [p2,run_bind_ok (s:=asAddr _) (x:=⟨(c.pl id).gb,off,none⟩) (w':=c.w) rfl];exact hload
        rw [List.mapM_cons,run_bind_ok hl2,run_bind_ok f1];rfl
       ·simp at h2
      ·simp at h2
     ·simp at h2
    ·simp at h2
   ·simp at h1
theorem cell_lt {w:World} {b o:Nat} {v:Value} (h:w.cell? ⟨b,o,none⟩=some v):b<w.heap.size:=by
 by_cases hb:b<w.heap.size
 ·exact hb
 ·simp [World.cell?,abU (by omega:w.heap.size<=b)] at h
mutual
theorem aI.bound {w:World} {J:Nat->Nat->Prop}:∀(d:Dat) (v:Value),aI w J d v->aI w (fun b o=>J b o/\b<w.heap.size) d v
 | .bool b,v,r=>r
 | .int k n,v,r=>r
 | .str s,v,r=>r
 | .nil,v,r=>r
 | .slice k xs z,v,.inl r=>.inl r
 | .slice k xs z,v,.inr ⟨b,o,cap,h1,h2,h3,h4⟩=>.inr ⟨b,o,cap,h1,h2,h3,cS.bound b k o xs h4⟩
 | .agg cs,v,⟨vs,h1,h2⟩=>⟨vs,h1,bp.bound cs vs h2⟩
 | .func f,v,r=>r
 | .nilFunc,v,r=>r
 | .nilIface,v,r=>r
 | .nilPtr,v,r=>r
 | .bg,v,r=>r
 | .iface t d,v,⟨u,h1,h2⟩=>⟨u,h1,aI.bound d u h2⟩
 | .tuple ds,v,⟨vs,h1,h2⟩=>⟨vs,h1,bp.bound ds vs h2⟩
theorem bp.bound {w:World} {J:Nat->Nat->Prop}:∀(ds:List Dat) (vs:List Value),bp w J ds vs->bp w (fun b o=>J b o/\b<w.heap.size) ds vs
 | [],vs,r=>r
 | d::ds,vs,⟨v,vs',h1,h2,h3⟩=>⟨v,vs',h1,aI.bound d v h2,bp.bound ds vs' h3⟩
theorem dR.bound {w:World} {J:Nat->Nat->Prop} (b:Nat):∀(o:Nat) (ds:List Dat),dR w J b o ds->dR w (fun b o=>J b o/\b<w.heap.size) b o ds
 | o,[],_=>trivial
 | o,d::ds,⟨⟨v,h1,h2,h5,h3⟩,h4⟩=>⟨⟨v,h1,⟨h2,cell_lt h1⟩,h5,aI.bound d v h3⟩,dR.bound b (o+1) ds h4⟩
theorem cS.bound {w:World} {J:Nat->Nat->Prop} (b k:Nat):∀(o:Nat) (cs:List (List Dat)),cS w J b k o cs->cS w (fun b o=>J b o/\b<w.heap.size) b k o cs
 | o,[],_=>trivial
 | o,c::cs,⟨h1,h2,h3⟩=>⟨h1,dR.bound b o c h2,cS.bound b k (o+k) cs h3⟩
end
theorem Rel.enter {c:Cx} {w0:World} {n nx:Nat} {F:Fr} {vs:List V} {gvs:List Value} (hh:c9 c w0 nx) (hF:F.K<=nx) (hp:F.p c) (hv:ay c vs gvs) (hn:vs.length<=n) :
  Rel c w0 n F ⟨dP 0 vs,c.heap,nx,[],nx⟩ { tmps:=gvs.toArray++Array.replicate (n - gvs.toArray.size) undef,defers:=[] }:=by
 have hlen:=hv.length;refine ⟨rfl,hh,?_,?_,hp,hF,aax _,rfl⟩
 ·simp;omega
 ·intro i v hi
  obtain ⟨h1,h2⟩:=Ec _ _ _ _ hi;simp only [acS] at h2;obtain ⟨u,g1,g2⟩:=hv.get i v h2;have:(gvs.toArray++Array.replicate (n - gvs.toArray.size) undef).getD i undef=u:=by
   have hi' : i<gvs.length:=by
    by_cases hh:i<gvs.length
    ·exact hh
    ·rw [aaJ (by omega)] at g1;cases g1
   rw [abC,Array.getElem?_append_left (by simpa using hi')];simp [g1]
  rw [this];exact g2
theorem gB {P:Program} {fn:Func} {t:Array Value} {w:World} {us:List Value} (f1:(fn.results.toList.mapM (fun (x:ResultVar)=>(match x with | .tmp t'=>pure (t.getD t' undef) | .cell x t'=>do loadVar t' (<- asAddr (t.getD x undef)):Sem Value))).run P w = .ok us w) :
  (results fn t).run P w = .ok (if h:us.toArray.size=1 then us.toArray[0] else .tuple us.toArray) w:=by
 unfold results;rw [Array.mapM_eq_mapM_toList];have:((List.toArray <$> fn.results.toList.mapM (fun (x:ResultVar)=>(match x with | .tmp t'=>pure (t.getD t' undef) | .cell x t'=>do loadVar t' (<- asAddr (t.getD x undef)):Sem Value)))).run P w = .ok us.toArray w:=by
  rw [map_eq_pure_bind,run_bind_ok f1];rfl
 exact run_bind_ok this
def i7:List V->V
 | [v]=>v
 | vs=>.tuple vs
theorem tJ {c:Cx} {vs:List V} {us:List Value} (h:ay c vs us):aB c (i7 vs) (if h:us.toArray.size=1 then us.toArray[0] else .tuple us.toArray):=by
 have hl:=h.length
 match vs,h,hl with
 | [],h,hl=>simp [ay] at h;subst h;exact ⟨[],by simp,rfl⟩
 | [v],h,hl=>
  obtain ⟨u,us',rfl,h1,h2⟩:=h;simp [ay] at h2;subst h2;simpa [i7] using h1
 | v::v'::r,h,hl=>
  rw [dif_neg (by simp at hl ⊢;omega)];exact ⟨us,rfl,h⟩
def Dp (res:List gY) (Q:Res->Heap->Nat->Prop):aG->St->Prop
 | .normal,st=>st.defers=[]/\∃vs,resV st res=some vs/\Q (.val (i7 vs)) st.heap st.next
 | .ret,st=>st.defers=[]/\∃vs,resV st res=some vs/\Q (.val (i7 vs)) st.heap st.next
 | .panic d,st=>st.defers=[]/\Q (.pan d) st.heap st.next
 | .exit _,_=>False
theorem aM.body {P:Program} {f:FuncId} {m:bE} (h:aM P f m):mN P f:=by
 obtain ⟨fn,code,h1,h2,h3,_⟩:=h;exact ⟨fn,h1,by rw [h2];rfl,h3⟩
theorem qX {P:Program} {f:FuncId} {m:bE} (hf:aM P f m) {vs:List V} {h:Heap} {nx:Nat} {Q:Res->Heap->Nat->Prop} (hn:Nat.ble vs.length m.n=true)
  (hw:WT P (fun e st=>∃st',(st' = st\/Weak st st')/\Dp m.res Q e st') (exec m.code ⟨dP 0 vs,h,nx,[],nx⟩ Tree.done)):kM P f vs h nx Q:=by
 refine ⟨hf.body,?_⟩;obtain ⟨fn,code,h1,h2,h0,h3,h4,h5⟩:=hf;rintro c w0 F gvs rfl hh hF hp hv
 let F' : Fr:=⟨nx,F.p,fun c c' he hc=>F.ok c c' (he.mono hF) hc⟩
 refine calls_of_wp h1 h2 ?_;rw [h3];refine Code.wp_mono ?_ (jv (plainW P) code m.code h5 (.inl rfl) Tree.done _ _ _ (Rel.enter (F:=F') hh (aax _) hp hv (aaO hn)) hw);intro e a' w' ⟨c1,me,st1,e1',e2',e3',e4',e5',e6'⟩;subst e3';simp only [WT] at e6';obtain ⟨st',Ai,e6⟩:=e6';obtain ⟨c',k1,k2,k3,k5,e5⟩:∃c',c'.B=c1.B/\c'.J0=c1.J0/\c'.w=c1.w/\Keeps c1.w c1.w (Imm c1) (Imm c')/\Rel c' w0 m.n F' st' a':=by
  rcases Ai with rfl|Ai
  ·exact ⟨c1,rfl,rfl,rfl,fun b o h=>⟨h,rfl⟩,e5'⟩
  ·exact e5'.weak Ai
 have e1:=k1.trans e1';have e2:=k2.trans e2';have e4:bB c' e me:=by
  cases e<;>cases me<;>simp only [bB] at e4' ⊢<;>first|exact e4' | skip
  obtain ⟨v,h1,h2⟩:=e4';exact ⟨v,h1,by rw [k3];exact aI.keep k5 _ _ h2⟩
 rw [<- k3];have hnx:nx<=st'.next:=aa7 e5.kx e5.base;have hdef:st'.defers=[]->a'.defers=[]:=fun hd=>by have:=e5.defers;rw [hd] at this;exact this
 have key:(st'.defers=[]/\∃vs,resV st' m.res=some vs/\Q (.val (i7 vs)) st'.heap st'.next)->a'.defers=[]/\∃v,(results fn a'.tmps).run P c'.w = .ok v c'.w/\(∃c'' r nx',c''.B=c.B/\c''.J0=c.J0/\c''.w=c'.w/\c9 c'' w0 nx'/\nx<=nx'/\F.p c''/\xK c'' (.returned v) r/\Q r c''.heap nx'):=by
  rintro ⟨hd,vs',hvs,hq⟩;obtain ⟨us,f1,f2⟩:=jL (P:=P) e5 h4 hvs;refine ⟨hdef hd,_,gB f1,c',.val (i7 vs'),st'.next,e1,e2,rfl,e5.hrel,hnx,e5.frames,tJ f2,?_⟩;rw [e5.heap];exact hq
 cases e with
 | normal=>cases me<;>simp only [bB] at e4;exact key e6
 | ret=>cases me<;>simp only [bB] at e4;exact key e6
 | exit id=>cases me<;>simp only [bB] at e4;exact e6.elim
 | goto l=>cases me<;>simp only [bB] at e4
 | panic ch=>
  cases me<;>simp only [bB] at e4
  rename_i d;obtain ⟨hd,hq⟩:=e6;exact ⟨hdef hd,c',.pan d,st'.next,e1,e2,rfl,e5.hrel,hnx,e5.frames,e4,by rw [e5.heap];exact hq⟩
 | outgrown=>cases me<;>simp only [bB] at e4
theorem kM.mono {P:Program} {f:FuncId} {vs:List V} {h:Heap} {nx:Nat} {Q Q' : Res->Heap->Nat->Prop} (hs:kM P f vs h nx Q) (hq:∀r h' nx',Q r h' nx'->Q' r h' nx'):kM P f vs h nx Q':=by
 refine ⟨hs.1,fun c w0 F gvs h1 h2 h3 h4 h5=>(hs.2 c w0 F gvs h1 h2 h3 h4 h5).mono ?_⟩;rintro e w' ⟨c',r,nx',e1,e2,e3,e4,e5,e6,e7,e8⟩;exact ⟨c',r,nx',e1,e2,e3,e4,e5,e6,e7,hq _ _ _ e8⟩
theorem HF {P:Program} {f:FuncId} {vs:List V} {h:Heap} {nx:Nat} {Q:Res->Heap->Nat->Prop} {ds:List Dat} {r:Dat} (hb:mN P f) (hd:mL h vs=some ds) (hr:Ret P f ds r) (hq:Q (.val (V.jS r)) h nx):kM P f vs h nx Q:=by
 refine ⟨hb,?_⟩;rintro c w0 F gvs rfl hh hF hp hv;refine (hr c.w (Imm c) gvs hh.glob (oQ hd hv)).mono ?_;rintro e w' ⟨v,rfl,hv,hbel⟩;have hev:=Evo.grow hh hbel;refine ⟨{ c with w:=w' },.val (V.jS r),nx,rfl,rfl,rfl,hh.grow hbel,aax _,F.ok _ _ (hev.toK _) hp,aB.jS ?_,hq⟩;refine aI.keep ?_ _ _ hv;intro b o' hj;refine ⟨?_,rfl⟩
 rcases hj with hj|⟨hj1,hj2⟩
 ·exact (hev.keeps b o' hj).1
 ·refine .inr ⟨hh.su hj1,hj2,?_⟩
  intro id blk hl hph hg;have:=hh.jX hl hph;have hg' : (c.pl id).gb=b:=hg;omega
def jo (h:Heap):List V->Option (List Dat)
 | []=>some []
 | v::r=>match v.dat h,vP v,jo h r with
  | some x,true,some l=>some (x::l)
  | _,_,_=>none
def V.v8 (h:Heap):V->Option Dat
 | .d x=>some x
 | .row id len=>match look h id with
  | some (.var cs)=>match jo h cs,Nat.beq cs.length len with
   | some ds,true=>some (.slice 1 (ds.map fun d=>[d]) false)
   | _,_=>none
  | _=>none
 | .agg cs=>(go cs).map Dat.agg
 | .ref id _ off len=>match look h id with
  | some (.arr k xs)=>some (.slice k ((xs.drop off).take len) false)
  | some (.mt k _ xs)=>some (.slice k ((xs.drop off).take len) false)
  | _=>none
 | .func f [] []=>some (.func f)
 | _=>none
where
 go:List V->Option (List Dat)
  | []=>some []
  | .d x::r=>match go r with|some l=>some (x::l)|none=>none
  | .ref id _ off len::r=>match look h id,go r with
   | some (.arr k xs),some l=>some (.slice k ((xs.drop off).take len) false::l)
   | some (.mt k _ xs),some l=>some (.slice k ((xs.drop off).take len) false::l)
   | _,_=>none
  | .func f [] []::r=>match go r with|some l=>some (.func f::l)|none=>none
  | _=>none
def dY (h:Heap):List V->Option (List Dat)
 | []=>some []
 | v::r=>match v.v8 h,dY h r with
  | some x,some l=>some (x::l)
  | _,_=>none
def V.cur (h:Heap):V->Bool
 | .agg cs=>go cs
 | .ref id ver _ _=>match look h id with
  | some (.mt _ dU _)=>Nat.beq ver dU
  | _=>true
 | _=>true
where
 go:List V->Bool
  | []=>true
  | .ref id ver _ _::r=>match look h id with
   | some (.mt _ dU _)=>Nat.beq ver dU&&go r
   | _=>go r
  | _::r=>go r
def xZ (h:Heap):List V->Bool
 | []=>true
 | v::r=>v.cur h&&xZ h r
def kB:List Dat->Dat
 | [d]=>d
 | ds=>.tuple ds
section
variable {c : Cx} {w0 : World} {nx : Nat} {J : Nat -> Nat -> Prop} (hh : c9 c w0 nx) (hk : Keeps c.w c.w (Imm c) J) (hnew : ∀ b o, ¬ c.Old b -> b < c.w.heap.size -> J b o)
include hh hk hnew
theorem HG {id ver off len k dU : Nat} {xs:List (List Dat)} {gv:Value} (hl:look c.heap id=some (.mt k dU xs)) (hv:ver=dU) (h:aB c (.ref id ver off len) gv):aI c.w J (.slice k ((xs.drop off).take len) false) gv:=by
 subst hv;simp only [aB,hl] at h;obtain ⟨_,_,h⟩:=h;obtain ⟨h1,h2⟩:=h rfl;have hlen:((xs.drop off).take len).length=len:=by simp;omega
 rcases h2 with ⟨h2,h3,_⟩|⟨b,o,h2,h3⟩
 ·exact .inl ⟨⟨_,h2,by simp⟩,aaM (by omega)⟩
 ·obtain ⟨b3,b4,bb⟩:=hh.blk id _ hl
  refine .inr ⟨b,o,(c.pl id).cap - off,by rw [hlen];exact h2,by rw [hlen];omega,by simp,?_⟩;by_cases hl0:len=0
  ·subst hl0;simp [cS]
  ·obtain ⟨vs,e,g1,g2,g3,g4⟩:=bb (by omega)
   obtain ⟨rfl,rfl⟩:=h3 (by omega);have hgb:=hh.ge id _ hl (show 0<(c.pl id).cap by omega);have hlt:=hh.jX hl (show 0<(c.pl id).cap by omega);have hfl:=nC b4 off len (by omega);refine cS.of_flat (us:=((vs.toList.take (xs.length * k)).drop (off * k)).take (len * k)) (fun x hx=>b4 x (abP (abD hx))) ?_ ?_
   ·rw [hfl];exact bp.keep hk _ _ ((g3.drop _).take _)
   ·intro j v hv
    refine ⟨?_,hnew _ _ hgb hlt,g4 v (abP (abD (aaR hv)))⟩;rw [aaH] at hv
    split at hv
    ·rw [abq,aaH] at hv
     split at hv
     ·rw [ct g1];simpa using hv
     ·simp at hv
    ·simp at hv
theorem Jx:∀{vs:List V} {ds:List Dat} {us:List Value},V.v8.go c.heap vs=some ds->V.cur.go c.heap vs=true->ay c vs us->bp c.w J ds us:=by
 intro vs
 induction vs with
 | nil=>intro ds us h _ r;simp [V.v8.go] at h;subst h;simpa [bp,ay] using r
 | cons v vs ih=>
  intro ds us h hc r;obtain ⟨u,us',rfl,r1,r2⟩:=r;unfold V.v8.go at h
  split at h
  ·simp at *
  ·rename_i x rr heq
   simp only [abE] at heq;obtain ⟨rfl,rfl⟩:=heq
   split at h
   ·rename_i l hl
    simp at h;subst h;exact ⟨u,us',rfl,aI.keep hk _ _ r1,ih hl (by simpa [V.cur.go] using hc) r2⟩
   ·simp at h
  ·rename_i id ver off len rr heq
   simp only [abE] at heq;obtain ⟨rfl,rfl⟩:=heq
   split at h
   ·rename_i k xs l hl1 hl2
    simp at h;subst h;simp only [V.cur.go,hl1] at hc;exact ⟨u,us',rfl,aI.keep hk _ _ (tG hl1 r1),ih hl2 hc r2⟩
   ·rename_i k dU xs l hl1 hl2
    simp at h;subst h;simp only [V.cur.go,hl1,aay] at hc;exact ⟨u,us',rfl,HG hh hk hnew hl1 (aaB hc.1) r1,ih hl2 hc.2 r2⟩
   ·simp at h
  ·rename_i f rr heq
   simp only [abE] at heq;obtain ⟨rfl,rfl⟩:=heq
   split at h
   ·rename_i l hl
    simp at h;subst h;obtain ⟨fs',vs',e1,e3,e2⟩:=r1;simp [ay] at e2 e3;subst e2 e3;exact ⟨u,us',rfl,e1,ih hl (by simpa [V.cur.go] using hc) r2⟩
   ·simp at h
  ·simp at h
theorem Fo:∀{vs:List V} {ds:List Dat} {us:List Value},jo c.heap vs=some ds->ay c vs us->bp c.w J ds us/\∀u∈us,one u=true:=by
 intro vs
 induction vs with
 | nil=>intro ds us h r;simp [jo] at h;subst h;simp [ay] at r;subst r;simp [bp]
 | cons v vs ih=>
  intro ds us h r;obtain ⟨u,us',rfl,r1,r2⟩:=r;unfold jo at h
  split at h
  ·rename_i x l h1 ho h2
   simp at h;subst h;obtain ⟨g1,g2⟩:=ih h2 r2;refine ⟨⟨u,us',rfl,aI.keep hk _ _ (zw h1 r1),g1⟩,fun y hy=>?_⟩
   rcases aaN.1 hy with rfl|hy
   ·exact zu r1 ho
   ·exact g2 y hy
  ·simp at h
theorem OS {id len:Nat} {cs:List V} {ds:List Dat} {gv:Value} (hl:look c.heap id=some (.var cs)) (hd:jo c.heap cs=some ds) (hlen:cs.length=len) (h:aB c (.row id len) gv):aI c.w J (.slice 1 (ds.map fun d=>[d]) false) gv:=by
 obtain ⟨_,h2,_⟩:=h;obtain ⟨vs,e,g1,g2⟩:=hh.blk id _ hl;obtain ⟨g3,g4⟩:=Fo hh hk hnew hd g2;have hgb:=hh.ge id _ hl trivial;have hlt:=hh.jX hl trivial;have h1:=g3.length;have h3:=g2.length;refine .inr ⟨(c.pl id).gb,0,len,by rw [aaT,<- h1,h3,hlen];exact h2,by simp;omega,by simp,?_⟩;refine cS.of_flat (us:=vs.toList) (fun x hx=>?_) ?_ ?_
 ·obtain ⟨d,_,rfl⟩:=abu.1 hx;rfl
 ·have:(ds.map fun d=>[d]).flatten=ds:=by
   clear hd g3 h1
   induction ds with
   | nil=>rfl
   | cons d ds ih=>simp [ih]
  rw [this];exact g3
 ·intro j v hv
  refine ⟨?_,hnew _ _ hgb hlt,g4 v (aaR hv)⟩;rw [aaF,ct g1];simpa using hv
theorem OT {v:V} {x:Dat} {gv:Value} (h:v.v8 c.heap=some x) (hc:v.cur c.heap=true) (r:aB c v gv):aI c.w J x gv:=by
 cases v with
 | d y=>simp [V.v8] at h;subst h;exact aI.keep hk _ _ r
 | agg cs=>
  simp only [V.v8,aaC] at h;obtain ⟨ds,h1,rfl⟩:=h;obtain ⟨us,rfl,h2⟩:=r;exact ⟨us,rfl,Jx hh hk hnew h1 hc h2⟩
 | ref id ver off len=>
  simp only [V.v8] at h
  split at h
  ·rename_i k xs hl
   simp at h;subst h;exact aI.keep hk _ _ (tG hl r)
  ·rename_i k dU xs hl
   simp at h;subst h;simp only [V.cur,hl] at hc;exact HG hh hk hnew hl (aaB hc) r
  ·simp at h
 | row id len=>
  simp only [V.v8] at h
  split at h
  ·rename_i cs hl
   split at h
   ·rename_i ds hd hb
    simp at h;subst h;exact OS hh hk hnew hl hd (aaB hb) r
   ·simp at h
  ·simp at h
 | func f fs cap=>
  cases fs with
  | cons a b=>simp [V.v8] at h
  | nil=>
   cases cap with
   | nil=>
    simp [V.v8] at h;subst h;obtain ⟨fs',vs',e1,e3,e2⟩:=r;simp [ay] at e2 e3;subst e2 e3;exact e1
   | cons a b=>simp [V.v8] at h
 | _=>simp [V.v8] at h
theorem wa:∀{vs:List V} {ds:List Dat} {us:List Value},dY c.heap vs=some ds->xZ c.heap vs=true->ay c vs us->bp c.w J ds us:=by
 intro vs
 induction vs with
 | nil=>intro ds us h _ r;simp [dY] at h;subst h;simpa [bp,ay] using r
 | cons v vs ih=>
  intro ds us h hc r;obtain ⟨u,us',rfl,r1,r2⟩:=r;simp only [xZ,aay] at hc;unfold dY at h
  split at h
  ·rename_i x l h1 h2
   simp at h;subst h;exact ⟨u,us',rfl,OT hh hk hnew h1 hc.1 r1,ih h2 hc.2 r2⟩
  ·simp at h
end
def Fp (res:List gY) (r:Dat) (e:aG) (st:St):Prop:=(e = .normal\/e = .ret)/\st.defers=[]/\∃vs ds,resV st res=some vs/\dY st.heap vs=some ds/\xZ st.heap vs=true/\kB ds=r
theorem Aj {P:Program} {c' : Cx} {w0:World} {n:Nat} {gs:Fr} {st' : St} {a' : Act} {fn:Func} {res:List gY} {J:Nat->Nat->Prop} {w:World} (e5:Rel c' w0 n gs st' a') (hres:iP P fn.results.toList=some res) (hB:c'.B=w.heap.size) (hJ:c'.J0=⟨J,fun _=>False⟩)
  {vs:List V} {ds:List Dat} (g1:resV st' res=some vs) (g2:dY st'.heap vs=some ds) (g3:xZ st'.heap vs=true) :
  ∃v,(results fn a'.tmps).run P c'.w = .ok v c'.w/\aI c'.w (fun b o=>J b o\/(w.heap.size<=b/\b<c'.w.heap.size)) (kB ds) v:=by
 have hk:Keeps c'.w c'.w (Imm c') (fun b o=>J b o\/(w.heap.size<=b/\b<c'.w.heap.size)):=by
  intro b o hi;refine ⟨?_,rfl⟩
  rcases hi with ⟨_,hi⟩|⟨hi1,hi2,_⟩
  ·rw [hJ] at hi;exact .inl hi
  ·exact .inr ⟨aci fun h=>hi1 (.inl (by rw [hB];exact h)),hi2⟩
 obtain ⟨us,f1,f2⟩:=jL (P:=P) e5 hres g1;rw [<- e5.heap] at g2 g3;have k1:=wa e5.hrel hk (fun b o h1 h2=>.inr ⟨aci fun h=>h1 (.inl (by rw [hB];exact h)),h2⟩) g2 g3 f2;refine ⟨_,gB f1,?_⟩;have hl:=k1.length
 match ds,k1,hl with
 | [],k1,hl=>simp [bp] at k1;subst k1;exact ⟨[],by simp,rfl⟩
 | [d],k1,hl=>
  obtain ⟨u,us',rfl,h1,h2⟩:=k1;simp [bp] at h2;subst h2;simpa [kB] using h1
 | d::d'::r,k1,hl=>
  rw [dif_neg (by simp at hl ⊢;omega)];exact ⟨us,rfl,k1⟩
theorem Rel.init {w:World} {J:Nat->Nat->Prop} {args:List Dat} {vs:List Value} {n:Nat} (hG:GOk w.heap.size w) (hrel:bp w J args vs) (hn:args.length<=n) :
  Rel { B:=w.heap.size,J0:=⟨J,fun _=>False⟩,heap:=[],pl:=fun _=>⟨0,0⟩,w:=w } w n Fr.none (lX args) { tmps:=vs.toArray++Array.replicate (n - vs.toArray.size) undef,defers:=[] }:=by
 have hv:ay { B:=w.heap.size,J0:=⟨J,fun _=>False⟩,heap:=[],pl:=fun _=>⟨0,0⟩,w:=w } (args.map V.jS) vs:=by
  refine ay.OP (bp.keep ?_ _ _ (bp.bound _ _ hrel));intro b o hj;exact ⟨.inl ⟨.inl hj.2,hj.1⟩,rfl⟩
 exact Rel.enter (F:=Fr.none) (nx:=0) ⟨Below.refl _ _,fun _ h=>h.elim,hG,by simp [look],by simp [look],by simp [look],by simp [look]⟩ (aax _) trivial hv (by simpa using hn)
theorem HI {P:Program} {f:FuncId} {m:bE} (hf:aM P f m) {args:List Dat} {r:Dat} (hn:Nat.ble args.length m.n=true)
  (h:WT P (Fp m.res r) (exec m.code (lX args) Tree.done)):Ret P f args r:=by
 obtain ⟨fn,code,h1,h2,h0,h3,h4,h5⟩:=hf;intro w J vs hG hrel;refine calls_of_wp h1 h2 ?_;rw [h3];refine Code.wp_mono ?_ (jv (plainW P) code m.code h5 (.inl rfl) Tree.done _ _ _ (Rel.init hG hrel (aaO hn)) h);intro e a' w' ⟨c',me,st',e1,e2,e3,e4,e5,e6⟩;subst e3;simp only [WT] at e6;obtain ⟨g1,g2,vs',ds,g3,g4,g5,rfl⟩:=e6;obtain ⟨v,hv1,hv2⟩:=Aj (P:=P) (w:=w) (J:=J) e5 h4 e1 e2 g3 g4 g5;have hbel:Below w.heap.size w c'.w:=by have:=e5.hrel.below;rw [e1] at this;exact this
 have key:a'.defers=[]/\∃v,(results fn a'.tmps).run P c'.w = .ok v c'.w/\(∃v',Ending.returned v = .returned v'/\aI c'.w (fun b o=>J b o\/(w.heap.size<=b/\b<c'.w.heap.size)) (kB ds) v'/\Below w.heap.size w c'.w):=
  ⟨by have:=e5.defers;rw [g2] at this;exact this,v,hv1,v,rfl,hv2,hbel⟩
 cases e with
 | normal=>exact key
 | ret=>exact key
 | exit id=>cases me<;>simp only [bB] at e4;simp at g1
 | goto l=>cases me<;>simp only [bB] at e4
 | panic ch=>cases me<;>simp only [bB] at e4;simp at g1
 | outgrown=>cases me<;>simp only [bB] at e4
end Uw
namespace Uw
open Go
variable [Glob]
section
variable {P : Program} {Q : aG -> St -> Prop}
theorem SC {b:Bool} {y n:Tree} (h1:b=true->WT P Q y) (h2:b=false->WT P Q n):WT P Q (.test b y n):=⟨h1,h2⟩
theorem SD {b:Bool} {y n:Tree} (hb:b=true) (h1:WT P Q y):WT P Q (.test b y n):=⟨fun _=>h1,fun h=>(by rw [hb] at h;cases h)⟩
theorem MN {b:Bool} {y n:Tree} (hb:b=false) (h1:WT P Q n):WT P Q (.test b y n):=⟨fun h=>(by rw [hb] at h;cases h),fun _=>h1⟩
theorem Fq {y n:Tree} (h1:WT P Q y) (h2:WT P Q n):WT P Q (.both y n):=⟨h1,h2⟩
theorem aS {e:aG} {st:St} (h:Q e st):WT P Q (.done e st):=h
theorem Ft {f:FuncId} {ds:List Dat} {k:Dat->Tree} (r:Dat) (h:Ret P f ds r) (h2:WT P Q (k r)):WT P Q (.call f ds k):=⟨r,h,h2⟩
theorem jx {xs:List (List Dat)} {i:Nat} {k:List Dat->Tree} (x:List Dat) (h:xs[i]? = some x) (h2:WT P Q (k x)):WT P Q (.elem xs i k):=⟨x,h,h2⟩
theorem zx {s:List UInt8} {i:Nat} {k:UInt8->Tree} (x:UInt8) (h:s[i]? = some x) (h2:WT P Q (k x)):WT P Q (.byte s i k):=⟨x,h,h2⟩
theorem OU {o:Option Dat} {k:Dat->Tree} (x:Dat) (h:o=some x) (h2:WT P Q (k x)):WT P Q (.val o k):=⟨x,h,h2⟩
theorem lY {o:Option Blk} {k:Blk->Tree} (x:Blk) (h:o=some x) (h2:WT P Q (k x)):WT P Q (.blk o k):=⟨x,h,h2⟩
theorem zy {o:Option V} {k:V->Tree} (x:V) (h:o=some x) (h2:WT P Q (k x)):WT P Q (.Dm o k):=⟨x,h,h2⟩
theorem Ak {h:Heap} {k:Heap->Tree} (h' : Heap) (hh:∀i,look h' i=look h i) (h2:WT P Q (k h')):WT P Q (.heq h k):=⟨h',hh,h2⟩
theorem KT {h:Heap} {k:Heap->Tree} (h2:WT P Q (k h)):WT P Q (.heq h k):=⟨h,fun _=>rfl,h2⟩
theorem Fv {c:ck} {st:St} {k:aG->St->Tree} (h:RN P c st fun e st'=>WT P Q (k e st')):WT P Q (.code c st k):=h
theorem SE {x y:Option V} {t:Tree} (h:x=y) (h1:WT P Q t):WT P Q (.same x y t):=⟨h,h1⟩
theorem cm {fuel:Nat} {l:List DOp} {st:St} {k:aG->St->Tree} (S:St) (h:WT P (fun e s=>(e = .normal/\Weak s S)\/(∃d,e = .panic d/\∃s',(s' = s\/Weak s s')/\WT P Q (k e s'))) (zM l (keepR l st.regs) fuel [] [] st Tree.done)) (h2:WT P Q (k .normal S)):WT P Q (.code (.draw fuel l) st k):=by
 refine Fv (Eb (WT.mono ?_ _ h));rintro e s (⟨rfl,hw⟩|⟨d,rfl,s',hw,hq⟩)
 ·exact ⟨S,.inr hw,h2⟩
 ·exact ⟨s',hw,hq⟩
theorem qg {fuel:Nat} {l:List DOp} {st:St} {k:aG->St->Tree} (h:WT P (fun e s=>∃d,e = .panic d/\WT P Q (k e s)) (zM l (keepR l st.regs) fuel [] [] st Tree.done)):WT P Q (.code (.draw fuel l) st k):=by
 refine Fv (Eb (WT.mono ?_ _ h));rintro e s ⟨d,rfl,hq⟩;exact ⟨s,.inl rfl,hq⟩
theorem KU {f:FuncId} {m:bE} (hf:aM P f m) {vs:List V} {h:Heap} {nx:Nat} {R:Res->Heap->Nat->Prop} (hn:Nat.ble vs.length m.n=true)
  (hw:WT P (Dp m.res R) (exec m.code ⟨dP 0 vs,h,nx,[],nx⟩ Tree.done)):kM P f vs h nx R:=qX hf hn (WT.mono (fun e st hq=>⟨st,.inl rfl,hq⟩) _ hw)
theorem OV {f:FuncId} {vs:List V} {h:Heap} {nx:Nat} {k:Res->Heap->Nat->Tree} {R:Res->Heap->Nat->Prop} (hs:kM P f vs h nx R) (h2:∀r h' nx',R r h' nx'->WT P Q (k r h' nx')):WT P Q (.sub f vs h nx k):=hs.mono h2
theorem dK {f:FuncId} {m:bE} (hf:aM P f m) {vs:List V} {h:Heap} {nx:Nat} {k:Res->Heap->Nat->Tree} (hn:Nat.ble vs.length m.n=true)
  (hw:WT P (Dp m.res fun r h' nx'=>WT P Q (k r h' nx')) (exec m.code ⟨dP 0 vs,h,nx,[],nx⟩ Tree.done)):WT P Q (.sub f vs h nx k):=KU hf hn hw
theorem iQ {f:FuncId} {vs:List V} {h:Heap} {nx:Nat} {k:Res->Heap->Nat->Tree} {ds:List Dat} (r:Dat) (hb:mN P f) (hd:mL h vs=some ds) (hr:Ret P f ds r) (hq:WT P Q (k (.val (V.jS r)) h nx)):WT P Q (.sub f vs h nx k):=HF hb hd hr hq
theorem ef {res:List gY} {R:Res->Heap->Nat->Prop} {st:St} {vs:List V} (hd:st.defers=[]) (h:resV st res=some vs) (hq:R (.val (i7 vs)) st.heap st.next):WT P (Dp res R) (.done .ret st):=⟨hd,vs,h,hq⟩
theorem wb {res:List gY} {R:Res->Heap->Nat->Prop} {st:St} {vs:List V} (hd:st.defers=[]) (h:resV st res=some vs) (hq:R (.val (i7 vs)) st.heap st.next):WT P (Dp res R) (.done .normal st):=⟨hd,vs,h,hq⟩
theorem oR {res:List gY} {R:Res->Heap->Nat->Prop} {st:St} {d:Dat} (hd:st.defers=[]) (hq:R (.pan d) st.heap st.next):WT P (Dp res R) (.done (.panic d) st):=⟨hd,hq⟩
theorem aC {res:List gY} {r:Dat} {st:St} {vs:List V} {ds:List Dat} (hd:st.defers=[]) (h:resV st res=some vs) (h2:dY st.heap vs=some ds) (h3:xZ st.heap vs=true) (he:kB ds=r):WT P (Fp res r) (.done .ret st):=⟨.inr rfl,hd,vs,ds,h,h2,h3,he⟩
theorem aU {f:FuncId} {m:bE} (hf:aM P f m) {args:List Dat} {r:Dat} (hn:Nat.ble args.length m.n=true) (h:WT P (Fp m.res r) (exec m.code (lX args) Tree.done)):Ret P f args r:=
 HI hf hn h
def nH {α:Type} (S:α->St) (inv:α->Prop) (mu:α->Nat) (x:α) (Q:aG->St->Prop):aG->St->Prop
 | .normal,s=>∃y,inv y/\mu y<mu x/\Weak s (S y)
 | e,s=>Q e s
theorem du {α:Type} (S:α->St) (inv:α->Prop) (mu:α->Nat) (x0:α) {m:ck} {st:St} {k:aG->St->Tree} (hw:Weak st (S x0)) (h0:inv x0)
  (round:∀x,inv x->WT P (nH S inv mu x fun e s=>WT P Q (k e s)) (exec m (S x) Tree.done)):WT P Q (.code (.loop m) st k):=by
 refine Fv (ML (fun n s=>∃x,n=mu x/\inv x/\s=S x) (mu x0) (S x0) hw ⟨x0,rfl,h0,rfl⟩ ?_);rintro n s ⟨x,rfl,hx,rfl⟩;refine WT.mono ?_ _ (round x hx);intro e s hq
 cases e with
 | normal=>obtain ⟨y,h1,h2,h3⟩:=hq;exact ⟨mu y,S y,h2,h3,y,rfl,h1,rfl⟩
 | exit j=>exact hq
 | ret=>exact hq
 | panic d=>exact hq
def RQ (R:St->Prop) (Q:aG->St->Prop):aG->St->Prop
 | .normal,s=>R s
 | e,s=>Q e s
def Rounds (P:Program) (m:ck) (Q:aG->St->Prop):Nat->St->Prop
 | 0,_=>False
 | n+1,st=>WT P (RQ (Rounds P m Q n) Q) (exec m st Tree.done)
theorem fV (n:Nat) {m:ck} {st:St} {k:aG->St->Tree} (h:Rounds P m (fun e s=>WT P Q (k e s)) n st):WT P Q (.code (.loop m) st k):=by
 intro S nt pol code hc hdf c w0 gs a r;obtain ⟨x,rfl,hx⟩:=Ea hc;refine S.XZ n ?_;have key:∀n c' st a,c'.B=c.B->c'.J0=c.J0->Rel c' w0 nt gs st a->Rounds P m (fun e s=>WT P Q (k e s)) n st->
   S.rounds x (fun e a' w'=>∃c'' me st',c''.B=c.B/\c''.J0=c.J0/\c''.w=w'/\bB c'' e me/\Rel c'' w0 nt gs st' a'/\WT P Q (k me st')) n a c'.w:=by
  intro n
  induction n with
  | zero=>intro c' st a _ _ _ h;exact h.elim
  | succ n ih=>
   intro c' st a hB hJ r h;refine S.mono (jv S x m hx (hdf.imp id fun h=>by simp [noD] at h;exact h) Tree.done c' st a r h) ?_;intro e a'' w'' ⟨c'',me,s',f1,f2,f3,f4,f5,f6⟩;subst f3;simp only [WT] at f6
   cases e with
   | normal=>cases me<;>simp only [bB] at f4;exact ih c'' s' a'' (f1.trans hB) (f2.trans hJ) f5 f6
   | exit id=>cases me<;>simp only [bB] at f4;rename_i j;exact ⟨c'',.exit j,s',f1.trans hB,f2.trans hJ,rfl,f4,f5,f6⟩
   | goto l=>cases me<;>simp only [bB] at f4
   | ret=>cases me<;>simp only [bB] at f4;exact ⟨c'',.ret,s',f1.trans hB,f2.trans hJ,rfl,trivial,f5,f6⟩
   | panic ch=>cases me<;>simp only [bB] at f4;rename_i d;exact ⟨c'',.panic d,s',f1.trans hB,f2.trans hJ,rfl,f4,f5,f6⟩
   | outgrown=>cases me<;>simp only [bB] at f4
 exact key n c st a rfl rfl r h
theorem fc {m:ck} {n:Nat} {s:St} (h:WT P (RQ (Rounds P m Q n) Q) (exec m s Tree.done)):WT P (RQ (Rounds P m Q (n+1)) Q) (.done .normal s):=h
theorem qh {R:St->Prop} {j:Nat} {s:St} (h:Q (.exit j) s):WT P (RQ R Q) (.done (.exit j) s):=h
theorem qi {R:St->Prop} {s:St} (h:Q .ret s):WT P (RQ R Q) (.done .ret s):=h
section
variable {α : Type} {S : α -> St} {inv : α -> Prop} {mu : α -> Nat} {x : α}
theorem cn (y:α) {s:St} (hi:inv y) (hm:mu y<mu x) (hw:Weak s (S y)):WT P (nH S inv mu x Q) (.done .normal s):=⟨y,hi,hm,hw⟩
theorem aJ {j:Nat} {s:St} (h:Q (.exit j) s):WT P (nH S inv mu x Q) (.done (.exit j) s):=h
theorem bV {s:St} (h:Q .ret s):WT P (nH S inv mu x Q) (.done .ret s):=h
theorem nI {s:St} {d:Dat} (h:Q (.panic d) s):WT P (nH S inv mu x Q) (.done (.panic d) s):=h
end
def pI (ρ:Nat->Nat) (regs:gw) (h h' : Heap):gw->Prop
 | []=>True
 | (i,v')::r=>(∃v,look regs i=some v/\VW ρ h h' v v')/\pI ρ regs h h' r
def OW (ρ:Nat->Nat) (h h' : Heap) (next:Nat):Heap->Prop
 | []=>True
 | (i,b')::r=>(((∃b,look h (ρ i)=some b/\oH ρ h h' b b')\/(look h (ρ i)=none/\jK b'))/\Nat.blt i next=true)/\OW ρ h h' next r
def Ed (ρ:Nat->Nat) (h h' : Heap):Nat->Prop
 | 0=>True
 | n+1=>(ρ n=n/\((look h n).isSome=true->(look h' n).isSome=true))/\Ed ρ h h' n
def dx:List (Nat×Nat)->Nat->Nat
 | [],i=>i
 | (a,b)::r,i=>match Nat.beq a i with
  | true=>b
  | false=>dx r i
def MO:Heap->List Nat
 | []=>[]
 | (i,_)::r=>i::MO r
def Am (ρ:Nat->Nat):List Nat->Bool
 | []=>true
 | i::r=>(r.all fun j=>!(Nat.beq (ρ i) (ρ j))||Nat.beq i j)&&Am ρ r
theorem nJ {ρ:Nat->Nat} {h h' : Heap}:∀{n:Nat},Ed ρ h h' n->∀id,id<n->ρ id=id/\((look h id).isSome=true->(look h' id).isSome=true)
 | 0,_,id,hid=>by omega
 | n+1,⟨h1,h2⟩,id,hid=>by
  by_cases he:id=n
  ·subst he;exact h1
  ·exact nJ h2 id (by omega)
theorem kN {ρ:Nat->Nat} {regs:gw} {h h' : Heap}:∀{r:gw},pI ρ regs h h' r->∀i v',look r i=some v'->∃v,look regs i=some v/\VW ρ h h' v v'
 | [],_,i,v,hh=>by simp [look] at hh
 | (j,u)::r,⟨h1,h2⟩,i,v,hh=>by
  rw [ai] at hh;by_cases hj:j=i
  ·rw [if_pos hj] at hh;injection hh with hh;subst hh;subst hj;exact h1
  ·rw [if_neg hj] at hh;exact kN h2 i v hh
theorem kO {ρ:Nat->Nat} {h h' : Heap} {next:Nat}:∀{r:Heap},OW ρ h h' next r->∀i b',look r i=some b'->((∃b,look h (ρ i)=some b/\oH ρ h h' b b')\/(look h (ρ i)=none/\jK b'))/\i<next
 | [],_,i,v,hh=>by simp [look] at hh
 | (j,u)::r,⟨h1,h2⟩,i,v,hh=>by
  rw [ai] at hh;by_cases hj:j=i
  ·rw [if_pos hj] at hh;injection hh with hh;subst hh;subst hj;exact ⟨h1.1,by simpa using h1.2⟩
  ·rw [if_neg hj] at hh;exact kO h2 i v hh
theorem sC:∀{h:Heap} {id:Nat},(look h id).isSome=true->id∈MO h
 | [],id,hh=>by simp [look] at hh
 | (j,u)::r,id,hh=>by
  rw [ai] at hh;by_cases hj:j=id
  ·simp [MO,hj]
  ·rw [if_neg hj] at hh;simp [MO,sC hh]
theorem x5 {ρ:Nat->Nat}:∀{l:List Nat},Am ρ l=true->∀i∈l,∀j∈l,ρ i=ρ j->i=j
 | [],_,i,hi,_,_,_=>by simp at hi
 | x::l,h,i,hi,j,hj,he=>by
  rw [Am,aay] at h;have key:∀y∈l,ρ x=ρ y->x=y:=by
   intro y hy hxy;have:=aaS.1 h.1 y hy;rw [hxy] at this;simpa using this
  rw [aaN] at hi hj
  rcases hi with rfl|hi
  ·rcases hj with rfl|hj
   ·rfl
   ·exact key j hj he
  ·rcases hj with rfl|hj
   ·exact (key i hi he.symm).symm
   ·exact x5 h.2 i hi j hj he
theorem Weak.ofR (l:List (Nat×Nat)) {st st' : St} (h1:pI (dx l) st.regs st.heap st'.heap st'.regs) (h2:OW (dx l) st.heap st'.heap st'.next st'.heap) (h3:st'.base=st.base) (h4:Nat.ble st.base st'.next=true) (h5:Ed (dx l) st.heap st'.heap st.base)
  (h8:Am (dx l) (MO st'.heap)=true) (h6:cQ st'.heap st'.defers=true) (h7:st.defers=gk (dx l) st'.defers):Weak st st':=
 ⟨dx l,fun i v h=>kN h1 i v h,fun i b h=>(kO h2 i b h).1,fun i b h=>(kO h2 i b h).2,h3,aaO h4,nJ h5,fun id id' hi hi' he=>x5 h8 id (sC hi) id' (sC hi') he,h6,h7⟩
def Blk.ren (ρ:Nat->Nat):Blk->Blk
 | .var cs=>.var (gk ρ cs)
 | b=>b
def Blk.closed (h:Heap):Blk->Bool
 | .var cs=>cQ h cs
 | _=>true
theorem tK {ρ:Nat->Nat} {h h' : Heap}:∀{cs:List V},cQ h' cs=true->VWL ρ h h' (gk ρ cs) cs
 | [],_=>trivial
 | v::r,hc=>by
  simp only [cQ,aay] at hc;exact ⟨.inl ⟨rfl,hc.1⟩,tK hc.2⟩
theorem HK {ρ:Nat->Nat} {h h' : Heap} {b:Blk} (hc:b.closed h' = true):oH ρ h h' (b.ren ρ) b:=by
 cases b with
 | var cs=>exact tK hc
 | arr k xs=>exact ⟨rfl,rfl⟩
 | mt k v xs=>exact ⟨rfl,rfl,rfl⟩
 | iter s p=>exact ⟨rfl,rfl⟩
 | map kk es=>exact ⟨rfl,rfl⟩
theorem sD {α:Type}:∀{l:List (Nat×α)} {i:Nat} {a:α},look l i=some a->(i,a)∈l
 | [],i,a,h=>by simp [look] at h
 | (j,b)::r,i,a,h=>by
  rw [ai] at h;by_cases hj:j=i
  ·rw [if_pos hj] at h;injection h with h;subst h;subst hj;simp
  ·rw [if_neg hj] at h;simp [sD h]
def KW (ρ:Nat->Nat) (h h' : Heap):Nat->Bool
 | 0=>true
 | n+1=>Nat.beq (ρ n) n&&(!(look h n).isSome||(look h' n).isSome)&&KW ρ h h' n
theorem HL {ρ:Nat->Nat} {h h' : Heap}:∀{n:Nat},KW ρ h h' n=true->Ed ρ h h' n
 | 0,_=>trivial
 | n+1,hk=>by
  rw [KW,aay,aay] at hk;refine ⟨⟨aaB hk.1.1,fun hs=>?_⟩,HL hk.2⟩;have:=hk.1.2;rw [hs] at this;simpa using this
theorem vg {α β:Type} {f g:α->β}:∀{l:List α},l.map f=l.map g->∀a∈l,f a=g a
 | [],_,a,ha=>by simp at ha
 | x::l,h,a,ha=>by
  simp only [abG,abE] at h;rw [aaN] at ha
  rcases ha with rfl|ha
  ·exact h.1
  ·exact vg h.2 a ha
theorem Weak.eqs (l:List (Nat×Nat)) {st st' : St} (h1:st'.regs.map (fun p=>look st.regs p.1)=st'.regs.map (fun p=>some (p.2.ren (dx l)))) (h1c:(st'.regs.all fun p=>p.2.closed st'.heap)=true)
  (h2:st'.heap.map (fun p=>look st.heap (dx l p.1))=st'.heap.map (fun p=>some (p.2.ren (dx l)))) (h2c:(st'.heap.all fun p=>p.2.closed st'.heap&&Nat.blt p.1 st'.next)=true)
  (h3:st'.base=st.base) (h4:Nat.ble st.base st'.next=true) (h5:KW (dx l) st.heap st'.heap st.base=true) (h8:Am (dx l) (MO st'.heap)=true) (h6:cQ st'.heap st'.defers=true) (h7:st.defers=gk (dx l) st'.defers):Weak st st':=by
 refine ⟨dx l,?_,?_,?_,h3,aaO h4,nJ (HL h5),fun id id' hi hi' he=>x5 h8 id (sC hi) id' (sC hi') he,h6,h7⟩
 ·intro i v' hv
  have hm:=sD hv;exact ⟨v'.ren (dx l),vg h1 (i,v') hm,.inl ⟨rfl,aaS.1 h1c (i,v') hm⟩⟩
 ·intro id b' hb
  have hm:=sD hb;have:=aaS.1 h2c (id,b') hm;rw [aay] at this;exact .inl ⟨b'.ren (dx l),vg h2 (id,b') hm,HK this.1⟩
 ·intro id b' hb
  have:=aaS.1 h2c (id,b') (sD hb);rw [aay] at this;simpa using this.2
theorem Weak.of {st st' : St} (h1:pI (dx []) st.regs st.heap st'.heap st'.regs) (h2:OW (dx []) st.heap st'.heap st'.next st'.heap) (h3:st'.base=st.base) (h4:Nat.ble st.base st'.next=true) (h5:Ed (dx []) st.heap st'.heap st.base)
  (h6:cQ st'.heap st'.defers=true) (h7:st.defers=gk (dx []) st'.defers):Weak st st':=
 ⟨dx [],fun i v h=>kN h1 i v h,fun i b h=>(kO h2 i b h).1,fun i b h=>(kO h2 i b h).2,h3,aaO h4,nJ h5,fun id id' _ _ he=>he,h6,h7⟩
end
end Uw
namespace Uw
open Go Go.RowKit
variable [Glob]
structure MP where
 n:Nat
 pol:Pol
 t:Nat
 ops:List MI
 rest:ck
def isRec (o:Oper):Option Nat:=
 match o.op,o.guard,o.dst with
 | .call c,none,some t=>match c.callee with
  | .builtin .recover=>some t
  | _=>none
 | _,_,_=>none
def Vs (P:Program) (f:FuncId) (n:Nat) (pol:Pol):Option (Nat×List MI×ck):=
 match P.funcs[f]? with
 | some fn=>match fn.body,fn.results.toList with
  | some (.seq (.region _ ops false) code),[]=>match ops.toList with
   | o::l=>match !(fn.name == "runtime.NumGoroutine")&&Nat.beq fn.ntmps n,isRec o,dV P n pol ops.toList l,comp P n pol code with
    | true,some t,some mi,some c=>match Nat.blt t n with
     | true=>some (t,mi,c)
     | false=>none
    | _,_,_,_=>none
   | []=>none
  | _,_=>none
 | none=>none
def An (P:Program) (f:FuncId) (m:MP):Prop:=Vs P f m.n m.pol=some (m.t,m.ops,m.rest)
def KX (c:Cx):Option Dat->FrameMode->Prop
 | none,u=>u = .returning
 | some d,u=>∃v,u = .panicking [{ v:=v,recovered:=false }]/\aI c.w (Imm c) d v
def OX:Option Dat->Dat
 | some d=>d
 | none=>.nilIface
def Ao (P:Program) (f:FuncId) (vs:List V) (h:Heap) (nx:Nat) (mode:Option Dat) (Q:Heap->Nat->Prop):Prop:=
 mN P f/\∀(c:Cx) (w0:World) (F:Fr) (gvs:List Value) (u:FrameMode),c.heap=h->c9 c w0 nx->F.K<=nx->F.p c->ay c vs gvs->KX c mode u->
  CallsD P f gvs.toArray u c.w fun e u' w'=>∃c' nx' v,c'.B=c.B/\c'.J0=c.J0/\c'.w=w'/\c9 c' w0 nx'/\nx<=nx'/\F.p c'/\e = .returned v/\settle u' = .returning/\Q c'.heap nx'
theorem OY {P:Program} {o:Oper} {a:Act} {w:World} {K K' : Act->World->Prop} {Q Q' : Exit->Act->World->Prop} (h:∀a w,K a w->K' a w) (hq:∀e a w,Q e a w->Q' e a w) (hh:o.wp P a w K Q):o.wp P a w K' Q':=by
 unfold Oper.wp at *;generalize (execOp a.eval o).run P w=r at *
 cases r with
 | ok n w'=>
  cases n<;>simp only [Oper.upon] at hh ⊢<;>
   first
    | exact h _ _ hh
    | exact Calls.mono hh (fun e w'' he=>by cases e<;>first|exact h _ _ he|exact hq _ _ _ he|(obtain ⟨a1,w1,h1⟩:=he;exact ⟨a1,w1,hq _ _ _ h1⟩))
    | exact Rows.mono hh (fun _ _ he=>h _ _ he)
 | halt x w'=>cases x<;>simp only [Oper.upon] at hh ⊢<;>first|exact hq _ _ _ hh|exact hh
theorem qY {P:Program} {ops:Array Oper} {Q Q' : Exit->Act->World->Prop} (hq:∀e a w,Q e a w->Q' e a w):∀(l:List Oper) (a:Act) (w:World),wpList P ops Q l a w->wpList P ops Q' l a w
 | [],a,w,h=>hq _ _ _ h
 | o::l,a,w,h=>by
  simp only [wpList] at h ⊢
  split at h
  ·rename_i hw
   rw [if_pos hw]
   rcases h with h|⟨h1,a1,w1,h2⟩
   ·exact .inl (OY (fun a w=>qY hq l a w) hq h)
   ·exact .inr ⟨h1,a1,w1,hq _ _ _ h2⟩
  ·rename_i hw
   rw [if_neg hw];exact qY hq l _ _ h
theorem ze {P:Program} {ops:Array Oper} {Q:Exit->Act->List Frame->World->Prop} {cs:List Frame} (hno:∀a w,¬Q .outgrown a cs w):∀(l:List Nat) (a:Act) (w:World),wpOps P ops (fun e a w=>Q e a cs w) l a w->wpOpsS P ops Q l a cs w:=by
 intro l
 induction l with
 | nil=>intro a w h;exact h
 | cons i l ih=>
  intro a w h;simp only [wpOps] at h;simp only [wpOpsS]
  cases ho:ops[i]? with
  | none=>simp only [ho] at h ⊢;exact ih a w h
  | some o=>
   simp only [ho] at h ⊢
   split
   ·rename_i hw
    simp only [hw,if_true] at h
    rcases h with h|⟨_,a',w',hl⟩
    ·have h':=Oper.wp_mono ih h
     unfold Oper.wp at h'
     split
     ·rename_i w' hr
      rw [hr] at h';exact h'.elim
     ·exact h'
    ·exact (hno _ _ hl).elim
   ·rename_i hw
    simp only [hw] at h;exact ih _ _ h
theorem OZ {P:Program} {f:FuncId} {m:MP} (h:An P f m):∃fn id ops code o l,P.funcs[f]? = some fn/\fn.body=some (.seq (.region id ops false) code)/\fn.results.toList=[]/\ops.toList=o::l/\(fn.name == "runtime.NumGoroutine")=false/\fn.ntmps=m.n/\isRec o=some m.t/\dV P m.n m.pol ops.toList l=some m.ops/\comp P m.n m.pol code=some m.rest/\m.t<m.n:=by
 unfold An Vs at h
 split at h
 ·rename_i fn hf
  split at h
  ·rename_i id ops code hb hr
   split at h
   ·rename_i o l ho
    split at h
    ·rename_i t mi c h1 h2 h3 h4
     split at h
     ·rename_i h5
      simp only [aaP,abf] at h;obtain ⟨rfl,rfl,rfl⟩:=h;rw [aay] at h1;exact ⟨fn,id,ops,code,o,l,hf,hb,hr,ho,by simpa using h1.1,aaB h1.2,h2,h3,h4,by simpa using h5⟩
     ·simp at h
    ·simp at h
   ·simp at h
  ·simp at h
 ·simp at h
theorem O1 {P:Program} {o:Oper} {t:Nat} (h:isRec o=some t):o.guard=none/\o.dst=some t/\∀(a:Act) (w:World),(execOp a.eval o).run P w = .ok .recover w:=by
 unfold isRec at h
 split at h
 ·rename_i cl t' ho hg hd
  split at h
  ·rename_i hc
   simp at h;subst h;refine ⟨hg,hd,fun a w=>?_⟩;obtain ⟨cal,args,ats⟩:=cl;simp only at hc;subst hc;simp only [execOp,ho,resolve,invoke,builtin];rfl
  ·simp at h
 ·simp at h
def SG (Q:Heap->Nat->Prop) (e:aG) (s:St):Prop:=(e = .normal\/e = .ret)/\s.defers=[]/\Q s.heap s.next
noncomputable def Ya (m:MP) (st:St) (q:aG->St->Tree):Tree:=
 dt m.ops none st fun e st'=>match e with
  | .normal=>exec m.rest st' q
  | e=>q e st'
theorem qZ {P:Program} {f:FuncId} {m:MP} (hf:An P f m) {vs:List V} {h:Heap} {nx:Nat} {mode:Option Dat} {Q:Heap->Nat->Prop} (hn:Nat.ble vs.length m.n=true)
  (hw:WT P (SG Q) (Ya m (put (some m.t) (.d (OX mode)) ⟨dP 0 vs,h,nx,[],nx⟩) Tree.done)):Ao P f vs h nx mode Q:=by
 obtain ⟨fn,id,ops,code,o,l,h1,h2,hres,hol,hname,hnt,hrec,hcl,hcode,htn⟩:=OZ hf;refine ⟨⟨fn,h1,by rw [h2];rfl,hname⟩,?_⟩;rintro c w0 F gvs u rfl hh hF hp hv hmode
 let F' : Fr:=⟨nx,F.p,fun c c' he hc=>F.ok c c' (he.mono hF) hc⟩
 have r0:=Rel.enter (F:=F') (n:=m.n) hh (aax _) hp hv (aaO hn);obtain ⟨hg,hdst,hrun⟩:=O1 (P:=P) hrec;refine callsD_of_wpS h1 h2 ?_;intro c₀ cs hu;rw [hnt];have final:∀(v:Value) (u' : FrameMode),settle u' = .returning->aB c (.d (OX mode)) v->
   wpOpsS P ops (Exit.thenS (code.wpS P (bodyPostS P fn c₀ cs fun e u' w'=>∃c' nx' v,c'.B=c.B/\c'.J0=c.J0/\c'.w=w'/\c9 c' w0 nx'/\nx<=nx'/\F.p c'/\e = .returned v/\settle u' = .returning/\Q c'.heap nx')) (bodyPostS P fn c₀ cs fun e u' w'=>∃c' nx' v,c'.B=c.B/\c'.J0=c.J0/\c'.w=w'/\c9 c' w0 nx'/\nx<=nx'/\F.p c'/\e = .returned v/\settle u' = .returning/\Q c'.heap nx'))
    (List.range' 1 l.length) (({ tmps:=gvs.toArray++Array.replicate (m.n - gvs.toArray.size) undef,defers:=[] }:Act).put o.dst v) ({ c₀ with mode:=u' }::cs) c.w:=by
  intro v u' hset hvr;have r1:=r0.put (dst:=some m.t) (by simpa using htn) hvr;have hend:∀(e:Exit) (a' : Act) (w' : World),Came P (SG Q) Tree.done c w0 m.n F' e a' w'->bodyPostS P fn c₀ cs (fun e u' w'=>∃c' nx' v,c'.B=c.B/\c'.J0=c.J0/\c'.w=w'/\c9 c' w0 nx'/\nx<=nx'/\F.p c'/\e = .returned v/\settle u' = .returning/\Q c'.heap nx') e a' ({ c₀ with mode:=u' }::cs) w':=by
   intro e a' w' ⟨c',me,st',e1,e2,e3,e4,e5,e6⟩;subst e3;simp only [WT,SG] at e6;obtain ⟨g1,g2,g3⟩:=e6;have hdef:a'.defers=[]:=by have:=e5.defers;rw [g2] at this;exact this
   have hres' : (results fn a'.tmps).run P c'.w = .ok (.tuple #[]) c'.w:=by
    have:=gB (P:=P) (fn:=fn) (t:=a'.tmps) (w:=c'.w) (us:=[]) (by rw [hres];simp);simpa using this
   have key:a'.defers=[]/\∃u'',{ c₀ with mode:=u' }::cs={ c₀ with mode:=u'' }::cs/\∃v,(results fn a'.tmps).run P c'.w = .ok v c'.w/\(∃c'' nx' v',c''.B=c.B/\c''.J0=c.J0/\c''.w=c'.w/\c9 c'' w0 nx'/\nx<=nx'/\F.p c''/\Ending.returned v = .returned v'/\settle u'' = .returning/\Q c''.heap nx'):=
    ⟨hdef,u',rfl,_,hres',c',st'.next,_,e1,e2,rfl,e5.hrel,aa7 e5.kx e5.base,e5.frames,rfl,hset,by rw [e5.heap];exact g3⟩
   cases e with
   | normal=>exact key
   | ret=>exact key
   | exit id=>cases me<;>simp only [bB] at e4;simp at g1
   | goto l=>cases me<;>simp only [bB] at e4
   | panic ch=>cases me<;>simp only [bB] at e4;simp at g1
   | outgrown=>cases me<;>simp only [bB] at e4
  have hlist:=u5 (P:=P) (n:=m.n) (pol:=m.pol) (ops:=ops.toList) (Q:=SG Q) (w0:=w0) (gs:=F') (c0:=c) l m.ops none c _ _ hcl rfl rfl r1 (by intro t w' h' hh;simp at hh) hw;have e:ops.toList.toArray=ops:=by simp
  rw [e] at hlist;rw [hdst];refine ze ?_ _ _ _ ?_
  ·intro a w hq
   simp only [Exit.thenS,bodyPostS] at hq;obtain ⟨u'',c',nx',v',_,_,_,_,_,_,hh,_⟩:=hq
   cases hh
  ·rw [wpOps_eq_wpList l 1 (by intro j;rw [<- acf,hol,abX];rfl)]
   refine qY ?_ _ _ _ hlist;intro e' a' w' hq;obtain ⟨c',me,st',e1,e2,e3,e4,e5,e6⟩:=hq;subst e3
   cases e' with
   | normal=>
    cases me<;>simp only [bB] at e4
    simp only [Exit.thenS];refine wpS_of_wp (Code.wp_mono ?_ (jv (plainW P) code m.rest hcode (.inl rfl) Tree.done c' st' a' e5 e6));intro e'' a'' w'' Zb;obtain ⟨c'',me',EW,f1,f2,f3,f4,f5,f6⟩:=Zb;exact hend _ _ _ ⟨c'',me',EW,f1.trans e1,f2.trans e2,f3,f4,f5,f6⟩
   | exit id=>cases me<;>simp only [bB] at e4;rename_i j;exact hend (.exit id) a' c'.w ⟨c',.exit j,st',e1,e2,rfl,e4,e5,e6⟩
   | goto l=>cases me<;>simp only [bB] at e4
   | ret=>cases me<;>simp only [bB] at e4;exact hend .ret a' c'.w ⟨c',.ret,st',e1,e2,rfl,trivial,e5,e6⟩
   | panic ch=>cases me<;>simp only [bB] at e4;rename_i d;exact hend (.panic ch) a' c'.w ⟨c',.panic d,st',e1,e2,rfl,e4,e5,e6⟩
   | outgrown=>cases me<;>simp only [bB] at e4
 refine wpS_seq (wpS_region ?_);have hsize:ops.size=l.length+1:=by rw [<- acI,hol];rfl
 rw [hsize,List.range_eq_range',List.range'_succ];have ho0:ops[0]? = some o:=by rw [<- acf,hol];rfl
 simp only [wpOpsS,ho0];have hwant:Region.wanted o (yielded ops (gvs.toArray++Array.replicate (m.n - gvs.toArray.size) undef))=true:=by simp [Region.wanted,hg]
 rw [if_pos hwant];rw [hrun];simp only []
 cases mode with
 | none=>
  have hu' : c₀.mode = .returning:=by rw [hu];exact hmode
  have:recoverD (c₀::cs)=none:=by simp [recoverD,hu']
  simp only [this];have:=final .nilIface .returning rfl (by simp [aB,OX,aI]);have ec:({ c₀ with mode:=.returning }:Frame)=c₀:=by rw [<- hu']
  rw [ec] at this;simpa using this
 | some d=>
  obtain ⟨v,hu2,hv2⟩:=hmode;have hu' : c₀.mode = .panicking [{ v:=v,recovered:=false }]:=by rw [hu];exact hu2
  have:recoverD (c₀::cs)=some (v,{ c₀ with mode:=.panicking [{ v:=v,recovered:=true }] }::cs):=by simp [recoverD,hu']
  simp only [this];have:=final v (.panicking [{ v:=v,recovered:=true }]) rfl hv2;simpa using this
def Yb (P:Program) (res:List gY) (r:Dat) (e:aG) (st:St):Prop:=
 ((e = .normal\/e = .ret)/\st.defers=[]/\∃vs ds,resV st res=some vs/\dY st.heap vs=some ds/\xZ st.heap vs=true/\kB ds=r)\/
 ∃mode g fs cs,((e = .normal\/e = .ret)/\mode=none\/∃d,e = .panic d/\mode=some d)/\st.defers=[.func g fs cs]/\
  Ao P g (fs++cs) st.heap st.next mode fun h' nx'=>∃vs ds,resV { st with heap:=h',next:=nx' } res=some vs/\dY h' vs=some ds/\xZ h' vs=true/\kB ds=r
theorem Ap {P:Program} {f:FuncId} {fs cs:Array Value} {w:World} (hb:mN P f):(invoke (.fn (.func f) cs) fs).run P w = .ok (.enter f (fs++cs)) w:=by
 obtain ⟨fn,hf,hb,hn⟩:=hb;have hb' : fn.body.isNone=false:=by cases h:fn.body<;>simp [h] at hb ⊢
 simp only [invoke];unfold callFunc;rw [run_bind_ok (s:=program) (x:=P) (w':=w) rfl];simp only [hf,hn,hb',aaX,if_false];rfl
theorem Came.weak {P:Program} {Q:aG->St->Prop} {c:Cx} {w0:World} {n:Nat} {gs:Fr} {e:Exit} {a:Act} {w:World} (h:Came P (fun e st=>∃st',(st' = st\/Weak st st')/\Q e st') Tree.done c w0 n gs e a w):Came P Q Tree.done c w0 n gs e a w:=by
 obtain ⟨c1,me,st1,e1',e2',e3',e4',e5',e6'⟩:=h;subst e3';simp only [WT] at e6';obtain ⟨st',Ai,e6⟩:=e6';obtain ⟨c',k1,k2,k3,k5,e5⟩:∃c',c'.B=c1.B/\c'.J0=c1.J0/\c'.w=c1.w/\Keeps c1.w c1.w (Imm c1) (Imm c')/\Rel c' w0 n gs st' a:=by
  rcases Ai with rfl|Ai
  ·exact ⟨c1,rfl,rfl,rfl,fun b o h=>⟨h,rfl⟩,e5'⟩
  ·exact e5'.weak Ai
 have e4:bB c' e me:=by
  cases e<;>cases me<;>simp only [bB] at e4' ⊢<;>first|exact e4' | skip
  obtain ⟨v,h1,h2⟩:=e4';exact ⟨v,h1,by rw [k3];exact aI.keep k5 _ _ h2⟩
 exact ⟨c',me,st',k1.trans e1',k2.trans e2',k3,e4,e5,e6⟩
theorem jq {P:Program} {f:FuncId} {m:bE} (hf:aM P f m) {args:List Dat} {r:Dat} (hn:Nat.ble args.length m.n=true)
  (h:WT P (fun e st=>∃st',(st' = st\/Weak st st')/\Yb P m.res r e st') (exec m.code (lX args) Tree.done)):Ret P f args r:=by
 obtain ⟨fn,code,h1,h2,h0,h3,h4,h5⟩:=hf;intro w J vs hG hrel;refine calls_of_wp_defers h1 h2 ?_;rw [h3];refine Code.wp_mono ?_ (jv (plainW P) code m.code h5 (.inl rfl) Tree.done _ _ _ (Rel.init hG hrel (aaO hn)) h);intro e a' w' HM;obtain ⟨c',me,st',e1,e2,e3,e4,e5,e6⟩:=HM.weak;subst e3;simp only [WT] at e6
 rcases e6 with ⟨g1,g2,vs',ds,g3,g4,g5,rfl⟩|⟨mode,g,fs,cs,hmode,hdef,O2⟩
 ·obtain ⟨v,hv1,hv2⟩:=Aj (P:=P) (w:=w) (J:=J) e5 h4 e1 e2 g3 g4 g5
  have hbel:Below w.heap.size w c'.w:=by have:=e5.hrel.below;rw [e1] at this;exact this
  have hd:a'.defers=[]:=by have:=e5.defers;rw [g2] at this;exact this
  have key:Leaves P fn a'.tmps (fun e w'=>∃v,e = .returned v/\aI w' (fun b o=>J b o\/(w.heap.size<=b/\b<w'.heap.size)) (kB ds) v/\Below w.heap.size w w') a'.defers .returning c'.w:=by
   rw [hd];exact ⟨v,hv1,v,rfl,hv2,hbel⟩
  cases e with
  | normal=>exact key
  | ret=>exact key
  | exit id=>cases me<;>simp only [bB] at e4;simp at g1
  | goto l=>cases me<;>simp only [bB] at e4
  | panic ch=>cases me<;>simp only [bB] at e4;simp at g1
  | outgrown=>cases me<;>simp only [bB] at e4
 ·have hd:=e5.defers
  rw [hdef] at hd;obtain ⟨dd,ds',f',first,cap,us,ws,hd1,hd2,hd3,hd4,hd5,hd6⟩:=hd;simp only [V.func.injEq] at hd2;obtain ⟨rfl,rfl,rfl⟩:=hd2;simp only [cH] at hd6;subst hd6 hd3;have key:∀u,u≠.run->KX c' mode u->Leaves P fn a'.tmps (fun e w'=>∃v,e = .returned v/\aI w' (fun b o=>J b o\/(w.heap.size<=b/\b<w'.heap.size)) r v/\Below w.heap.size w w') a'.defers u c'.w:=by
   intro u hur hu;rw [hd1];refine leaves_cons hur (Ap O2.1) ?_;have hs:=O2.2 c' w (xU Fr.none st' a' e5.frK) (us++ws) u e5.heap e5.hrel (aax _) e5.RZ (hd4.append hd5) hu;rw [<- acn] at hs;refine hs.mono ?_;rintro e u' w' ⟨c'',nx',v,pB,pJ,rfl,pH,pn,pF,rfl,hset,vs',ds,q1,q2,q3,rfl⟩;have r':=e5.V1 pF pH pn;simp only [hset];obtain ⟨v,hv1,hv2⟩:=Aj (P:=P) (w:=w) (J:=J) r' h4 (pB.trans e1) (pJ.trans e2) q1 q2 q3;have hbel:Below w.heap.size w c''.w:=by have:=pH.below;rw [pB,e1] at this;exact this
   exact ⟨v,hv1,v,rfl,hv2,hbel⟩
  cases e with
  | normal=>
   cases me<;>simp only [bB] at e4
   rcases hmode with ⟨_,rfl⟩|⟨d,hh,_⟩
   ·exact key .returning (by simp) rfl
   ·cases hh
  | ret=>
   cases me<;>simp only [bB] at e4
   rcases hmode with ⟨_,rfl⟩|⟨d,hh,_⟩
   ·exact key .returning (by simp) rfl
   ·cases hh
  | exit id=>cases me<;>simp only [bB] at e4;rcases hmode with ⟨hh,_⟩|⟨d,hh,_⟩<;>simp at hh
  | goto l=>cases me<;>simp only [bB] at e4
  | panic ch=>
   cases me<;>simp only [bB] at e4
   rename_i d0
   rcases hmode with ⟨hh,_⟩|⟨d,hh,rfl⟩
   ·simp at hh
   ·injection hh with hh;subst hh
    obtain ⟨v,rfl,hv⟩:=e4;exact key _ (by simp) ⟨v,rfl,hv⟩
  | outgrown=>cases me<;>simp only [bB] at e4
theorem Ao.mono {P:Program} {f:FuncId} {vs:List V} {h:Heap} {nx:Nat} {mode:Option Dat} {Q Q' : Heap->Nat->Prop} (hs:Ao P f vs h nx mode Q) (hq:∀h' nx',Q h' nx'->Q' h' nx'):Ao P f vs h nx mode Q':=by
 refine ⟨hs.1,fun c w0 F gvs u h1 h2 h3 h4 h5 h6=>(hs.2 c w0 F gvs u h1 h2 h3 h4 h5 h6).mono ?_⟩;rintro e u' w' ⟨c',nx',v,e1,e2,e3,e4,e5,e6,e7,e8,e9⟩;exact ⟨c',nx',v,e1,e2,e3,e4,e5,e6,e7,e8,hq _ _ e9⟩
end Uw
namespace Uw
open Go Go.RowKit
variable [Glob]
end Uw
namespace Uw
open Go Go.RowKit
variable [Glob]
mutual
inductive DLe:Dat->Dat->Prop
 | refl (d:Dat):DLe d d
 | nil (k:Nat):DLe .nil (.slice k [] false)
 | slice {k:Nat} {xs ys:List (List Dat)} {z:Bool} (h:Dq xs ys):DLe (.slice k xs z) (.slice k ys false)
 | agg {cs ds:List Dat} (h:wc cs ds):DLe (.agg cs) (.agg ds)
 | tuple {cs ds:List Dat} (h:wc cs ds):DLe (.tuple cs) (.tuple ds)
inductive wc:List Dat->List Dat->Prop
 | refl (l:List Dat):wc l l
 | cons {a b:Dat} {as bs:List Dat} (h:DLe a b) (h2:wc as bs):wc (a::as) (b::bs)
inductive Dq:List (List Dat)->List (List Dat)->Prop
 | refl (l:List (List Dat)):Dq l l
 | cons {a b:List Dat} {as bs:List (List Dat)} (h:wc a b) (h2:Dq as bs):Dq (a::as) (b::bs)
end
mutual
theorem DLe.rel {w:World} {J:Nat->Nat->Prop}:∀{d d' : Dat},DLe d d'->∀{v:Value},aI w J d v->aI w J d' v
 | _,_,.refl d,v,r=>r
 | _,_,.nil k,v,r=>.inl ⟨⟨_,r,by simp⟩,rfl⟩
 | _,_,.slice h,v,.inl ⟨⟨x,r1,_⟩,r2⟩=>.inl ⟨⟨x,r1,by simp⟩,by subst r2;cases h;rfl⟩
 | _,_,.slice h,v,.inr ⟨b,o,cap,h1,h2,h3,h4⟩=>.inr ⟨b,o,cap,by rw [<- h.len];exact h1,by rw [<- h.len];exact h2,by simp,h.rel h4⟩
 | _,_,.agg h,v,⟨vs,h1,h2⟩=>⟨vs,h1,h.rel h2⟩
 | _,_,.tuple h,v,⟨vs,h1,h2⟩=>⟨vs,h1,h.rel h2⟩
theorem wc.rel {w:World} {J:Nat->Nat->Prop}:∀{d d' : List Dat},wc d d'->∀{vs:List Value},bp w J d vs->bp w J d' vs
 | _,_,.refl l,vs,r=>r
 | _,_,.cons h h2,vs,⟨v,vs',e1,e2,e3⟩=>⟨v,vs',e1,h.rel e2,h2.rel e3⟩
theorem wc.Yc {w:World} {J:Nat->Nat->Prop} {b:Nat}:∀{d d' : List Dat},wc d d'->∀{o:Nat},dR w J b o d->dR w J b o d'
 | _,_,.refl l,o,r=>r
 | _,_,.cons h h2,o,⟨⟨v,e1,e2,e3,e4⟩,e5⟩=>⟨⟨v,e1,e2,e3,h.rel e4⟩,h2.Yc e5⟩
theorem Dq.rel {w:World} {J:Nat->Nat->Prop} {b k:Nat}:∀{d d' : List (List Dat)},Dq d d'->∀{o:Nat},cS w J b k o d->cS w J b k o d'
 | _,_,.refl l,o,r=>r
 | _,_,.cons h h2,o,⟨e1,e2,e3⟩=>⟨by rw [<- h.len];exact e1,h.Yc e2,h2.rel e3⟩
theorem wc.len:∀{d d' : List Dat},wc d d'->d.length=d'.length
 | _,_,.refl l=>rfl
 | _,_,.cons h h2=>by simp [h2.len]
theorem Dq.len:∀{d d' : List (List Dat)},Dq d d'->d.length=d'.length
 | _,_,.refl l=>rfl
 | _,_,.cons h h2=>by simp [h2.len]
end
theorem Ret.args {P:Program} {f:FuncId} {ds ds' : List Dat} {r:Dat} (h:Ret P f ds' r) (hl:wc ds ds'):Ret P f ds r:=fun w J vs hg hr=>h w J vs hg (hl.rel hr)
theorem Ret.res {P:Program} {f:FuncId} {ds:List Dat} {r r' : Dat} (h:Ret P f ds r) (hl:DLe r r'):Ret P f ds r':=fun w J vs hg hr=>(h w J vs hg hr).mono (by
 rintro e w' ⟨v,e1,e2,e3⟩;exact ⟨v,e1,hl.rel e2,e3⟩)
theorem O4 {P:Program} {Q:aG->St->Prop} {b:Bool} {y:Tree} (hb:b=true) (h1:WT P Q y):WT P Q (.test b y .fail):=⟨fun _=>h1,fun h=>(by rw [hb] at h;cases h)⟩
theorem Wg {P:Program} {Q:aG->St->Prop} {k:IntKind} {x:Int} {y n:Tree} (hb:inR k x=true) (h1:WT P Q y):WT P Q (.test (inR k x) y n):=⟨fun _=>h1,fun h=>(by rw [hb] at h;cases h)⟩
theorem eh {ρ:Nat->Nat} {h h' : Heap} {b b' : Blk} (e:b=b'.ren ρ) (hc:b'.closed h' = true):oH ρ h h' b b':=by subst e;exact HK hc
theorem dc {ρ:Nat->Nat} {h h' : Heap} {k:IntKind} {a b:Int} (e:a=b):VW ρ h h' (.d (.int k a)) (.d (.int k b)):=by subst e;exact Or.inl ⟨rfl,rfl⟩
theorem Aq {ρ:Nat->Nat} {h h' : Heap} {id ver off a b:Nat} (e:a=b) (hr:ρ id=id) (hc:(look h' id).isSome=true):VW ρ h h' (.ref id ver off a) (.ref id ver off b):=by subst e;exact Or.inl ⟨by rw [V.ren,hr],hc⟩
theorem O5 {ρ:Nat->Nat} {h h' : Heap} {a b:List UInt8} (e:a=b):VW ρ h h' (.d (.str a)) (.d (.str b)):=by subst e;exact Or.inl ⟨rfl,rfl⟩
theorem Wh {α:Type} {g:α->List Dat} {l:List α} {n:Nat} {xs:List (List Dat)} (h1:n=xs.length) (h2:xs=l.map g):(xs.drop 0).take n=l.map g:=by subst h1;rw [aa9,aaK,h2]
theorem we {α β:Type} (g:α->β) (l:List α) (k:Nat) (h:k<l.length):(l.map g)[k]? = some (g l[k]):=by simp [h]
theorem take_one {α:Type} (l:List α) (k:Nat) (h:k<l.length):l.take (k+1)=l.take k++[l[k]]:=by rw [aaz h]
end Uw
namespace Uw
open Go Go.RowKit Go.ChangeShapes Go.WideShapes Go.ChangeAt
variable [Glob]
theorem uJ {H:Type} {enc:TypeId×Value->H} {P:Program} {W W' : World} (hl:laidOutB P=true) (hb:Below W.heap.size W W'):∀{ts:List TypeId} {vs:List Value} {ds:List (DataW H)} {p:List MemPlace},
  (ts.all fun t=>P.readableRec t&&decide (t<P.types.size))=true->DataW.TrodAll enc P W 0 (fun _=>true) true ts vs ds p->(∀x∈p,x.block<W.heap.size)->DataW.TrodAll enc P W' 0 (fun b=>decide (b<W.heap.size)) true ts vs ds p
 | [],[],[],p,_,h,_=>h
 | t::ts,v::vs,d::ds,p,ht,⟨p1,q1,h1,h2,h3⟩,hlt=>by
  rw [acP,aay,aay] at ht;subst h3;exact ⟨p1,q1,Below.trod hl ht.1.1 (of_decide_eq_true ht.1.2) h1 hb (fun x hx=>hlt x (by simp [hx])),uJ hl hb ht.2 h2 (fun x hx=>hlt x (by simp [hx])),rfl⟩
 | [],_::_,_,_,_,h,_=>h.elim
 | [],[],_::_,_,_,h,_=>h.elim
 | _::_,[],_,_,_,h,_=>h.elim
 | _::_,_::_,[],_,_,h,_=>h.elim
theorem Jy {H:Type} {enc:TypeId×Value->H} {P:Program} {f:Func} {s:ChangeSpec} {apart fresh handsOn:Bool} {W W' : World} {args:Array Value} {v:Value} {ds gs:List (DataW H)} {before:List MemPlace} {tb:TypeId}
  (hl:laidOutB P=true) (hts:(f.params.toList.all fun t=>P.readableRec t&&decide (t<P.types.size))=true) (hrt:f.resultTypes = #[tb]) (htb:P.underlying tb=some .bool) (hvs:s.vars=[])
  (hW:DataW.Whole enc P f.params.toList s.vars apart W args.toList ds gs before) (hfn:s.fn H ds={ results:=[.lit (.bool true)],args:=ds }) (hb:Below W.heap.size W W') (hv:v = .bool true):s.post enc P f apart fresh handsOn false W args v W':=by
 have hW':=hW;obtain ⟨p,q,hA,hV,rfl,hfz,hnd⟩:=hW;rw [hvs] at hV;obtain ⟨rfl,rfl⟩:=trodVars_none hV;have hlt:∀x∈p,x.block<W.heap.size:=fun x hx=>by simpa using hW'.lt x (by simpa using hx)
 subst hv;refine ⟨ds,[],p++[],[],p,[],hW',?_,?_,?_,?_,by simp⟩
 ·rw [aa6,hfn,hrt]
  exact trodAll_cons_mk (shut_bool htb _) trodAll_mk0
 ·rw [aa6,hfn]
  exact uJ hl hb hts hA hlt
 ·rw [hvs,aa6,hfn]
  rfl
 ·exact World.keptBut_mono (fun _ h=>h.elim) (hb.frame (fun _=>False))
end Uw
namespace Uw
open Go Go.RowKit
variable [Glob]
inductive Ty where
 | bool
 | int (k:IntKind)
 | str
 | slice (n:Nat) (e:Ty)
 | struct (fs:List Ty)
abbrev O6:Nat->Nat->Prop:=fun _ _=>True
theorem dR.ofL {w:World} {b:Nat}:∀{ds:List Dat} {cs:List Value} {o:Nat},bp w O6 ds cs->(∀v∈cs,one v=true)->(∀j v,cs[j]? = some v->w.cell? ⟨b,o+j,none⟩=some v)->dR w O6 b o ds
 | [],cs,o,_,_,_=>by simp [dR]
 | d::ds,cs,o,⟨v,vs,e,h1,h2⟩,h3,h4=>by
  subst e;refine ⟨⟨v,by simpa using h4 0 v rfl,trivial,h3 v (by simp),h1⟩,dR.ofL h2 (fun u hu=>h3 u (by simp [hu])) (fun j u hu=>?_)⟩;have:=h4 (j+1) u (by simpa using hu);rw [show o+1+j=o+(j+1) by omega];exact this
theorem cS.of {w:World} {b k:Nat}:∀{xs:List (List Dat)} {o:Nat},(∀i x,xs[i]? = some x->x.length=k/\dR w O6 b (o+i * k) x)->cS w O6 b k o xs
 | [],o,_=>by simp [cS]
 | x::xs,o,h=>by
  have h0:=h 0 x rfl;refine ⟨h0.1,by simpa using h0.2,cS.of (fun i y hy=>?_)⟩;have:=h (i+1) y (by simpa using hy);rw [show o+k+i * k=o+(i+1) * k by rw [abb];omega];exact this
end Uw
namespace Uw
open Go Go.Lib
theorem x6 (s:List UInt8) (i:Nat) (b:UInt8) (h:s[i]? = some b):(⟨s.toArray⟩:ByteArray).get! i=b:=by
 show s.toArray[i]! = b;rw [getElem!_def];simp [h]
theorem Ee (s:List UInt8) (pos:Nat):ca s pos=decodeN (s.length - pos) ((⟨s.toArray⟩:ByteArray).get! pos).toNat ((⟨s.toArray⟩:ByteArray).get! (pos+1)).toNat ((⟨s.toArray⟩:ByteArray).get! (pos+2)).toNat ((⟨s.toArray⟩:ByteArray).get! (pos+3)).toNat:=by
 rw [DW,decode_at];rfl
theorem vh (s:List UInt8) (pos:Nat) (b:UInt8) (h:s[pos]? = some b) (hb:b.toNat<128):ca s pos=(b.toNat,1):=by
 rw [Ee,x6 s pos b h,decodeN,if_pos hb]
theorem Fz (n b0 b1 b2 b3:Nat) (h:128<=b0) (hb:b0<256):128<=(decodeN n b0 b1 b2 b3).1/\(decodeN n b0 b1 b2 b3).1<=1114111/\1<=(decodeN n b0 b1 b2 b3).2:=by
 unfold decodeN
 repeat' split
 all_goals (simp only;omega)
theorem yK (s:List UInt8) (pos:Nat) (b:UInt8) (h:s[pos]? = some b) (hb:128<=b.toNat) :
  128<=(ca s pos).1/\(ca s pos).1<=1114111/\1<=(ca s pos).2/\pos+(ca s pos).2<=s.length/\∀j,j<(ca s pos).2->∃c,s[pos+j]? = some c/\128<=c.toNat:=by
 have hlt:pos<s.length:=by
  rcases aa2 pos s.length with h1|h1
  ·exact h1
  ·rw [aaJ h1] at h;cases h
 have hg:=x6 s pos b h;rw [Ee,hg];have h1:=Fz (s.length - pos) b.toNat ((⟨s.toArray⟩:ByteArray).get! (pos+1)).toNat ((⟨s.toArray⟩:ByteArray).get! (pos+2)).toNat ((⟨s.toArray⟩:ByteArray).get! (pos+3)).toNat hb b.toNat_lt;have h2:=decodeN_conts (s.length - pos) b.toNat ((⟨s.toArray⟩:ByteArray).get! (pos+1)).toNat ((⟨s.toArray⟩:ByteArray).get! (pos+2)).toNat ((⟨s.toArray⟩:ByteArray).get! (pos+3)).toNat;generalize decodeN (s.length - pos) b.toNat ((⟨s.toArray⟩:ByteArray).get! (pos+1)).toNat ((⟨s.toArray⟩:ByteArray).get! (pos+2)).toNat ((⟨s.toArray⟩:ByteArray).get! (pos+3)).toNat=r at h1 h2;obtain ⟨r1,r2⟩:=r;simp only at h1 h2 ⊢;obtain ⟨a1,a2,a3⟩:=h1;obtain ⟨c1,c2,c3,c4⟩:=h2;refine ⟨a1,a2,a3,by omega,fun j hj=>?_⟩;have hjl:pos+j<s.length:=by omega
 refine ⟨s[pos+j],by simp [hjl],?_⟩;have hgj:=x6 s (pos+j) s[pos+j] (by simp [hjl])
 rcases j with _|_|_|_|j
 ·have:s[pos+0]=b:=by
   have:=h;rw [aaU hlt] at this;simpa using this
  rw [this];exact hb
 ·have:=(c1 (by omega)).1;rw [hgj] at this;omega
 ·have:=(c2 (by omega)).1;rw [hgj] at this;omega
 ·have:=(c3 (by omega)).1;rw [hgj] at this;omega
 ·omega
end Uw
namespace Uw
open Go
variable [Glob]
section
variable {P : Program} {Q : aG -> St -> Prop} {p q : Prop} [Decidable p] [Decidable q] {b : Bool} {y n : Tree}
theorem Jz (h1:p->WT P Q y) (h2:¬p->WT P Q n):WT P Q (.test (decide p) y n):=⟨fun h=>h1 (of_decide_eq_true h),fun h=>h2 (of_decide_eq_false h)⟩
theorem SH (h1:¬p->WT P Q y) (h2:p->WT P Q n):WT P Q (.test (!decide p) y n):=⟨fun h=>h1 (by simpa using h),fun h=>h2 (by simpa using h)⟩
theorem FA (h1:p->WT P Q y) (h2:¬p->WT P Q n):WT P Q (.test (decide p == true) y n):=⟨fun h=>h1 (by simpa using h),fun h=>h2 (by simpa using h)⟩
theorem FB (h1:¬p->WT P Q y) (h2:p->WT P Q n):WT P Q (.test (decide p == false) y n):=⟨fun h=>h1 (by simpa using h),fun h=>h2 (by simpa using h)⟩
theorem Ar (h1:¬p->WT P Q y) (h2:p->WT P Q n):WT P Q (.test ((!decide p) == true) y n):=⟨fun h=>h1 (by simpa using h),fun h=>h2 (by simpa using h)⟩
theorem As (h1:p->WT P Q y) (h2:¬p->WT P Q n):WT P Q (.test ((!decide p) == false) y n):=⟨fun h=>h1 (by simpa using h),fun h=>h2 (by simpa using h)⟩
theorem O7 (h1:b=true->WT P Q y) (h2:b=false->WT P Q n):WT P Q (.test (b == true) y n):=⟨fun h=>h1 (by simpa using h),fun h=>h2 (by simpa using h)⟩
theorem O8 (h1:b=false->WT P Q y) (h2:b=true->WT P Q n):WT P Q (.test (b == false) y n):=⟨fun h=>h1 (by simpa using h),fun h=>h2 (by simpa using h)⟩
theorem O9 (h1:b=false->WT P Q y) (h2:b=true->WT P Q n):WT P Q (.test (!b) y n):=⟨fun h=>h1 (by simpa using h),fun h=>h2 (by simpa using h)⟩
theorem Yd (hb:b=true) (h1:WT P Q y):WT P Q (.test b y n):=⟨fun _=>h1,fun h=>(by rw [hb] at h;cases h)⟩
theorem Wi (hp:p) (h1:WT P Q y):WT P Q (.test (decide p) y n):=⟨fun _=>h1,fun h=>absurd hp (of_decide_eq_false h)⟩
theorem Ye (hp:¬p) (h1:WT P Q n):WT P Q (.test (decide p) y n):=⟨fun h=>absurd (of_decide_eq_true h) hp,fun _=>h1⟩
theorem SI (hp:¬p) (h1:WT P Q y):WT P Q (.test (!decide p) y n):=⟨fun _=>h1,fun h=>absurd (by simpa using h) hp⟩
theorem Wj (hp:p) (h1:WT P Q n):WT P Q (.test (!decide p) y n):=⟨fun h=>absurd hp (by simpa using h),fun _=>h1⟩
theorem Yf (hp:p) (h1:WT P Q y):WT P Q (.test (decide p == true) y n):=FA (fun _=>h1) (fun h=>absurd hp h)
theorem Yg (hp:¬p) (h1:WT P Q n):WT P Q (.test (decide p == true) y n):=FA (fun h=>absurd h hp) (fun _=>h1)
theorem Yh (hp:¬p) (h1:WT P Q y):WT P Q (.test (decide p == false) y n):=FB (fun _=>h1) (fun h=>absurd h hp)
theorem Yi (hp:p) (h1:WT P Q n):WT P Q (.test (decide p == false) y n):=FB (fun h=>absurd hp h) (fun _=>h1)
theorem Wl (hp:¬p) (h1:WT P Q y):WT P Q (.test ((!decide p) == true) y n):=Ar (fun _=>h1) (fun h=>absurd h hp)
theorem Wm (hp:p) (h1:WT P Q n):WT P Q (.test ((!decide p) == true) y n):=Ar (fun h=>absurd hp h) (fun _=>h1)
theorem Wn (hp:p) (h1:WT P Q y):WT P Q (.test ((!decide p) == false) y n):=As (fun _=>h1) (fun h=>absurd hp h)
theorem Wp (hp:¬p) (h1:WT P Q n):WT P Q (.test ((!decide p) == false) y n):=As (fun h=>absurd h hp) (fun _=>h1)
theorem Wq (hb:b=true) (h1:WT P Q y):WT P Q (.test (b == true) y n):=O7 (fun _=>h1) (fun h=>(by rw [hb] at h;cases h))
theorem Ws (hb:b=false) (h1:WT P Q n):WT P Q (.test (b == true) y n):=O7 (fun h=>(by rw [hb] at h;cases h)) (fun _=>h1)
theorem Wt (hb:b=false) (h1:WT P Q y):WT P Q (.test (b == false) y n):=O8 (fun _=>h1) (fun h=>(by rw [hb] at h;cases h))
theorem Wu (hb:b=true) (h1:WT P Q n):WT P Q (.test (b == false) y n):=O8 (fun h=>(by rw [hb] at h;cases h)) (fun _=>h1)
theorem Wv (hb:b=false) (h1:WT P Q y):WT P Q (.test (!b) y n):=O9 (fun _=>h1) (fun h=>(by rw [hb] at h;cases h))
theorem Ww (hb:b=true) (h1:WT P Q n):WT P Q (.test (!b) y n):=O9 (fun h=>(by rw [hb] at h;cases h)) (fun _=>h1)
theorem Ef (hp:p/\q) (h1:WT P Q y):WT P Q (.test (decide p&&decide q) y n):=⟨fun _=>h1,fun h=>(by simp [hp.1,hp.2] at h)⟩
theorem Wx {x:Int} (hp : -9223372036854775808<=x/\x<9223372036854775808) (h1:WT P Q y):WT P Q (.test (inR .i64 x) y n):=⟨fun _=>h1,fun h=>(by simp [inR,hp.1,hp.2] at h)⟩
theorem KY {α β:Type} {g:α->β} {l:List α} {k:Nat} (h1:k<l.length->WT P Q y) (h2:¬k<l.length->WT P Q n):WT P Q (.test (decide ((k:Int)<((l.map g).length:Nat))) y n):=Jz (fun h=>h1 (by simpa using h)) (fun h=>h2 (by simpa using h))
theorem Wy {α β:Type} {g:α->β} {l:List α} {k:Nat} (hk:k<l.length) (h1:WT P Q y):WT P Q (.test (decide ((0:Int)<=(k:Int))&&decide ((k:Int)<((l.map g).length:Nat))) y n):=Ef ⟨by omega,by simpa using hk⟩ h1
theorem Wz {α:Type} {l:List α} {k:Nat} (hk:k<l.length) (h1:WT P Q y):WT P Q (.test (decide ((0:Int)<=(k:Int))&&decide ((k:Int)<(l.length:Nat))) y n):=Ef ⟨by omega,by simpa using hk⟩ h1
theorem JA {α:Type} {g:α->List Dat} {l:List α} {k:Nat} {t:List Dat->Tree} (hk:k<l.length) (h1:WT P Q (t (g l[k]))):WT P Q (.elem (l.map g) (k:Int).toNat t):=jx _ (by simp [hk]) h1
theorem JB {s:List UInt8} {k:Nat} {t:UInt8->Tree} (hk:k<s.length) (h1:WT P Q (t s[k])):WT P Q (.byte s (k:Int).toNat t):=zx _ (by simp [hk]) h1
theorem Py {α β:Type} {g:α->β} {l:List α} {k:Nat} (h1:k+1<l.length->WT P Q y) (h2:¬k+1<l.length->WT P Q n):WT P Q (.test (decide ((k:Int)+1<((l.map g).length:Nat))) y n):=Jz (fun h=>h1 (by simp at h;omega)) (fun h=>h2 (by simp at h;omega))
theorem WA {α:Type} {l:List α} {k:Nat} (hk:k+1<l.length) (h1:WT P Q y):WT P Q (.test (decide ((0:Int)<=(k:Int)+1)&&decide ((k:Int)+1<(l.length:Nat))) y n):=Ef ⟨by omega,by omega⟩ h1
theorem SJ {α β:Type} {g:α->β} {l:List α} {k:Nat} (hk:k+1<l.length) (h1:WT P Q y):WT P Q (.test (decide ((0:Int)<=(k:Int)+1)&&decide ((k:Int)+1<((l.map g).length:Nat))) y n):=Ef ⟨by omega,by simp;omega⟩ h1
theorem SK {α:Type} {g:α->List Dat} {l:List α} {k:Nat} {t:List Dat->Tree} (hk:k+1<l.length) (h1:WT P Q (t (g l[k+1]))):WT P Q (.elem (l.map g) ((k:Int)+1).toNat t):=JA (k:=k+1) hk h1
theorem SL {s:List UInt8} {k:Nat} {t:UInt8->Tree} (hk:k+1<s.length) (h1:WT P Q (t s[k+1])):WT P Q (.byte s ((k:Int)+1).toNat t):=JB (k:=k+1) hk h1
theorem SN {s:List UInt8} {t:UInt8->Tree} (hk:0<s.length) (h1:WT P Q (t s[0])):WT P Q (.byte s (0:Int).toNat t):=JB (k:=0) hk h1
theorem SO {α:Type} {g:α->List Dat} {l:List α} {t:List Dat->Tree} (hk:0<l.length) (h1:WT P Q (t (g l[0]))):WT P Q (.elem (l.map g) (0:Int).toNat t):=JA (k:=0) hk h1
theorem WB {α:Type} {l:List α} (hk:0<l.length) (h1:WT P Q y):WT P Q (.test (decide ((0:Int)<=0)&&decide ((0:Int)<(l.length:Nat))) y n):=Ef ⟨by omega,by omega⟩ h1
theorem SQ {α β:Type} {g:α->β} {l:List α} (hk:0<l.length) (h1:WT P Q y):WT P Q (.test (decide ((0:Int)<=0)&&decide ((0:Int)<((l.map g).length:Nat))) y n):=Ef ⟨by omega,by simp;omega⟩ h1
theorem SR {s:List UInt8} {k:Nat} {t:UInt8->Tree} (hk:k<s.length) (h1:WT P Q (t s[k])):WT P Q (.byte s k t):=zx _ (by simp [hk]) h1
end
end Uw
namespace Uw
open Go Go.RowKit
variable [Glob]
def bz:Nat->List Blk->Heap
 | _,[]=>[]
 | i,b::r=>(i,b)::bz (i+1) r
def nameOf:List Nat->Nat->Nat->Nat
 | [],nx,i=>nx+i
 | a::r,nx,i=>match i with
  | 0=>a
  | i+1=>nameOf r nx i
def vi (ρ:Nat->Nat):Heap->Heap
 | []=>[]
 | (i,b)::r=>(ρ i,b.ren ρ)::vi ρ r
def Res.ren (ρ:Nat->Nat):Res->Res
 | .val v=>.val (v.ren ρ)
 | .pan d=>.pan d
theorem lx:∀(bs:List Blk) (j i:Nat),look (bz j bs) i=if j<=i then bs[i - j]? else none
 | [],j,i=>by simp [bz,look]
 | b::r,j,i=>by
  rw [bz,ai];by_cases h:j=i
  ·subst h;simp
  ·rw [if_neg h,lx r (j+1) i]
   by_cases h2:j<=i
   ·rw [if_pos (by omega),if_pos h2,show i - j=(i - (j+1))+1 by omega,abJ]
   ·rw [if_neg (by omega),if_neg h2]
theorem yL (bs:List Blk) (i:Nat) (h:i<bs.length):∃b,look (bz 0 bs) i=some b:=⟨bs[i],by rw [lx];simp [h]⟩
theorem MQ (bs:List Blk) (i:Nat) {b:Blk} (h:look (bz 0 bs) i=some b):i<bs.length:=by
 rw [lx] at h;simp at h;exact (aa0.1 h).1
theorem wh:∀{ids:List Nat} {nx i:Nat},i<ids.length->nameOf ids nx i∈ids
 | [],_,_,h=>by simp at h
 | a::r,nx,0,_=>by simp [nameOf]
 | a::r,nx,i+1,h=>by
  rw [nameOf];exact aaL _ (wh (by simpa using h))
theorem mP:∀{ids:List Nat} {nx i:Nat},ids.length<=i->nameOf ids nx i=nx+(i - ids.length)
 | [],_,_,_=>rfl
 | a::r,nx,0,h=>by simp at h
 | a::r,nx,i+1,h=>by
  simp only [aaA] at h;rw [nameOf,mP (by omega),aaA];omega
theorem Au:∀{ids:List Nat} {nx i:Nat} (h:i<ids.length),nameOf ids nx i=ids[i]
 | [],_,_,h=>by simp at h
 | a::r,nx,0,_=>rfl
 | a::r,nx,i+1,h=>by
  rw [nameOf,Au (by simpa using h)];rfl
def vj:List Nat->Bool
 | []=>true
 | a::r=>(r.all fun b=>!(Nat.beq a b))&&vj r
theorem Eg:∀{l:List Nat},vj l=true->l.Nodup
 | [],_=>ac0
 | a::r,h=>by
  rw [vj,aay] at h;refine acF.2 ⟨fun hm=>?_,Eg h.2⟩;have:=aaS.1 h.1 a hm;simp at this
theorem Pz {ids:List Nat} {nx:Nat} (hl:∀a∈ids,a<nx) (hn:ids.Nodup) {i j:Nat} (h:nameOf ids nx i=nameOf ids nx j):i=j:=by
 rcases aa2 i ids.length with h1|h1<;>rcases aa2 j ids.length with h2|h2
 ·rw [Au h1,Au h2] at h
  rcases Nat.lt_trichotomy i j with hlt|he|hlt
  ·exact absurd h (acL.1 hn i j h1 h2 hlt)
  ·exact he
  ·exact absurd h.symm (acL.1 hn j i h2 h1 hlt)
 ·have:=hl _ (wh (nx:=nx) h1);rw [mP h2] at h;omega
 ·have:=hl _ (wh (nx:=nx) h2);rw [mP h1] at h;omega
 ·rw [mP h1,mP h2] at h;omega
theorem ly:∀(a b:Heap) (j:Nat),look (a++b) j=match look a j with|some x=>some x|none=>look b j
 | [],b,j=>rfl
 | (i,x)::a,b,j=>by
  rw [aaE,ai,ai];by_cases h:i=j
  ·rw [if_pos h,if_pos h]
  ·rw [if_neg h,if_neg h];exact ly a b j
theorem x7 {ρ:Nat->Nat} (hi:∀i j,ρ i=ρ j->i=j):∀(h:Heap) (i:Nat),look (vi ρ h) (ρ i)=(look h i).map (Blk.ren ρ)
 | [],i=>rfl
 | (k,b)::r,i=>by
  rw [vi,ai,ai];by_cases h:k=i
  ·subst h;simp
  ·rw [if_neg h,if_neg (fun e=>h (hi _ _ e))];exact x7 hi r i
theorem jZ {ρ:Nat->Nat} {j:Nat} (hj:∀i,ρ i≠j):∀(h:Heap),look (vi ρ h) j=none
 | []=>rfl
 | (k,b)::r=>by rw [vi,ai,if_neg (hj k)];exact jZ hj r
def Shp:Blk->Blk->Prop
 | .var _,.var _=>True
 | .arr k xs,.arr k' xs'=>k=k'/\xs=xs'
 | .mt k v xs,.mt k' v' xs'=>k=k'/\v=v'/\xs=xs'
 | .iter _ _,.iter _ _=>True
 | .map _ _,.map _ _=>True
 | _,_=>False
theorem Shp.ren (ρ:Nat->Nat) (b:Blk):Shp b (b.ren ρ):=by cases b<;>simp [Shp,Blk.ren]
section
variable {c c' : Cx} {ρ : Nat -> Nat} (hk : Keeps c.w c'.w (Imm c) (Imm c')) (hl : ∀ id b, look c.heap id = some b -> ∃ b', look c'.heap (ρ id) = some b' /\ Shp b b' /\ c'.pl (ρ id) = c.pl id)
include hk hl
mutual
theorem aB.push:∀(x:V) (v:Value),aB c x v->aB c' (x.ren ρ) v
 | .d x,v,r=>aI.keep hk x v r
 | .ptr id off,v,r=>by
  obtain ⟨⟨cs,h1⟩,h2⟩:=r;obtain ⟨b',e1,e2,e3⟩:=hl id _ h1
  cases b' with
  | var cs'=>exact ⟨⟨cs',e1⟩,by rw [e3];exact h2⟩
  | _=>exact e2.elim
 | .ro cs off,v,r=>by
  obtain ⟨b,o,h1,h2⟩:=r;exact ⟨b,o,h1,dR.keep hk _ _ _ h2⟩
 | .nu id ver i cc,v,r=>by
  simp only [aB,V.ren] at r ⊢
  cases hb:look c.heap id with
  | none=>rw [hb] at r;exact r.elim
  | some b=>
   obtain ⟨b',e1,e2,e3⟩:=hl id b hb;rw [hb] at r;rw [e1]
   cases b with
   | mt k v0 xs=>
    cases b' with
    | mt k' v' xs'=>
     obtain ⟨rfl,rfl,rfl⟩:=e2;unfold jV at *;rw [e3];exact r
    | _=>exact e2.elim
   | _=>exact r.elim
 | .ref id ver off len,v,r=>by
  simp only [aB,V.ren] at r ⊢
  cases hb:look c.heap id with
  | none=>rw [hb] at r;exact r.elim
  | some b=>
   obtain ⟨b',e1,e2,e3⟩:=hl id b hb;rw [hb] at r;rw [e1]
   cases b with
   | mt k v0 xs=>
    cases b' with
    | mt k' v' xs'=>
     obtain ⟨rfl,rfl,rfl⟩:=e2;unfold kL at *;rw [e3];exact r
    | _=>exact e2.elim
   | arr k xs=>
    cases b' with
    | arr k' xs'=>
     obtain ⟨rfl,rfl⟩:=e2;unfold kL at *;rw [e3];obtain ⟨r1,r2⟩:=r;refine ⟨r1,?_⟩
     rcases r2 with r2|⟨b,o,cap,r2,r3,r4,r5⟩
     ·exact .inl r2
     ·exact .inr ⟨b,o,cap,r2,r3,cS.keep hk _ _ _ _ r4,r5⟩
    | _=>exact e2.elim
   | _=>exact r.elim
 | .agg cs,v,r=>by
  obtain ⟨vs,h1,h2⟩:=r;exact ⟨vs,h1,ay.push cs vs h2⟩
 | .func f fs cap,v,r=>by
  obtain ⟨us,vs,h1,h2,h3⟩:=r;exact ⟨us,vs,h1,ay.push fs us h2,ay.push cap vs h3⟩
 | .tuple ds,v,r=>by
  obtain ⟨vs,h1,h2⟩:=r;exact ⟨vs,h1,ay.push ds vs h2⟩
 | .hnd id,v,r=>by
  simp only [aB,V.ren] at r ⊢
  cases hb:look c.heap id with
  | none=>rw [hb] at r;exact r.elim
  | some b=>
   obtain ⟨b',e1,e2,e3⟩:=hl id b hb;rw [hb] at r;rw [e1]
   cases b with
   | iter s p=>
    cases b' with
    | iter s' p'=>unfold fU at *;rw [e3];exact r
    | _=>exact e2.elim
   | map kk es=>
    cases b' with
    | map kk' es'=>unfold fU at *;rw [e3];exact r
    | _=>exact e2.elim
   | _=>exact r.elim
 | .row id len,v,r=>by
  obtain ⟨⟨cs,h1⟩,h2,h3⟩:=r;obtain ⟨b',e1,e2,e3⟩:=hl id _ h1
  cases b' with
  | var cs'=>exact ⟨⟨cs',e1⟩,by rw [e3];exact h2,h3⟩
  | _=>exact e2.elim
 | .undef,v,r=>trivial
theorem ay.push:∀(xs:List V) (vs:List Value),ay c xs vs->ay c' (gk ρ xs) vs
 | [],vs,r=>r
 | d::ds,vs,r=>by
  obtain ⟨v,vs',h1,h2,h3⟩:=r;exact ⟨v,vs',h1,aB.push d v h2,ay.push ds vs' h3⟩
end
theorem cU.push (hw:c'.w=c.w) {id:Nat} {b:Blk} (hp:c'.pl (ρ id)=c.pl id) (r:cU c id b):cU c' (ρ id) (b.ren ρ):=by
 cases b with
 | var cs=>obtain ⟨vs,e,h1,h2⟩:=r;exact ⟨vs,e,by rw [hp,hw];exact h1,ay.push hk hl _ _ h2⟩
 | arr k xs=>
  obtain ⟨h0,r⟩:=r;refine ⟨by rw [hp];exact h0,fun hc=>?_⟩;rw [hp] at hc ⊢;obtain ⟨vs,e,h1,h2,h4⟩:=r hc;exact ⟨vs,e,by rw [hw];exact h1,h2,cS.keep hk _ _ _ _ h4⟩
 | mt k v xs=>
  obtain ⟨h0,h4,r⟩:=r;refine ⟨by rw [hp];exact h0,h4,fun hc=>?_⟩;rw [hp] at hc ⊢;obtain ⟨vs,e,h1,h2,h5,h6⟩:=r hc;exact ⟨vs,e,by rw [hw];exact h1,h2,bp.keep hk _ _ h5,h6⟩
 | iter s p=>simp only [Blk.ren,cU] at r ⊢;rw [hp,hw];exact r
 | map kk es=>obtain ⟨ms,k,h1,h2⟩:=r;exact ⟨ms,k,by rw [hp,hw];exact h1,qd.keep hk _ _ h2⟩
end
theorem qN.trans {K:Nat} {a b c:Cx} (h1:qN K a b) (h2:qN K b c):qN K a c:=by
 refine ⟨fun x o hx=>?_,fun id x hid hx=>?_⟩
 ·obtain ⟨e1,e2⟩:=h1.keeps x o hx
  obtain ⟨e3,e4⟩:=h2.keeps x o e1;exact ⟨e3,e4.trans e2⟩
 ·obtain ⟨y,e1,e2⟩:=h1.blks id x hid hx
  obtain ⟨z,e3,e4⟩:=h2.blks id y hid e1;refine ⟨z,e3,?_⟩
  cases x<;>cases y<;>simp only [dm] at e2<;>cases z<;>simp only [dm] at e4 ⊢
  ·exact e2.trans e4
  ·obtain ⟨rfl,⟨ys,rfl⟩,p1⟩:=e2
   obtain ⟨rfl,⟨zs,rfl⟩,p2⟩:=e4;refine ⟨rfl,⟨ys++zs,by simp⟩,fun he=>?_⟩;have hlen:=congrArg List.length he;simp only [aaw] at hlen;obtain ⟨rfl,rfl⟩:ys=[]/\zs=[]:=⟨aaM (by omega),aaM (by omega)⟩
   rw [p2 (by simp),p1 (by simp)]
  ·obtain ⟨rfl,v1,p1⟩:=e2
   obtain ⟨rfl,v2,p2⟩:=e4;refine ⟨rfl,aa7 v1 v2,fun he=>?_⟩;obtain ⟨q1,q2⟩:=p1 (by omega);obtain ⟨q3,q4⟩:=p2 (by omega);exact ⟨q3.trans q1,q4.trans q2⟩
  ·exact e2.trans e4
  ·exact ⟨e2.1.trans e4.1,e2.2.trans e4.2⟩
theorem dm.refl (p:Pl) (b:Blk):dm p p b b:=by cases b<;>simp [dm]
theorem qN.refl (K:Nat) (c:Cx):qN K c c:=⟨fun _ _ h=>⟨h,rfl⟩,fun _ b _ h=>⟨b,h,dm.refl _ _⟩⟩
theorem Ph.ren {p:Pl} {b:Blk} {ρ:Nat->Nat}:Ph p (b.ren ρ)<->Ph p b:=by cases b<;>simp [Ph,Blk.ren]
theorem kM.frame {P:Program} {f:FuncId} {vs0:List V} {bs:List Blk} {R0:Res->Heap->Nat->Prop} (hs:kM P f vs0 (bz 0 bs) bs.length R0) (ids:List Nat) {H:Heap} {nx:Nat}
  (hm:ids.length<=bs.length) (Ds:∀a∈ids,a<nx) (hnd:ids.Nodup)
  (hfit:∀i b',look (bz 0 bs) i=some b'->(∃b,look H (nameOf ids nx i)=some b/\oH (nameOf ids nx) H (bz 0 bs) b b')\/(look H (nameOf ids nx i)=none/\jK b'))
  {vs:List V} (hvs:VWL (nameOf ids nx) H (bz 0 bs) vs vs0) :
  kM P f vs H nx (fun r h n=>∃r0 h0 n0,R0 r0 h0 n0/\r=r0.ren (nameOf ids nx)/\h=vi (nameOf ids nx) h0++H/\n=nx+(n0 - ids.length)):=by
 refine ⟨hs.1,?_⟩;rintro c w0 F gvs rfl hH hFK hFp hv;have hinj:∀i j,nameOf ids nx i=nameOf ids nx j->i=j:=fun i j h=>Pz Ds hnd h;generalize hρ:nameOf ids nx=ρ at *
 -- the part's context
 let J:JX:=⟨Imm c,fun b=>c.Old b\/(b<c.w.heap.size/\∀i blk,look (bz 0 bs) i=some blk->Ph (c.pl (ρ i)) blk->(look c.heap (ρ i)).isSome=true->(c.pl (ρ i)).gb≠b)⟩
 let c1:Cx:=c.i6 ρ (bz 0 bs) J
 have hz:∀i b',look c.heap (ρ i)=none->jK b'->¬Ph (c1.pl i) b':=by
  intro i b' hn hz hp;have:c1.pl i=⟨0,0⟩:=by simp [c1,Cx.i6,hn]
  rw [this] at hp
  cases b'<;>simp [jK,Ph] at hz hp
 have hpl:∀i b,look c.heap (ρ i)=some b->c1.pl i=c.pl (ρ i):=fun i b h=>by simp [c1,Cx.i6,h]
 have SS:∀b,c.Old b->c1.Old b:=fun b h=>.inr (.inl h);have Zc:∀i b',look (bz 0 bs) i=some b'->Ph (c1.pl i) b'->¬c1.Old (c1.pl i).gb:=by
  intro i b' hl hph
  rcases hfit i b' hl with ⟨b,hb,ed⟩|⟨hn,hzz⟩
  ·rw [hpl i b hb] at hph ⊢
   have hg:=hH.ge (ρ i) b hb (ed.ph hph);rintro (h|h|⟨_,h⟩)
   ·exact hg (.inl h)
   ·exact hg h
   ·exact h i b' hl hph (by rw [hb];rfl) rfl
  ·exact (hz i b' hn hzz hph).elim
 have Yj:∀b o,Imm c b o->Imm c1 b o:=by
  intro b o hi;by_cases ho:c1.Old b
  ·exact .inl ⟨ho,hi⟩
  ·refine .inr ⟨ho,hH.E0 hi,fun i blk hl hph hg=>?_⟩
   rcases hi with ⟨h1,_⟩|⟨h1,h2,h3⟩
   ·exact (ho (SS b h1)).elim
   ·rcases hfit i blk hl with ⟨b0,hb,ed⟩|⟨hn,hzz⟩
    ·have lu : Ph (c1.pl i) blk:=hph
     have hg' : (c1.pl i).gb=b:=hg;rw [hpl i b0 hb] at lu hg';obtain ⟨k,xs,e,hlt⟩:=h3 (ρ i) b0 hb (ed.ph lu) hg';subst e
     cases blk with
     | arr k' xs'=>obtain ⟨rfl,rfl⟩:=ed;exact ⟨k,xs,rfl,hlt⟩
     | _=>exact ed.elim
    ·exact (hz i blk hn hzz hph).elim
 have hk1:Keeps c.w c.w (Imm c) (Imm c1):=fun b o h=>⟨Yj b o h,rfl⟩
 have hH1:c9 c1 c.w bs.length:=by
  refine ⟨Below.refl _ _,?_,⟨hH.zT,hH.lr.2.1,hH.glob.2.2⟩,?_,fun i b h=>MQ bs i h,Zc,?_⟩
  ·rintro b (h|⟨h,_⟩)
   ·exact ⟨hH.EZ h,rfl⟩
   ·exact ⟨h,rfl⟩
  ·intro i b' hl
   rcases hfit i b' hl with ⟨b,hb,ed⟩|⟨hn,hzz⟩
   ·exact cU.weak hfit hk1 hb ed (hH.blk (ρ i) b hb)
   ·have hp:c1.pl i=⟨0,0⟩:=by simp [c1,Cx.i6,hn]
    cases b' with
    | arr k xs=>simp [jK] at hzz;subst hzz;exact ⟨by simp,fun hc=>by rw [hp] at hc;simp at hc⟩
    | mt k v xs=>simp [jK] at hzz;subst hzz;exact ⟨by simp,by simp,fun hc=>by rw [hp] at hc;simp at hc⟩
    | _=>exact hzz.elim
  ·intro i i' b1 b2 h1 h2 p1 p2 hg
   rcases hfit i b1 h1 with ⟨x1,hb1,s1⟩|⟨hn,hzz⟩
   ·rcases hfit i' b2 h2 with ⟨x2,hb2,s2⟩|⟨hn,hzz⟩
    ·rw [hpl i x1 hb1] at p1 hg
     rw [hpl i' x2 hb2] at p2 hg;exact hinj _ _ (hH.inj (ρ i) (ρ i') x1 x2 hb1 hb2 (s1.ph p1) (s2.ph p2) hg)
    ·exact (hz i' b2 hn hzz p2).elim
   ·exact (hz i b1 hn hzz p1).elim
 let F1:Fr:=⟨bs.length,fun c2=>qN bs.length c1 c2,fun a b h1 h2=>h2.trans h1⟩
 refine (hs.2 c1 c.w F1 gvs rfl hH1 (aax _) (qN.refl _ _) (ay.vw hfit hk1 hvs hv)).mono ?_;rintro e w' ⟨c2,r0,n0,eB,eJ,rfl,hH2,hn0,hev,hend,hR⟩
 -- behind the call
 have MR:∀b,c2.Old b<->c1.Old b:=fun b=>by unfold Cx.Old;rw [eB,eJ]
 have hJ2:∀b o,c2.J0.J b o<->Imm c b o:=fun b o=>by rw [eJ];exact Iff.rfl
 have hout:∀b,c1.Old b->c2.w.heap[b]? = c.w.heap[b]?:=by
  intro b hb
  rcases hb with hb|hb
  ·have hb' : b<c2.B:=by rw [eB];exact hb
   exact hH2.below.block b hb'
  ·exact (hH2.other b (by rw [eJ];exact hb)).2
 classical
 let pl' : Nat->Pl:=fun j=>if h:∃i,ρ i=j then c2.pl h.choose else c.pl j
 have vk:∀i,pl' (ρ i)=c2.pl i:=by
  intro i;have h:∃i',ρ i' = ρ i:=⟨i,rfl⟩
  simp only [pl',dif_pos h];rw [hinj _ _ h.choose_spec]
 have hpl2:∀j,(∀i,ρ i≠j)->pl' j=c.pl j:=fun j h=>by simp only [pl',dif_neg (fun ⟨i,e⟩=>h i e:¬∃i,ρ i=j)]
 let c' : Cx:={ B:=c.B,J0:=c.J0,heap:=vi ρ c2.heap++c.heap,pl:=pl',w:=c2.w }
 have there:∀i,i<ids.length->∃b,look c2.heap i=some b:=by
  intro i hi;obtain ⟨b,hb⟩:=yL bs i (by omega);obtain ⟨b',hb',_⟩:=hev.blks i b (by omega) hb;exact ⟨b',hb'⟩
 -- the blocks behind the call: the part's,and those beside it
 have look1:∀i b,look c2.heap i=some b->look c'.heap (ρ i)=some (b.ren ρ):=by
  intro i b h;show look (vi ρ c2.heap++c.heap) (ρ i)=_;rw [ly,x7 hinj,h];rfl
 have Yk:∀j b,look c.heap j=some b->(∀i,ρ i≠j)->look c'.heap j=some b:=by
  intro j b h hj;show look (vi ρ c2.heap++c.heap) j=_;rw [ly,jZ hj];exact h
 have split:∀j b,look c'.heap j=some b->(∃i b0,j=ρ i/\look c2.heap i=some b0/\b=b0.ren ρ)\/(look c.heap j=some b/\∀i,ρ i≠j):=by
  intro j b h;have h:look (vi ρ c2.heap++c.heap) j=some b:=h;rw [ly] at h;by_cases hj:∃i,ρ i=j
  ·obtain ⟨i,rfl⟩:=hj
   rw [x7 hinj] at h
   cases hi:look c2.heap i with
   | some b0=>
    rw [hi] at h;simp only [adh,aaP] at h;exact .inl ⟨i,b0,rfl,hi,h.symm⟩
   | none=>
    rw [hi] at h;simp only [acD] at h;exfalso;have hlt:=hH.lt _ _ h
    rcases aa2 i ids.length with h1|h1
    ·obtain ⟨b0,hb0⟩:=there i h1
     rw [hi] at hb0;cases hb0
    ·rw [<- hρ,mP h1] at hlt;omega
  ·have hj' : ∀i,ρ i≠j:=fun i e=>hj ⟨i,e⟩
   rw [jZ hj'] at h;exact .inr ⟨h,hj'⟩
 -- a block beside the part is old to it
 have beside:∀j b,look c.heap j=some b->(∀i,ρ i≠j)->Ph (c.pl j) b->c1.Old (c.pl j).gb:=by
  intro j b h hj hph;refine .inr (.inr ⟨hH.jX h hph,fun i blk hl hp hs hg=>?_⟩)
  rcases hfit i blk hl with ⟨b0,hb,ed⟩|⟨hn,hzz⟩
  ·exact hj i (hH.inj (ρ i) j b0 b hb h (ed.ph hp) hph hg)
  ·rw [hn] at hs;cases hs
 have Yl:∀b o,Imm c2 b o->Imm c' b o:=by
  intro b o hi
  rcases hi with ⟨h1,h2⟩|⟨h1,h2,h3⟩
  ·rw [MR] at h1
   rw [hJ2] at h2;by_cases ho:c.Old b
   ·rcases h2 with h2|h2
    ·exact .inl h2
    ·exact (h2.1 ho).elim
   ·rcases h2 with h2|⟨g1,g2,g3⟩
    ·exact (ho h2.1).elim
    ·refine .inr ⟨ho,abl g2 hH2.below.size,fun j blk hl hph hg=>?_⟩
     rcases split j blk hl with ⟨i,b0,rfl,hl0,rfl⟩|⟨hl0,hj⟩
     ·exfalso
      have lu : Ph (pl' (ρ i)) (b0.ren ρ):=hph;have hg' : (pl' (ρ i)).gb=b:=hg;rw [vk,Ph.ren] at lu;rw [vk] at hg';exact hH2.ge i b0 hl0 lu (by rw [hg',MR];exact h1)
     ·have lu : Ph (pl' j) blk:=hph
      have hg' : (pl' j).gb=b:=hg;rw [hpl2 j hj] at lu hg';exact g3 j blk hl0 lu hg'
  ·have h1' : ¬c1.Old b:=fun h=>h1 ((MR b).2 h)
   refine .inr ⟨fun h=>h1' (SS b h),h2,fun j blk hl hph hg=>?_⟩;have lu : Ph (pl' j) blk:=hph;have hg' : (pl' j).gb=b:=hg
   rcases split j blk hl with ⟨i,b0,rfl,hl0,rfl⟩|⟨hl0,hj⟩
   ·rw [vk,Ph.ren] at lu
    rw [vk] at hg';obtain ⟨k,xs,rfl,hlt⟩:=h3 i b0 hl0 lu hg';exact ⟨k,xs,rfl,hlt⟩
   ·rw [hpl2 j hj] at lu hg'
    exact (h1' (hg' ▸ beside j blk hl0 hj lu)).elim
 have hk2:Keeps c2.w c'.w (Imm c2) (Imm c'):=fun b o h=>⟨Yl b o h,rfl⟩
 have hlk:∀i b,look c2.heap i=some b->∃b',look c'.heap (ρ i)=some b'/\Shp b b'/\c'.pl (ρ i)=c2.pl i:=fun i b h=>⟨_,look1 i b h,Shp.ren ρ b,vk i⟩
 have evo:Evo c c':=by
  refine ⟨fun b o hi=>?_,fun j b hb=>?_⟩
  ·obtain ⟨q1,q2⟩:=hev.keeps b o (Yj b o hi)
   exact ⟨Yl b o q1,q2⟩
  ·by_cases hj:∃i,ρ i=j
   ·obtain ⟨i,rfl⟩:=hj
    have hlt:=hH.lt _ _ hb;have hi:i<ids.length:=by
     rcases aa2 i ids.length with h1|h1
     ·exact h1
     ·rw [<- hρ,mP h1] at hlt;omega
    obtain ⟨b0,hb0⟩:=yL bs i (by omega);obtain ⟨b1,hb1,he⟩:=hev.blks i b0 (by omega) hb0;refine ⟨b1.ren ρ,look1 i b1 hb1,?_⟩;show dm (c.pl (ρ i)) (pl' (ρ i)) b (b1.ren ρ);rw [vk]
    rcases hfit i b0 hb0 with ⟨x,hx,ed⟩|⟨hn,_⟩
    ·rw [hb] at hx;injection hx with hx;subst hx
     rw [hpl i b hb] at he
     cases b<;>cases b0<;>simp only [oH] at ed<;>cases b1<;>simp only [dm,Blk.ren] at he ⊢
     ·exact he
     ·obtain ⟨rfl,rfl⟩:=ed;exact he
     ·obtain ⟨rfl,rfl,rfl⟩:=ed;exact he
     ·exact he
     ·obtain ⟨rfl,rfl⟩:=ed;exact he
    ·rw [hb] at hn;cases hn
   ·have hj' : ∀i,ρ i≠j:=fun i e=>hj ⟨i,e⟩
    refine ⟨b,Yk j b hb hj',?_⟩;show dm (c.pl j) (pl' j) b b;rw [hpl2 j hj'];exact dm.refl _ _
 have hH' : c9 c' w0 (nx+(n0 - ids.length)):=by
  refine ⟨?_,?_,hH.lr,?_,?_,?_,?_⟩
  ·have:=hH2.below
   rw [eB] at this;exact hH.below.trans this
  ·intro b hb
   exact ⟨(hH.other b hb).1,(hout b (SS b (.inr hb))).trans (hH.other b hb).2⟩
  ·intro j b hl
   rcases split j b hl with ⟨i,b0,rfl,hl0,rfl⟩|⟨hl0,hj⟩
   ·exact cU.push hk2 hlk rfl (vk i) (hH2.blk i b0 hl0)
   ·exact cU.evo evo (hpl2 j hj) (fun hph=>hout _ (beside j b hl0 hj hph)) (hH.blk j b hl0)
  ·intro j b hl
   rcases split j b hl with ⟨i,b0,rfl,hl0,rfl⟩|⟨hl0,hj⟩
   ·have:=hH2.lt i b0 hl0
    rcases aa2 i ids.length with h1|h1
    ·have:=Ds _ (wh (nx:=nx) h1)
     rw [hρ] at this;omega
    ·rw [<- hρ,mP h1];omega
   ·have:=hH.lt j b hl0;omega
  ·intro j b hl hph
   have lu : Ph (pl' j) b:=hph;show ¬c'.Old (pl' j).gb
   rcases split j b hl with ⟨i,b0,rfl,hl0,rfl⟩|⟨hl0,hj⟩
   ·rw [vk,Ph.ren] at lu
    rw [vk];exact fun h=>hH2.ge i b0 hl0 lu ((MR _).2 (SS _ h))
   ·rw [hpl2 j hj] at lu ⊢
    exact hH.ge j b hl0 lu
  ·intro j j' b b' hl hl' hp hp' hg
   have hp:Ph (pl' j) b:=hp;have hp' : Ph (pl' j') b':=hp';have hg:(pl' j).gb=(pl' j').gb:=hg
   rcases split j b hl with ⟨i,b0,rfl,hl0,rfl⟩|⟨hl0,hj⟩
   ·rw [vk,Ph.ren] at hp
    rw [vk] at hg
    rcases split j' b' hl' with ⟨i',b0',rfl,hl0',rfl⟩|⟨hl0',hj'⟩
    ·rw [vk,Ph.ren] at hp'
     rw [vk] at hg;rw [hH2.inj i i' b0 b0' hl0 hl0' hp hp' hg]
    ·rw [hpl2 j' hj'] at hp' hg
     exact (hH2.ge i b0 hl0 hp (by rw [hg,MR];exact beside j' b' hl0' hj' hp')).elim
   ·rw [hpl2 j hj] at hp hg
    rcases split j' b' hl' with ⟨i',b0',rfl,hl0',rfl⟩|⟨hl0',hj'⟩
    ·rw [vk,Ph.ren] at hp'
     rw [vk] at hg;exact (hH2.ge i' b0' hl0' hp' (by rw [<- hg,MR];exact beside j b hl0 hj hp)).elim
    ·rw [hpl2 j' hj'] at hp' hg
     exact hH.inj j j' b b' hl0 hl0' hp hp' hg
 refine ⟨c',r0.ren ρ,nx+(n0 - ids.length),rfl,rfl,rfl,hH',by omega,F.ok c c' (evo.toK _) hFp,?_,r0,c2.heap,n0,hR,rfl,rfl,rfl⟩
 cases e with
 | returned gv=>
  cases r0 with
  | val v=>exact aB.push hk2 hlk v gv hend
  | pan d=>exact hend.elim
 | panicked ch=>
  cases r0 with
  | val v=>exact hend.elim
  | pan d=>obtain ⟨v,h1,h2⟩:=hend;exact ⟨v,h1,aI.keep hk2 _ _ h2⟩
 | outgrown=>cases r0<;>exact hend.elim
end Uw
namespace Uw
open Go
variable [Glob]
section
variable {P : Program} {Q : aG -> St -> Prop} {t t' y n : Tree} {p q : Prop}
theorem aw (hgo' : WT P Q t') (h:WT P Q t'->WT P Q t:=by
  first
  | (show _->WT _ _ (Tree.test _ _ _)
     first
     | exact Wx (by omega)
     | exact Wg (by simp [inR];omega)
     | exact SD rfl
     | exact MN rfl
     | exact SQ (by first|assumption|omega)
     | exact WB (by first|assumption|omega)
     | exact SJ (by first|assumption|omega)
     | exact WA (by first|assumption|omega)
     | exact Wy (by first|assumption|omega)
     | exact Wz (by first|assumption|omega)
     | exact O4 (by first|(simp [inR];done)|(simp [inR];omega))
     | exact Yf (by first|assumption|omega|exact rfl)
     | exact Yg (by first|assumption|omega)
     | exact Yh (by first|assumption|omega)
     | exact Yi (by first|assumption|omega|exact rfl)
     | exact Wl (by first|assumption|omega)
     | exact Wm (by first|assumption|omega|exact rfl)
     | exact Wn (by first|assumption|omega|exact rfl)
     | exact Wp (by first|assumption|omega)
     | exact Wq (by assumption)
     | exact Ws (by assumption)
     | exact Wt (by assumption)
     | exact Wu (by assumption)
     | exact Wi (by first|assumption|omega|exact rfl)
     | exact Ye (by first|assumption|omega)
     | exact SI (by first|assumption|omega)
     | exact Wj (by first|assumption|omega|exact rfl)
     | exact Yd (by assumption)
     | exact MN (by assumption)
     | exact Wv (by assumption)
     | exact Ww (by assumption))
  | (show _->WT _ _ (Tree.call _ _ _)
     exact Ft _ (by assumption))
  | (show _->WT _ _ (Tree.elem _ _ _)
     first
     | exact jx _ (by assumption)
     | exact SO (by first|assumption|omega)
     | exact SK (by first|assumption|omega)
     | exact JA (by first|assumption|omega)
     | exact jx _ (we _ _ _ (by first|assumption|omega))
     | exact jx _ (by assumption))
  | (show _->WT _ _ (Tree.byte _ _ _)
     first
     | exact SN (by first|assumption|omega)
     | exact SL (by first|assumption|omega)
     | exact JB (by first|assumption|omega)
     | exact SR (by first|assumption|omega))
  | (show _->WT _ _ (Tree.same _ _ _)
     exact SE rfl)):WT P Q t:=h hgo'
theorem bw (h1:p->WT P Q y) (h2:q->WT P Q n) (h:(p->WT P Q y)->(q->WT P Q n)->WT P Q t:=by
  show _->_->WT _ _ (Tree.test _ _ _)
  first
  | exact Py
  | exact KY
  | exact FA
  | exact FB
  | exact Ar
  | exact As
  | exact O7
  | exact O8
  | exact Jz
  | exact SH
  | exact O9
  | exact SC):WT P Q t:=h h1 h2
end
theorem wW {st st' : St} (h:Weak st st':=by
  refine Weak.of ?_ ?_ rfl rfl ?_ rfl rfl<;>repeat' first|exact trivial|refine ⟨⟨_,rfl,?_⟩,?_⟩|exact dc (by first|with_reducible rfl|assumption|omega)|exact Aq (by first|with_reducible rfl|assumption|omega|(simp;done)|(simp;omega)) rfl rfl|exact Or.inl ⟨rfl,rfl⟩|exact O5 (by assumption)|exact Or.inr (Or.inl ⟨rfl,by first|exact ⟨_,_,_,rfl,rfl,Or.inl rfl⟩|exact ⟨_,_,_,rfl,rfl,Or.inr rfl⟩⟩)|exact Or.inr (Or.inr (Or.inl rfl))|exact Or.inr (Or.inr (Or.inr (Or.inl ⟨_,_,_,_,_,_,_,rfl,rfl,by first|assumption|exact rfl,rfl⟩)))|exact Or.inr (Or.inr (Or.inr ⟨_,_,_,_,_,_,_,rfl,rfl,by first|assumption|exact rfl,rfl⟩))|refine Or.inr (Or.inr (Or.inr (Or.inr (Or.inl ⟨_,_,rfl,rfl,?_⟩))))|refine ⟨⟨Or.inl ⟨_,rfl,?_⟩,rfl⟩,?_⟩|refine ⟨⟨Or.inr ⟨rfl,rfl⟩,rfl⟩,?_⟩|refine ⟨⟨Or.inr ⟨rfl,rfl,rfl⟩,rfl⟩,?_⟩|exact ⟨rfl,rfl⟩|exact ⟨rfl,by assumption⟩|exact ⟨rfl,rfl,rfl⟩|exact eh rfl rfl|refine ⟨⟨rfl,fun _=>rfl⟩,?_⟩|refine And.intro ?_ ?_|refine ⟨⟨rfl,fun _=>rfl⟩,?_⟩):Weak st st':=h
end Uw
namespace Uw
open Go
variable [Glob]
theorem wM {st st' : St} (h:Weak st st':=by
  refine Weak.of ?_ ?_ rfl rfl ?_ rfl rfl<;>repeat' first|exact trivial|refine ⟨⟨_,rfl,?_⟩,?_⟩|exact dc (by first|with_reducible rfl|assumption|omega)|exact Aq (by first|with_reducible rfl|assumption|omega|(simp;done)|(simp;omega)) rfl rfl|exact Or.inl ⟨rfl,rfl⟩|exact O5 (by assumption)|exact Or.inr (Or.inl ⟨rfl,by first|exact ⟨_,_,_,rfl,rfl,Or.inl rfl⟩|exact ⟨_,_,_,rfl,rfl,Or.inr rfl⟩⟩)|exact Or.inr (Or.inr (Or.inl rfl))|exact Or.inr (Or.inr (Or.inr (Or.inl ⟨_,_,_,_,_,_,_,rfl,rfl,by first|assumption|exact rfl,rfl⟩)))|exact Or.inr (Or.inr (Or.inr ⟨_,_,_,_,_,_,_,rfl,rfl,by first|assumption|exact rfl,rfl⟩))|refine Or.inr (Or.inr (Or.inr (Or.inr (Or.inl ⟨_,_,rfl,rfl,?_⟩))))|refine ⟨⟨Or.inl ⟨_,rfl,?_⟩,rfl⟩,?_⟩|refine ⟨⟨Or.inr ⟨rfl,rfl⟩,rfl⟩,?_⟩|refine ⟨⟨Or.inr ⟨rfl,rfl,rfl⟩,rfl⟩,?_⟩|exact ⟨rfl,rfl,by assumption⟩|exact ⟨rfl,by assumption⟩|exact ⟨rfl,rfl⟩|exact ⟨rfl,rfl,rfl⟩|exact eh rfl rfl|refine ⟨⟨rfl,fun _=>rfl⟩,?_⟩|refine And.intro ?_ ?_|refine ⟨⟨rfl,fun _=>rfl⟩,?_⟩):Weak st st':=h
end Uw
namespace Uw
open Go
variable [Glob]
section
variable {P : Program} {Q : aG -> St -> Prop}
def Dt (n:Nat) (good:Nat->Prop) (j:Nat):Prop:=j<=n/\∀m,m<j->good m
def forM (n:Nat) (j:Nat):Nat:=n - j
theorem dp (n:Nat) (S:Nat->St) (good:Nat->Prop) {m:ck} {st:St} {k:aG->St->Tree} (hw:Weak st (S 0))
  (last:(∀j,j<n->good j)->WT P (nH S (Dt n good) (forM n) n fun e s=>WT P Q (k e s)) (exec m (S n) Tree.done))
  (round:∀j,j<n->(∀i,i<j->good i)->WT P (nH S (Dt n good) (forM n) j fun e s=>WT P Q (k e s)) (exec m (S j) Tree.done)):WT P Q (.code (.loop m) st k):=by
 refine du S (Dt n good) (forM n) 0 hw ⟨abr _,fun j h=>absurd h (ab9 _)⟩ ?_;rintro j ⟨h1,h2⟩
 rcases aa2 j n with h|h
 ·exact round j h h2
 ·obtain rfl:j=n:=Nat.le_antisymm h1 h
  exact last h2
theorem aX {n:Nat} {S:Nat->St} {good:Nat->Prop} {s:St} (j:Nat) (hg:good j) (hw:Weak s (S (j+1))) (hj:j<n:=by assumption) (hp:∀i,i<j->good i:=by assumption) :
  WT P (nH S (Dt n good) (forM n) j Q) (.done .normal s):=by
 refine cn (j+1) ⟨hj,fun i hi=>?_⟩ (by unfold forM;omega) hw
 rcases aa2 i j with h|h
 ·exact hp i h
 ·rw [show i=j by omega];exact hg
theorem KZ {o:Option Dat} {v:Dat} {k:Dat->Tree} {n:Tree} (h:o=some v) (h2:WT P Q (k v)):WT P Q (.test o.isSome (.val o k) n):=
 ⟨fun _=>⟨v,h,h2⟩,fun hf=>(by rw [h] at hf;cases hf)⟩
theorem HN {o:Option Dat} {k:Dat->Tree} {n:Tree} (h:o=none) (h2:WT P Q n):WT P Q (.test o.isSome (.val o k) n):=
 ⟨fun hf=>(by rw [h] at hf;cases hf),fun _=>h2⟩
theorem m1 {t t' : Tree} (hgo' : WT P Q t') (h:WT P Q t'->WT P Q t:=by
  first
  | exact KZ (by assumption)
  | exact HN (by assumption)):WT P Q t:=h hgo'
end
end Uw
namespace Uw
open Go Go.RowKit
def j0 (t:List Deferred) (a:Act):Act:={ a with defers:=a.defers++t }
def Eh (t:List Deferred) (Q:Exit->Act->World->Prop) (e:Exit) (a:Act) (w:World):Prop:=∃a0,a=j0 t a0/\Q e a0 w
section
variable {P : Program} {t : List Deferred} {Q : Exit -> Act -> World -> Prop} {ops : Array Oper}
theorem Ei (a:Act):(j0 t a).eval=a.eval:=funext fun x=>by cases x<;>rfl
theorem nK (a:Act) (d:Option Tmp) (v:Value):(j0 t a).put d v=j0 t (a.put d v):=by cases d<;>rfl
theorem FC (h:LetsOut Q):LetsOut (Eh t Q):=by obtain ⟨a,w,h⟩:=h;exact ⟨_,w,a,rfl,h⟩
theorem K0 {o:Oper} {a:Act} {w:World} {K K' : Act->World->Prop} (hK:∀a w,K a w->K' (j0 t a) w) (h:o.wp P a w K Q):o.wp P (j0 t a) w K' (Eh t Q):=by
 unfold Oper.wp at *;rw [Ei];generalize (execOp a.eval o).run P w=r at *
 cases r with
 | ok nx w'=>
  cases nx with
  | value v=>show K' _ _;rw [nK];exact hK _ _ h
  | skip=>show K' _ _;rw [nK];exact hK _ _ h
  | defer d=>show K' (Act.put _ _ _) _;rw [show ({ j0 t a with defers:=d::(j0 t a).defers }:Act)=j0 t { a with defers:=d::a.defers } from rfl,nK];exact hK _ _ h
  | enter f args=>
   rw [Oper.upon_enter] at h ⊢;refine Calls.mono h ?_;intro e w'' hh
   cases e with
   | returned v=>show K' _ _;rw [nK];exact hK _ _ hh
   | panicked ch=>exact ⟨a,rfl,hh⟩
   | outgrown=>exact FC hh
  | row rw' args=>exact Rows.mono h fun v w'' hh=>by show K' _ _;rw [nK];exact hK _ _ hh
  | _=>exact h.elim
 | halt s w'=>
  cases s<;>first|exact ⟨a,rfl,h⟩|exact h.elim
theorem x8 (hno:¬LetsOut Q):∀(L:List Oper) (a:Act) (w:World),wpList P ops Q L a w->wpList P ops (Eh t Q) L (j0 t a) w
 | [],a,w,h=>⟨a,rfl,h⟩
 | o::L,a,w,h=>by
  simp only [wpList] at h ⊢;show if Region.wanted o (yielded ops a.tmps) then _ else _
  split
  ·rename_i hw
   rw [if_pos hw] at h
   rcases h with h|h
   ·exact .inl (K0 (fun a w h=>x8 hno L a w h) h)
   ·exact (hno h.2).elim
  ·rename_i hw
   rw [if_neg hw] at h;rw [nK];exact x8 hno L _ _ h
theorem wi {md:Region.Mode} (hno:¬LetsOut Q):∀(fuel:Nat) (L:Array Bool) (a:Act) (w:World),wpAny P md ops Q fuel L a w->wpAny P md ops (Eh t Q) fuel L (j0 t a) w
 | 0,L,a,w,h=>⟨h.1,a,rfl,h.2⟩
 | fuel+1,L,a,w,h=>by
  refine ⟨fun hr=>⟨a,rfl,h.1 hr⟩,fun i hi=>?_⟩;have h:=h.2 i hi;unfold wpOp at h ⊢
  split
  ·rename_i ho
   rw [ho] at h;exact wi hno fuel _ _ _ h
  ·rename_i o ho
   rw [ho] at h;simp only at h;show if Region.wanted o (yielded ops a.tmps) then _ else _
   split
   ·rename_i hw
    rw [if_pos hw] at h
    rcases h with h|h
    ·exact .inl (K0 (fun a w h=>wi hno fuel _ _ _ h) h)
    ·exact (hno h.2).elim
   ·rename_i hw
    rw [if_neg hw] at h;rw [nK];exact wi hno fuel _ _ _ h
end
def tailW (P:Program) (t:List Deferred):WPS P where
 W:=fun c Q a w=>Code.wp P c (Eh t Q) (j0 t a) w
 dfr:=true
 mono:=fun h hq=>Go.wp_mono h fun e a w ⟨a0,h1,h2⟩=>⟨a0,h1,hq _ _ _ h2⟩
 skip:=fun h=>wp_skip ⟨_,rfl,h⟩
 exit:=fun h=>wp_exit ⟨_,rfl,h⟩
 ret:=fun h=>wp_ret ⟨_,rfl,h⟩
 seq:=fun h=>wp_seq (Go.wp_mono h fun e a w ⟨a0,h1,h2⟩=>by
  subst h1
  cases e with
  | normal=>exact h2
  | exit id=>exact ⟨a0,rfl,h2⟩
  | goto l=>exact ⟨a0,rfl,h2⟩
  | ret=>exact ⟨a0,rfl,h2⟩
  | panic ch=>exact ⟨a0,rfl,h2⟩
  | outgrown=>exact ⟨a0,rfl,h2⟩)
 cond:=fun hc h1 h2=>wp_cond_split (by rw [Ei];exact hc) h1 h2
 block:=fun {id c Q a w} h=>wp_block (Go.wp_mono h fun e a w ⟨a0,h1,h2⟩=>by
  subst h1
  cases e with
  | exit j=>
   simp only [Exit.inBlock] at h2 ⊢
   split
   ·rename_i hj;rw [if_pos hj] at h2;exact ⟨a0,rfl,h2⟩
   ·rename_i hj;rw [if_neg hj] at h2;exact ⟨a0,rfl,h2⟩
  | normal=>exact ⟨a0,rfl,h2⟩
  | goto l=>exact ⟨a0,rfl,h2⟩
  | ret=>exact ⟨a0,rfl,h2⟩
  | panic ch=>exact ⟨a0,rfl,h2⟩
  | outgrown=>exact ⟨a0,rfl,h2⟩)
 loop:=fun {c Q a w} I μ h0 h=>wp_loop_ghost (fun n a w=>∃a0,a=j0 t a0/\I a0 w/\μ a0 w=n) (μ a w) ⟨a,rfl,h0,rfl⟩ (by
  rintro n _ w ⟨a0,rfl,h1,rfl⟩;refine Go.wp_mono (h a0 w h1) ?_;rintro e _ w ⟨a1,rfl,h2⟩
  cases e with
  | normal=>exact ⟨_,h2.2,a1,rfl,h2.1,rfl⟩
  | exit id=>exact ⟨a1,rfl,h2⟩
  | goto l=>exact ⟨a1,rfl,h2⟩
  | ret=>exact ⟨a1,rfl,h2⟩
  | panic ch=>exact ⟨a1,rfl,h2⟩
  | outgrown=>exact ⟨a1,rfl,h2⟩)
 scope:=fun _ {c Q a w} h=>wp_scope_straight (Go.wp_mono h fun e a w ⟨a0,h1,h2⟩=>by
  subst h1
  cases e with
  | goto l=>exact h2
  | normal=>exact ⟨a0,rfl,h2⟩
  | exit id=>exact ⟨a0,rfl,h2⟩
  | ret=>exact ⟨a0,rfl,h2⟩
  | panic ch=>exact ⟨a0,rfl,h2⟩
  | outgrown=>exact ⟨a0,rfl,h2⟩)
 label:=fun h=>wp_label ⟨_,rfl,h⟩
 list:=fun hno _ h=>wp_region_list (x8 hno _ _ _ h)
 any:=fun hm hno _ h=>wp_region_any hm (wi hno _ _ _ _ h)
variable [Glob]
section
variable {c : Cx} {w00 w0 : World} {n : Nat} {gs : Fr} {st : St} {a : Act}
theorem c9.gok {next:Nat} (r:c9 c w0 next):GOk c.B c.w:=
 ⟨aa7 r.lr.1 r.below.size,r.lr.2.1,Glob.ok w0 c.w (fun k hk=>r.below.block k (abl hk r.lr.2.1)) r.lr.2.2⟩
theorem Rel.Ym {c' : Cx} (r:Rel c w00 n gs st a) (h:Evo c c') (hh:c'.heap=st.heap) (hH:c9 c' w0 st.next):Rel c' w0 n gs st a:=
 ⟨hh,hH,r.size,r.regs.evo h,gs.ok c c' (h.toK _) r.frames,r.kx,r.base,r.defers.evo h⟩
def Cx.others (c:Cx) (X:Nat->Prop):Cx:={ c with J0:=⟨fun b o=>c.J0.J b o\/X b,fun b=>c.J0.X b\/X b⟩ }
theorem Evo.others (X:Nat->Prop):Evo c (c.others X):=by
 refine ⟨fun b o hi=>⟨?_,rfl⟩,fun id b hb=>⟨b,hb,by cases b<;>simp [dm,Cx.others]⟩⟩
 rcases hi with ⟨h1,h2⟩|⟨h1,h2,h3⟩
 ·exact .inl ⟨h1.imp (fun h=>h) .inl,.inl h2⟩
 ·by_cases hx:X b
  ·exact .inl ⟨.inr (.inr hx),.inr hx⟩
  ·refine .inr ⟨fun h=>?_,h2,h3⟩
   rcases h with h|h|h
   ·exact h1 (.inl h)
   ·exact h1 (.inr h)
   ·exact hx h
theorem Rel.others (r:Rel c w0 n gs st a) (X:Nat->Prop) (hX:∀b,X b->b<c.w.heap.size) (hn:∀b,X b->∀id blk,look c.heap id=some blk->Ph (c.pl id) blk->(c.pl id).gb≠b):Rel (c.others X) c.w n gs st a:=by
 refine r.Ym (Evo.others X) r.heap ⟨Below.refl _ _,?_,r.hrel.gok,fun id b hl=>cU.evo (Evo.others X) rfl (fun _=>rfl) (r.hrel.blk id b hl),r.hrel.lt,?_,r.hrel.inj⟩
 ·rintro b (hb|hb)
  ·exact ⟨abl (r.hrel.other b hb).1 r.hrel.below.size,rfl⟩
  ·exact ⟨hX b hb,rfl⟩
 ·intro id b hl hp hold
  rcases hold with h|h|h
  ·exact r.hrel.ge id b hl hp (.inl h)
  ·exact r.hrel.ge id b hl hp (.inr h)
  ·exact hn _ h id b hl hp rfl
theorem Rel.SU (r:Rel c w0 n gs st a) {L:Nat} {o o' : Obj} (hL:c.J0.X L) (hB:c.B<=L) (ho:c.w.heap[L]? = some o) (h1:o.isCells=false) (h2:o'.isCells=false):Rel { c with w:=c.w.putObj L o' } (c.w.putObj L o') n gs st a:=by
 have hlt:L<c.w.heap.size:=(abL.1 ho).1;have hsz:(c.w.putObj L o').heap.size=c.w.heap.size:=by simp [World.putObj]
 have hcell:∀b i,(c.w.putObj L o').cell? ⟨b,i,none⟩=c.w.cell? ⟨b,i,none⟩:=by
  intro b i;by_cases hb:b=L
  ·subst hb
   unfold World.cell?;rw [World.putObj_heap_same hlt,ho]
   cases o<;>cases o'<;>simp_all [Obj.isCells]
  ·exact World.cell?_of_block (World.putObj_heap_other (fun e=>hb e))
 have hev:Evo c { c with w:=c.w.putObj L o' }:=by
  refine ⟨fun b i hi=>⟨?_,hcell b i⟩,fun id b hb=>⟨b,hb,by cases b<;>simp [dm]⟩⟩
  rcases hi with h|⟨h1,h2,h3⟩
  ·exact .inl h
  ·exact .inr ⟨h1,by rw [hsz];exact h2,h3⟩
 refine r.Ym hev r.heap ⟨Below.refl _ _,fun b hb=>⟨by rw [hsz];exact abl (r.hrel.other b hb).1 r.hrel.below.size,rfl⟩,?_,?_,r.hrel.lt,r.hrel.ge,r.hrel.inj⟩
 ·obtain ⟨g1,g2,g3⟩:=r.hrel.gok
  exact ⟨by rw [hsz];exact g1,g2,Glob.ok c.w _ (fun k hk=>World.putObj_heap_other (by omega)) g3⟩
 ·intro id b hl
  refine cU.evo hev rfl (fun hp=>World.putObj_heap_other ?_) (r.hrel.blk id b hl);rintro rfl;exact r.hrel.ge id b hl hp (.inr hL)
end
end Uw
namespace Uw
open Go Go.RowKit
variable [Glob]
theorem mQ {B L:Nat} {w:World} {o:Obj} (h:B<=L):Below B w (w.putObj L o):=
 ⟨rfl,rfl,rfl,by simp [World.putObj],fun k hk=>World.putObj_heap_other (fun e=>absurd e (by omega))⟩
theorem fold_size (ps:List (Tmp×Value)) (t:Array Value):(ps.foldl (fun t (p:Tmp×Value)=>t.setIfInBounds p.1 p.2) t).size=t.size:=by
 induction ps generalizing t with
 | nil=>rfl
 | cons p ps ih=>rw [abQ,ih];simp
def Iter (P:Program) (gf:FuncId) (lb:Array Value) (encs:Nat->Array Value) (N:Nat) (OK:World->Prop):Prop:=
 ∀(l:Nat) (J:Nat->World->Prop) (W:World),(∀k W1,J k W1->k<N->YieldAt Fence.wide 0 P l (encs k) W1 fun e W'=>e = .returned (.bool true)/\J (k+1) W')->(∀k W1,J k W1->OK W1)->J 0 W->
  CallsIn Fence.wide 0 P gf (#[.func (.yield l) #[] #[]]++lb) W fun e W'=>(∃v,e = .returned v)/\J N W'
section
variable {P : Program} {n : Nat} {gs : Fr} {c0 : Cx} {w00 : World} {a : Act}
def RI (n:Nat) (gs:Fr) (S:Nat->St) (c0:Cx) (a:Act) (rdy:Obj) (k:Nat) (W:World):Prop:=
 ∃c:Cx,c.w=W/\c.B=c0.B/\c.J0=(c0.others fun b=>b=c0.w.heap.size\/b=c0.w.heap.size+1).J0/\Rel c W n gs (S k) a/\Below c0.B c0.w W/\
  (∀b,c0.J0.X b->W.heap[b]? = c0.w.heap[b]?)/\W.heap[c0.w.heap.size]? = some (.deferred (some []))/\W.heap[c0.w.heap.size+1]? = some rdy
theorem RI.start {S:Nat->St} {rdy:Obj} (r:Rel c0 w00 n gs (S 0) a):RI n gs S c0 a rdy 0 ((c0.w.alloc (.deferred (some []))).alloc rdy):=by
 have hb:Below c0.w.heap.size c0.w ((c0.w.alloc (.deferred (some []))).alloc rdy):=((Below.refl _ c0.w).alloc (aax _) _).alloc (by simp) _;have r1:=r.grow hb;refine ⟨({ c0 with w:=(c0.w.alloc (.deferred (some []))).alloc rdy }:Cx).others (fun b=>b=c0.w.heap.size\/b=c0.w.heap.size+1),rfl,rfl,rfl,r1.others (fun b=>b=c0.w.heap.size\/b=c0.w.heap.size+1) ?_ ?_,hb.mono r.hrel.zT,fun b hx=>?_,?_,?_⟩
 ·rintro b (rfl|rfl)<;>simp<;>omega
 ·rintro b hx id blk hl hp rfl
  have:=r.hrel.jX hl hp
  rcases hx with h|h
  ·have h:(c0.pl id).gb=c0.w.heap.size:=h
   omega
  ·have h:(c0.pl id).gb=c0.w.heap.size+1:=h
   omega
 ·exact hb.block b (abl (r.hrel.other b hx).1 r.hrel.below.size)
 ·exact (Below.heap_alloc _ _ _ (by simp)).trans (World.alloc_heap_new c0.w _)
 ·have:=World.alloc_heap_new (c0.w.alloc (.deferred (some []))) rdy
  rwa [World.size_alloc] at this
theorem PD {g:Operand} {ps:Array Tmp} {as bd:Code} {Q:Exit->Act->World->Prop} {gf:Nat} {lb:Array Value} (hg:a.eval g = .func (.func gf) #[] lb) (eg:∀args w,(callFunc gf args).run P w = .ok (.enter gf args) w)
  (N:Nat) (encs:Nat->Array Value) (hps:∀k,(encs k).size=ps.size) (R:gw) (base:Nat) (S:Nat->St) (hS:∀k,(S k).regs=R/\(S k).defers=[]/\(S k).base=base) (r:Rel c0 w00 n gs (S 0) a)
  (OK:World->Prop) (hOK:∀c:Cx,gs.p c->(∀b,c0.J0.X b->c.w.heap[b]? = c0.w.heap[b]?)->OK c.w) (hit:Iter P gf lb encs N OK)
  {pol Zd : Pol} {mas mbd:ck} (hcas:comp P n pol as=some mas) (Ze:comp P n Zd bd=some mbd) (hn1:noD as=true) (hn2:noD bd=true) (WC:Nat->gw)
  (Yn:∀(k:Nat) (c:Cx),k<N->gs.p c->mM c R a.tmps->mM c (WC k++R) ((ps.zip (encs k)).foldl (fun t (p,v)=>t.setIfInBounds p v) a.tmps))
  (round:∀k,k<N->WT P (fun e s=>e = .normal/\WT P (fun e s'=>e = .normal/\s'.defers=[]/\Weak ⟨R,s'.heap,s'.next,[],base⟩ (S (k+1))) (exec mbd s Tree.done)) (exec mas ⟨WC k++R,(S k).heap,(S k).next,[],(S k).next⟩ Tree.done))
  (hdone:∀(c:Cx),c.B=c0.B->c.J0=(c0.others fun b=>b=c0.w.heap.size\/b=c0.w.heap.size+1).J0->Rel c c.w n gs (S N) a->Below c0.B c0.w c.w->c.w.heap[c0.w.heap.size]? = some (.deferred (some []))->
   Q .normal { a with defers:={ target:=.collected c0.w.heap.size,args:=#[] }::a.defers } c.w):(Code.rangeFunc g ps as bd).wp P Q a c0.w:=by
 refine (wpIn_wide (n:=0)).1 (wpIn_rangeFunc ?_);intro fn _;obtain ⟨rec,hrec⟩:∃rec:LoopState->Loop,rec=fun st=>{ state:=st,pending:=none,fn,tmps:=a.tmps,params:=ps,assign:=as,body:=bd,defers:=c0.w.heap.size }:=⟨_,rfl⟩
 obtain ⟨W1,hW1⟩:∃W1,(c0.w.alloc (.deferred (some []))).alloc (.loop (rec .ready))=W1:=⟨_,rfl⟩
 have h0:RI n gs S c0 a (.loop (rec .ready)) 0 W1:=by rw [<- hW1];exact RI.start r
 obtain ⟨L,hL⟩:∃L,c0.w.heap.size+1=L:=⟨_,rfl⟩
 have hBL:c0.B<=L:=by have:=r.hrel.zT;omega
 refine ⟨L,[{ target:=.collected c0.w.heap.size,args:=#[] }],W1,{ target:=.fn (.func gf) lb,args:=#[.func (.yield L) #[] #[]] },W1,gf,#[.func (.yield L) #[] #[]]++lb,W1,?_,?_,fun _ _=>trivial,?_,fun h=>(by simp [Fence.wide] at h),?_⟩
 ·rw [<- hW1,hrec,<- hL];exact run_enterLoop_outer _ _ _ _ _
 ·simp only [resolve,hg]
  simp [go_sem]
 ·simp [invoke,go_sem,eg]
 refine (hit L (RI n gs S c0 a (.loop (rec .ready))) W1 ?_ ?_ h0).mono ?_
 ·-- one round
  rintro k W ⟨c,rfl,hB,hJ,rk,hbel,hX,hD,hLo⟩ hk;rw [hL] at hLo;obtain ⟨e1,e2,e3⟩:=hS k;have hXL:c.J0.X L:=by rw [hJ];exact .inr (.inr hL.symm)
  have hXD:c.J0.X c0.w.heap.size:=by rw [hJ];exact .inr (.inl rfl)
  have hX0:∀b,c0.J0.X b->c.J0.X b:=fun b hb=>by rw [hJ];exact .inl hb
  have Zf:∀b,c0.J0.X b->b≠L:=fun b hb e=>by
   have h1:=(r.hrel.other b hb).1;have h2:=r.hrel.below.size;omega
  have hy:=run_yield (P:=P) (args:=encs k) hLo (by rw [hrec];exact hps k);rw [hrec] at hy;refine ⟨fn,_,as,bd,hy,roundIn_of_wpIn trivial ?_⟩;have rr:Rel c c.w n (xU gs (S k) a rk.frK) ⟨WC k++R,(S k).heap,(S k).next,[],(S k).next⟩ { tmps:=(ps.zip (encs k)).foldl (fun t (p,v)=>t.setIfInBounds p v) a.tmps,defers:=[] }:=by
   refine ⟨rk.heap,rk.hrel,?_,Yn k c hk rk.frames (by rw [<- e1];exact rk.regs),rk.RZ,aax _,aax _,rfl⟩;have:=fold_size (ps.zip (encs k)).toList a.tmps;rw [<- ac5];exact this.trans rk.size
  refine wpIn_mono (jv (N6 P L 0) as mas hcas (.inr hn1) Tree.done c _ _ rr (round k hk)) ?_;rintro e a1 w1 ⟨c1,me,st1,b1,j1,rfl,x1,r1,hq1⟩;simp only [WT] at hq1;obtain ⟨rfl,hq1⟩:=hq1
  cases e<;>simp only [bB] at x1
  have o1:c1.w.heap[L]? = some (.loop (rec .ready)):=((r1.hrel.other L (by rw [j1];exact hXL)).2).trans hLo;refine ⟨_,run_beginRound o1 (by rw [hrec]),?_⟩;have r2:=r1.SU (o':=.loop { rec .ready with state:=.busy }) (by rw [j1];exact hXL) (by rw [b1,hB];exact hBL) o1 rfl rfl;refine wpIn_mono (jv (N6 P L 0) bd mbd Ze (.inr hn2) Tree.done _ _ _ r2 hq1) ?_;rintro e a2 w2 ⟨c2,me,st2,b2,j2,rfl,x2,r3,hq2⟩;simp only [WT] at hq2;obtain ⟨rfl,hd2,hw2⟩:=hq2
  cases e<;>simp only [bB] at x2
  have hlt1:L<c1.w.heap.size:=(abL.1 o1).1;have o2:c2.w.heap[L]? = some (.loop { rec .ready with state:=.busy }):=((r3.hrel.other L (by rw [j2];show c1.J0.X L;rw [j1];exact hXL)).2).trans (World.putObj_heap_same hlt1);refine ⟨_,_,run_endRound none o2,rfl,?_⟩;have hfr:=r3.frames;have r4:Rel c2 (c1.w.putObj L (.loop { rec .ready with state:=.busy })) n gs ⟨R,st2.heap,st2.next,[],base⟩ a:=by
   refine ⟨r3.heap,r3.hrel,rk.size,fun i v hv=>(hfr.1 i v (by rw [e1];exact hv)).2,hfr.2.2,by rw [<- e3];exact rk.kx,?_,?_⟩
   ·rw [<- e3];exact aa7 rk.base (aa7 r3.kx r3.base)
   ·have:=hfr.2.1.2;rw [e2] at this;exact this
  obtain ⟨c3,b3,j3,w3,_,r5⟩:=r4.weak hw2;have hJ3:c3.J0=c.J0:=j3.trans (j2.trans j1);have hB3:c3.B=c0.B:=b3.trans (b2.trans (b1.trans hB));have r6:=r5.SU (o:=.loop { rec .ready with state:=.busy }) (o':=.loop (rec .ready)) (by rw [hJ3];exact hXL) (by rw [hB3];exact hBL) (by rw [w3];exact o2) rfl rfl;have hlt2:L<c2.w.heap.size:=(abL.1 o2).1;rw [w3] at r6;have Yo:(Obj.loop { ({ rec .ready with state:=.busy }:Loop) with state:=if (none:Option Code).isNone then .ready else .done,pending:=none }) = .loop (rec .ready):=by rw [hrec];rfl
  rw [Yo];have keep:∀b,c.J0.X b->b≠L->(c2.w.putObj L (.loop (rec .ready))).heap[b]? = c.w.heap[b]?:=by
   intro b hb hbL;rw [World.putObj_heap_other hbL,(r3.hrel.other b (by rw [j2];show c1.J0.X b;rw [j1];exact hb)).2,World.putObj_heap_other hbL,(r1.hrel.other b (by rw [j1];exact hb)).2]
  refine ⟨{ c3 with w:=c2.w.putObj L (.loop (rec .ready)) },rfl,hB3,hJ3.trans hJ,r6,?_,fun b hb=>(keep b (hX0 b hb) (Zf b hb)).trans (hX b hb),(keep _ hXD (by omega)).trans hD,?_⟩
  ·have q1:=r1.hrel.below
   have q2:=r3.hrel.below;rw [b1,hB] at q1;rw [b2,show ({ c1 with w:=c1.w.putObj L (.loop { rec .ready with state:=.busy }) }:Cx).B=c0.B from b1.trans hB] at q2;exact (((hbel.trans q1).trans (mQ hBL)).trans q2).trans (mQ hBL)
  ·rw [hL];exact World.putObj_heap_same hlt2
 ·rintro k W ⟨c,rfl,hB,hJ,rk,hbel,hX,hD,hLo⟩
  exact hOK c rk.frames hX
 ·rintro e W ⟨⟨v,rfl⟩,c,rfl,hB,hJ,rk,hbel,hX,hD,hLo⟩
  rw [hL] at hLo;have hXL:c.J0.X L:=by rw [hJ];exact .inr (.inr hL.symm)
  refine ⟨none,_,by have:=run_endLoop (P:=P) hLo (by rw [hrec];simp);rw [hrec] at this;exact this,?_⟩;have r1:=rk.SU (o':=.loop { state:=.exhausted,pending:=none,fn,tmps:=a.tmps,params:=ps,assign:=as,body:=bd,defers:=c0.w.heap.size }) hXL (by rw [hB];exact hBL) hLo rfl rfl;exact hdone { c with w:=c.w.putObj L _ } hB hJ r1 (hbel.trans (mQ hBL)) ((World.putObj_heap_other (by omega)).trans hD)
end
end Uw
