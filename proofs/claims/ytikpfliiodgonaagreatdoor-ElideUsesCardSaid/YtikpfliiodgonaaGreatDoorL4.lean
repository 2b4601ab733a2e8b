/- L4: Sa (merged by merge2.py from the working texts). -/
import Derived.Test.YtikpfliiodgonaaGreatDoorL3
import Derived.Test.YtikpfliiodgonaaGreatDoorProg
import Derived.Lib.LaidTab
import Derived.LaidSub
import Derived.MakeChecks
import Derived.Lib.ItoaNum
import Derived.KernelRfl
set_option linter.unusedSimpArgs false
set_option linter.unnecessarySimpa false
set_option linter.unusedVariables false
set_option linter.unusedSectionVars false
namespace Uw.Tryz
open Go Uw
noncomputable abbrev P0:Program:=Go.Proofs.Tryz.prog
theorem Vj:P0.globalNamed "internal/strconv.uint64pow10" = some 3:=by kernel_rfl
noncomputable instance glob:Glob where
 n:=3+1
 p:=fun w=>Lib.TabIs P0 w "internal/strconv.uint64pow10" .u64 Lib.pow10Tab
 ok:=by
  intro w w' h hp;unfold Lib.TabIs World.var? at *;rw [Vj] at hp ⊢;simp only [Option.bind_some] at hp ⊢;rw [h 3 (by decide)];exact hp
theorem gok {W:World} {l:List (String×DataW Unit)} (h:laidMetH P0 l W) (hl:(l.filter fun x=>x.1 == "internal/strconv.uint64pow10")=[("internal/strconv.uint64pow10",Lib.tabData .u64 Lib.pow10Tab)]) {t e:TypeId} (hty:(P0.globals[3]?).map (·.type)=some t) (ht:P0.underlying t=some (.array 20 e)) (he:P0.underlying e=some (.int .u64)) (hce:P0.cellsOf e=1) (hct:P0.cellsOf t=20):GOk W.heap.size W:=by
 have h1:=laidMetH.filter (fun x=>x.1 == "internal/strconv.uint64pow10") h;rw [hl,MakeChecks.laidMetH_plain _ _ _ rfl] at h1;have h2:Lib.TabIs P0 W "internal/strconv.uint64pow10" .u64 Lib.pow10Tab:=Lib.tabIs_of_head Vj hty ht he hce hct h1;refine ⟨Ls _,?_,h2⟩;show 3+1<=W.heap.size;unfold Lib.TabIs World.var? at h2;rw [Vj] at h2;simp only [Option.bind_some] at h2
 rcases ZG 3 W.heap.size with h3|h3
 ·exact h3
 ·rw [ZI h3] at h2
  simp at h2
end Uw.Tryz
