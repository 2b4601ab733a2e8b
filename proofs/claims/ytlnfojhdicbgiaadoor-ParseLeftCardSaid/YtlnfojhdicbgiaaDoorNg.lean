/- Ng: Rb (merged by merge2.py from the working texts). -/
import Derived.Test.YtlnfojhdicbgiaaDoorNf
set_option linter.unusedSimpArgs false
set_option linter.unnecessarySimpa false
set_option linter.unusedVariables false
set_option linter.unusedSectionVars false
namespace Uw.Tryd
open Go Uw
theorem mm_ok {α β : Type} (g : α → List Dat) (h : β → List Dat) (q : List β) (p : List α) : (decide ((0 : Int) ≤ 0) && decide ((0 : Int) ≤ mmI false ((List.map h q).length : Int) ((List.map g p).length : Int)) && decide (mmI false ((List.map h q).length : Int) ((List.map g p).length : Int) ≤ ((List.map g p).length : Int))) = true := by
 have : mmI false ((List.map h q).length : Int) ((List.map g p).length : Int) = min ((List.map h q).length : Int) ((List.map g p).length : Int) := rfl
 rw [this]
 simp
 omega
end Uw.Tryd
