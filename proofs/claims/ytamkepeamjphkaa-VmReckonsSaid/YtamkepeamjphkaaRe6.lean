/- Re6: Vz6 (merged by merge.py from the working texts). -/
import Derived.Test.YtamkepeamjphkaaRe0
import Derived.Test.YtamkepeamjphkaaRe1
import Derived.Test.YtamkepeamjphkaaRe2
import Derived.Test.YtamkepeamjphkaaRe3
import Derived.Test.YtamkepeamjphkaaRe4
import Derived.Test.YtamkepeamjphkaaRe5
set_option linter.unusedSimpArgs false
set_option linter.unnecessarySimpa false
set_option linter.unusedVariables false

/- RECKONS (printed by printz.py). -/
set_option linter.unusedVariables false
namespace Uw.Try
open Go Uw Go.Proofs

theorem l6 (a b k : Int) (ha : 0 ≤ a ∧ a < 4294967296) (hb : 0 ≤ b ∧ b < 4294967296) (hk : 0 ≤ k ∧ k < 256) : Ret Try.prog 6 [.int .u32 a, .int .u32 b, .int .u8 k] (.bool true) := by
  have h0 : 0 ≤ k.tmod 6 ∧ k.tmod 6 < 6 := by rw [Int.tmod_eq_emod_of_nonneg hk.1]; omega
  by_cases h : k.tmod 6 = 0
  · exact reck0 a b k ha hb hk h
  by_cases h : k.tmod 6 = 1
  · exact reck1 a b k ha hb hk h
  by_cases h : k.tmod 6 = 2
  · exact reck2 a b k ha hb hk h
  by_cases h : k.tmod 6 = 3
  · exact reck3 a b k ha hb hk h
  by_cases h : k.tmod 6 = 4
  · exact reck4 a b k ha hb hk h
  · exact reck5 a b k ha hb hk (by omega)

end Uw.Try
