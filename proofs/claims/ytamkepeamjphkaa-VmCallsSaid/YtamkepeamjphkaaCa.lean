/- Ca: We8 (merged by merge.py from the working texts). -/
import Derived.Test.YtamkepeamjphkaaCa1
import Derived.Test.YtamkepeamjphkaaCa2
set_option linter.unusedSimpArgs false
set_option linter.unnecessarySimpa false
set_option linter.unusedVariables false

/- CALLS. -/
set_option linter.unusedVariables false
namespace Uw.Try
open Go Uw Go.Proofs

theorem l8 (k a b vl : Int) (is : Bool) (hk : 0 ≤ k ∧ k < 256) (ha : 0 ≤ a ∧ a < 4294967296) (hb : 0 ≤ b ∧ b < 4294967296) (hvl : 0 ≤ vl ∧ vl < 4294967296) : Ret Try.prog 8 [.agg [.int .u8 k, .int .u32 a, .int .u32 b, .int .u32 vl, .bool is]] (.bool true) := by
  have h0 : 0 ≤ k.tmod 7 ∧ k.tmod 7 < 7 := by rw [Int.tmod_eq_emod_of_nonneg hk.1]; omega
  by_cases h : k.tmod 7 = 0
  · cases is
    · exact calls1F k a b vl hk ha hb hvl h
    · exact calls1T k a b vl hk ha hb hvl h
  by_cases h : k.tmod 7 = 1
  · cases is
    · exact calls2F k a b vl hk ha hb hvl h
    · exact calls2T k a b vl hk ha hb hvl h
  by_cases h : k.tmod 7 = 2
  · cases is
    · exact calls3F k a b vl hk ha hb hvl h
    · exact calls3T k a b vl hk ha hb hvl h
  by_cases h : k.tmod 7 = 3
  · cases is
    · exact calls4F k a b vl hk ha hb hvl h
    · exact calls4T k a b vl hk ha hb hvl h
  by_cases h : k.tmod 7 = 4
  · cases is
    · exact calls5F k a b vl hk ha hb hvl h
    · exact calls5T k a b vl hk ha hb hvl h
  by_cases h : k.tmod 7 = 5
  · cases is
    · exact calls6F k a b vl hk ha hb hvl h
    · exact calls6T k a b vl hk ha hb hvl h
  have h : k.tmod 7 = 6 := by omega
  cases is
  · exact calls7F k a b vl hk ha hb hvl h
  · exact calls7T k a b vl hk ha hb hvl h

end Uw.Try
