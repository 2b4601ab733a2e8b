/- Nb: Sq Ss (merged by merge2.py from the working texts). -/
import Derived.Test.YtkfgbbkcjaalkaaDoorNa
import Derived.Test.YtkfgbbkcjaalkaaDoorN9
import Derived.Test.YtkfgbbkcjaalkaaDoorN7
import Derived.Test.YtkfgbbkcjaalkaaDoorN6
import Derived.Test.YtkfgbbkcjaalkaaDoorN4
set_option linter.unusedSimpArgs false
set_option linter.unnecessarySimpa false
set_option linter.unusedVariables false
set_option linter.unusedSectionVars false

/- alive: the document's example. -/
set_option linter.unusedVariables false
set_option linter.unusedSimpArgs false
namespace Uw.Tryd
open Go Uw Go.Proofs Go.RowKit

def exS : List UInt8 := [48, 120, 50, 32, 49, 126, 50, 32, 49, 32, 48, 32, 49, 32, 48, 33, 32, 48, 32, 49, 33]
def exL : List Pick := [⟨1, 0, 0⟩, ⟨1, 0, 0⟩, ⟨2, 1, 2⟩, ⟨1, 1, 0⟩, ⟨1, 0, 0⟩, ⟨1, 1, 0⟩, ⟨3, 0, 0⟩, ⟨1, 0, 0⟩, ⟨3, 1, 0⟩]
def exP : List Pick := [⟨1, 0, 0⟩, ⟨1, 0, 0⟩, ⟨1, 0, 0⟩, ⟨1, 1, 0⟩, ⟨3, 0, 0⟩]
theorem ex_parse : parse exS = (exL, 0) := by decide +kernel
theorem ex_none : parse [48, 120] = ([], 3) := by decide +kernel
theorem ex_bound : parse [48, 120, 49, 48, 48, 48, 49] = ([], 2) := by decide +kernel
theorem ex_plain : plain 2 exL = exP := by decide +kernel
theorem itoa_small (n : Nat) (h : n < 10) : Lib.itoa (n : Int) = [UInt8.ofNat (48 + n)] := by
  rw [Lib.itoa, if_neg (by omega), Int.toNat_natCast, Lib.decDigits_one h]
theorem i0 : Lib.itoa 0 = [48] := itoa_small 0 (by omega)
theorem i1 : Lib.itoa 1 = [49] := itoa_small 1 (by omega)
theorem i2 : Lib.itoa 2 = [50] := itoa_small 2 (by omega)
theorem i3 : Lib.itoa 3 = [51] := itoa_small 3 (by omega)
theorem ex_text : text exL = exS := by
  have e : textW exL = [Lib.itoa 0 ++ (120 :: Lib.itoa 2), Lib.itoa 1 ++ (126 :: Lib.itoa 2), Lib.itoa 1, Lib.itoa 0, Lib.itoa 1, Lib.itoa 0 ++ [33], Lib.itoa 0, Lib.itoa 1 ++ [33]] := rfl
  rw [text, e, i0, i1, i2]; rfl
theorem ex_text2 : text exP = [48, 120, 51, 32, 49, 32, 48, 33] := by
  have e : textW exP = [Lib.itoa 0 ++ (120 :: Lib.itoa 3), Lib.itoa 1, Lib.itoa 0 ++ [33]] := rfl
  rw [text, e, i0, i1, i3]; rfl
theorem fine_ex (l : List Pick) (h : (l.all fun p => (decide (p.kind = 1) || decide (p.kind = 2) || decide (p.kind = 3)) && decide (0 ≤ p.a) && decide (p.a < 10000000) && decide (0 ≤ p.b) && decide (p.b < 10000000) && (!decide (p.kind = 1) || decide (p.b = 0))) = true) : ∀ p ∈ l, Fine p := by
  intro p hp
  have := List.all_eq_true.1 h p hp
  simp at this
  exact ⟨by omega, by omega, by omega, by omega, by omega, fun h => by omega⟩

theorem s_alive : Ret P0 n_law29_alive [] (.bool true) := by
  have p1 := s_script_Parse exS (by decide)
  have p2 := s_script_Parse [48, 120] (by decide)
  have p3 := s_script_Parse [48, 120, 49, 48, 48, 48, 49] (by decide)
  rw [ex_parse] at p1
  rw [ex_none] at p2
  rw [ex_bound] at p3
  have t1 := s_script_Plain 2 exL (by decide) (by decide)
  rw [ex_plain] at t1
  have t2 := s_script_Text exL (by decide) (fine_ex _ (by decide))
  rw [ex_text] at t2
  have t3 := s_script_Text exP (by decide) (fine_ex _ (by decide))
  rw [ex_text2] at t3
  have n1 := s_script_Next [true, false, true] 0 (by decide)
  have n2 := s_script_Next [true, false, true] 2 (by decide)
  have n3 := s_script_Next [false] 0 (by decide)
  rw [show next [true, false, true] 0 = 2 by decide] at n1
  rw [show next [true, false, true] 2 = 0 by decide] at n2
  rw [show next [false] 0 = -1 by decide] at n3
  have r1 := s_script_Right 2 ⟨2, 1, 2⟩
  have r2 := s_script_Right 1 ⟨2, 1, 2⟩
  refine Ret_by is_law29_alive rfl ?_
  refine WT_call _ p1 ?_
  (repeat first | refine WT_inR (by simp [inR]; omega) ?_ | refine WT_t rfl ?_ | refine WT_f rfl ?_ | refine WT_guard (by first | (simp [inR]; done) | (simp [inR]; omega)) ?_ | refine WT_elem _ (map_get _ _ _ (by first | assumption | omega)) ?_)
  refine WT_call _ p2 ?_
  (repeat first | refine WT_inR (by simp [inR]; omega) ?_ | refine WT_t rfl ?_ | refine WT_f rfl ?_ | refine WT_guard (by first | (simp [inR]; done) | (simp [inR]; omega)) ?_ | refine WT_elem _ (map_get _ _ _ (by first | assumption | omega)) ?_)
  refine WT_call _ p3 ?_
  (repeat first | refine WT_inR (by simp [inR]; omega) ?_ | refine WT_t rfl ?_ | refine WT_f rfl ?_ | refine WT_guard (by first | (simp [inR]; done) | (simp [inR]; omega)) ?_ | refine WT_elem _ (map_get _ _ _ (by first | assumption | omega)) ?_)
  refine WT_elem (pickL ⟨2, 1, 2⟩) rfl ?_
  (repeat first | refine WT_inR (by simp [inR]; omega) ?_ | refine WT_t rfl ?_ | refine WT_f rfl ?_ | refine WT_guard (by first | (simp [inR]; done) | (simp [inR]; omega)) ?_ | refine WT_elem _ (map_get _ _ _ (by first | assumption | omega)) ?_)
  refine WT_call _ t1 ?_
  refine WT_call _ t3 ?_
  (repeat first | refine WT_inR (by simp [inR]; omega) ?_ | refine WT_t rfl ?_ | refine WT_f rfl ?_ | refine WT_guard (by first | (simp [inR]; done) | (simp [inR]; omega)) ?_ | refine WT_elem _ (map_get _ _ _ (by first | assumption | omega)) ?_)
  refine WT_call _ t2 ?_
  (repeat first | refine WT_inR (by simp [inR]; omega) ?_ | refine WT_t rfl ?_ | refine WT_f rfl ?_ | refine WT_guard (by first | (simp [inR]; done) | (simp [inR]; omega)) ?_ | refine WT_elem _ (map_get _ _ _ (by first | assumption | omega)) ?_)
  refine WT_callL _ n1 (.cons (.slice (.refl _)) (.refl _)) ?_
  (repeat first | refine WT_inR (by simp [inR]; omega) ?_ | refine WT_t rfl ?_ | refine WT_f rfl ?_ | refine WT_guard (by first | (simp [inR]; done) | (simp [inR]; omega)) ?_ | refine WT_elem _ (map_get _ _ _ (by first | assumption | omega)) ?_)
  refine WT_callL _ n2 (.cons (.slice (.refl _)) (.refl _)) ?_
  (repeat first | refine WT_inR (by simp [inR]; omega) ?_ | refine WT_t rfl ?_ | refine WT_f rfl ?_ | refine WT_guard (by first | (simp [inR]; done) | (simp [inR]; omega)) ?_ | refine WT_elem _ (map_get _ _ _ (by first | assumption | omega)) ?_)
  refine WT_callL _ n3 (.cons (.slice (.refl _)) (.refl _)) ?_
  (repeat first | refine WT_inR (by simp [inR]; omega) ?_ | refine WT_t rfl ?_ | refine WT_f rfl ?_ | refine WT_guard (by first | (simp [inR]; done) | (simp [inR]; omega)) ?_ | refine WT_elem _ (map_get _ _ _ (by first | assumption | omega)) ?_)
  refine WT_elem (pickL ⟨2, 1, 2⟩) rfl ?_
  (repeat first | refine WT_inR (by simp [inR]; omega) ?_ | refine WT_t rfl ?_ | refine WT_f rfl ?_ | refine WT_guard (by first | (simp [inR]; done) | (simp [inR]; omega)) ?_ | refine WT_elem _ (map_get _ _ _ (by first | assumption | omega)) ?_)
  refine WT_call _ r1 ?_
  (repeat first | refine WT_inR (by simp [inR]; omega) ?_ | refine WT_t rfl ?_ | refine WT_f rfl ?_ | refine WT_guard (by first | (simp [inR]; done) | (simp [inR]; omega)) ?_ | refine WT_elem _ (map_get _ _ _ (by first | assumption | omega)) ?_)
  refine WT_elem (pickL ⟨2, 1, 2⟩) rfl ?_
  (repeat first | refine WT_inR (by simp [inR]; omega) ?_ | refine WT_t rfl ?_ | refine WT_f rfl ?_ | refine WT_guard (by first | (simp [inR]; done) | (simp [inR]; omega)) ?_ | refine WT_elem _ (map_get _ _ _ (by first | assumption | omega)) ?_)
  refine WT_call _ r2 ?_
  (repeat first | refine WT_inR (by simp [inR]; omega) ?_ | refine WT_t rfl ?_ | refine WT_f rfl ?_ | refine WT_guard (by first | (simp [inR]; done) | (simp [inR]; omega)) ?_ | refine WT_elem _ (map_get _ _ _ (by first | assumption | omega)) ?_)
  exact WT_ret (P := P0) rfl rfl rfl rfl rfl
end Uw.Tryd

/- Readings of arguments as picks and bools. -/
set_option linter.unusedVariables false
namespace Uw.Tryd
open Go Uw Go.Proofs Go.RowKit

theorem picks_of {ds : List Dat} (h : HasTy (.slice 3 (.struct [.int .i64, .int .i64, .int .i64])) ds) : ∃ l, ds = [picksD l] ∧ l.length ≤ reachBytes := by
  obtain ⟨xs, rfl, hlen, hx⟩ := h
  obtain ⟨l, rfl, _⟩ := list_of (f := pickL) (Q := fun _ => True) (fun x hx' => by
    obtain ⟨_, _, rfl, ⟨a, rfl, _⟩, _, _, rfl, ⟨b, rfl, _⟩, _, _, rfl, ⟨c, rfl, _⟩, rfl⟩ := hx x hx'
    exact ⟨⟨a, b, c⟩, rfl, trivial⟩)
  exact ⟨l, rfl, by simpa using hlen⟩
theorem bools_of {ds : List Dat} (h : HasTy (.slice 1 .bool) ds) : ∃ l, ds = [boolsD l] ∧ l.length ≤ reachBytes := by
  obtain ⟨xs, rfl, hlen, hx⟩ := h
  obtain ⟨l, rfl, _⟩ := list_of (f := fun b => [Dat.bool b]) (Q := fun _ => True) (fun x hx' => by
    obtain ⟨a, rfl⟩ := hx x hx'
    exact ⟨a, rfl, trivial⟩)
  exact ⟨l, rfl, by simpa using hlen⟩
end Uw.Tryd
