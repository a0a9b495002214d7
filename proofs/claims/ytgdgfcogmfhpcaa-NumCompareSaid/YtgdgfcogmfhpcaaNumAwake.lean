/- The chapter's examples answer true: awake of metronomelaw01. No condition. -/
import Derived.Test.YtgdgfcogmfhpcaaNumMul
import Derived.Test.YtgdgfcogmfhpcaaNumLess
import Derived.Test.YtgdgfcogmfhpcaaDivRes
namespace Go.Proofs.Ytgdgfcogmfhpcaa
open Go.RowKit

theorem ex_mul : mulNum 1099511627776 1073741824 = 0 ∧ mulErr 1099511627776 1073741824 = 11 := by decide
theorem ex_less : decide ((1099511627776 : Int).toNat * (1099511627776 : Int).toNat < (2199023255552 : Int).toNat * (549755813888 : Int).toNat) = false := by decide
theorem ex_div : divNum 7 3 2 true = 11 ∧ divErr 7 3 2 true = 0 := by decide

set_option maxHeartbeats 1000000 in
theorem awake_yes (w : World) : Calls Try.prog 12 #[] w (Yes w) := by
  have U := Lib.hid (mul_any 1099511627776 1073741824 (by omega) (by omega))
  have D := Lib.hid (less_ok 1099511627776 1099511627776 2199023255552 549755813888 (by omega) (by omega) (by omega) (by omega) (by omega) (by omega) (by omega) (by omega))
  have P := Lib.hid (div_any 7 3 2 true (by omega) (by omega) (by omega))
  rw [ex_mul.1, ex_mul.2] at U
  rw [ex_less] at D
  rw [ex_div.1, ex_div.2] at P
  go_enter Try.func12, Try.ntmps12
  go_wp2_with fail
  refine (U.out _).mono ?_
  rintro e w1 ⟨rfl, rfl⟩
  go_wp2_with fail
  refine (D.out _).mono ?_
  rintro e w2 ⟨rfl, b2⟩
  go_wp2_with fail
  refine (P.out _).mono ?_
  rintro e w3 ⟨rfl, b3⟩
  go_wp2_with fail
  go_ret
  exact ⟨rfl, bel_end b2 b3⟩
end Go.Proofs.Ytgdgfcogmfhpcaa
