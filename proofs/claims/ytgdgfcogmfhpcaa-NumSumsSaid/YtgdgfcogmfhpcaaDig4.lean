/- Small words on the reference's numbers of one half. Each theorem's premises are its conditions. -/
import Derived.Test.YtgdgfcogmfhpcaaQuotLaws
import Derived.Test.YtgdgfcogmfhpcaaDig3
namespace Go.Proofs.Ytgdgfcogmfhpcaa
open Go.RowKit

theorem of_zero (low : Nat) (hl : low < 18446744073709551616) (w : World) : Calls Try.prog 14 #[.int .u64 0, .int .u64 low] w (GivesNum low w) := by
  have := of_any 0 low (by omega) hl w
  rw [Nat.zero_mul, Nat.zero_add] at this
  exact this
theorem times_max (z : Nat) (hz : z < 18446744073709551616) (w : World) : Calls Try.prog 13 #[.int .u64 9223372036854775807, .int .u64 z] w (GivesNum (9223372036854775807 * z) w) :=
  times_any 9223372036854775807 z (by omega) hz w
theorem big_mod {n : Nat} (h : n < 680564733841876926926749214863536422912) : n % 65536 ^ 12 = n := by
  apply Nat.mod_eq_of_lt
  have e2 : (65536 : Nat) ^ 12 = 6277101735386680763835789423207666416102355444464034512896 := by decide
  rw [e2]; omega
theorem prod_small {x y : Nat} (hx : x ≤ 9223372036854775807) (hy : y ≤ 9223372036854775807) : x * y ≤ 85070591730234615847396907784232501249 := Nat.mul_le_mul hx hy
theorem u64_of (x : Nat) (h : x ≤ 9223372036854775807) : IntKind.u64.wrap (x : Int) = (x : Int) := by rw [IntKind.wrap_u64]; omega
def arr3Box (x y z : Int) : Obj := .cells #[.int .i64 x, .int .i64 y, .int .i64 z] 22

end Go.Proofs.Ytgdgfcogmfhpcaa
