/- The school's product of digits: what one round adds. Plain; no condition. -/
import Derived.Test.YtgdgfcogmfhpcaaDigMath
namespace Go.Proofs.Ytgdgfcogmfhpcaa
/-! ### the plain law -/
def addAt (f : Nat → Nat) (j a i : Nat) : Nat := if i = j then f i + a else f i
theorem V_addAt (f : Nat → Nat) (j a k : Nat) (h : j < k) : Dig.V (addAt f j a) k = Dig.V f k + a * 65536 ^ j := Dig.V_upd j a k h
theorem step_val (f : Nat → Nat) (i k p : Nat) (hi : i < 4) (hk : k < 4) : Dig.V (addAt (addAt f (i + k) (p % 65536)) (i + k + 1) (p / 65536)) 8 = Dig.V f 8 + p * (65536 ^ i * 65536 ^ k) := by
  rw [V_addAt _ _ _ _ (by omega), V_addAt _ _ _ _ (by omega), Nat.pow_succ, ← Nat.pow_add]
  generalize 65536 ^ (i + k) = q
  have h := Nat.div_add_mod p 65536
  have e : p * q = (65536 * (p / 65536) + p % 65536) * q := by rw [h]
  rw [e, Nat.add_mul, Nat.mul_comm q 65536, ← Nat.mul_assoc, Nat.mul_comm 65536 (p / 65536)]
  omega
theorem step_inner (X Y x y q r s V : Nat) (h : V = X * Y + x * q * s) : V + x * y * (q * r) = X * Y + x * q * (s + y * r) := by
  rw [h, Nat.mul_add, Nat.mul_mul_mul_comm x y q r]; omega
theorem step_outer (X Y x q V : Nat) (h : V = X * Y + x * q * Y) : V = (X + x * q) * Y := by
  rw [h, Nat.add_mul]

theorem V_nil (f : Nat → Nat) : Dig.V f 0 = 0 := rfl
theorem V_next (f : Nat → Nat) (k : Nat) : Dig.V f (k + 1) = Dig.V f k + f k * 65536 ^ k := rfl
theorem start_outer (Y : Nat) (g : Nat → Nat) : Dig.V (fun _ => 0) 8 = Dig.V g 0 * Y := by rw [Dig.V_zero, V_nil, Nat.zero_mul]
theorem start_inner (V X Y x : Nat) (g : Nat → Nat) (h : V = X * Y) : V = X * Y + x * Dig.V g 0 := by rw [h, V_nil, Nat.mul_zero, Nat.add_zero]
theorem prod_fits (a b : Nat) (ha : a < 18446744073709551616) (hb : b < 18446744073709551616) : (a % 65536 ^ 4) * (b % 65536 ^ 4) % 65536 ^ 12 = a * b := by
  have e : (65536 : Nat) ^ 4 = 18446744073709551616 := by decide
  rw [e, Nat.mod_eq_of_lt ha, Nat.mod_eq_of_lt hb, Nat.mod_eq_of_lt]
  have h1 : a * b ≤ 18446744073709551615 * 18446744073709551615 := Nat.mul_le_mul (by omega) (by omega)
  have e2 : (65536 : Nat) ^ 12 = 6277101735386680763835789423207666416102355444464034512896 := by decide
  rw [e2]; omega
end Go.Proofs.Ytgdgfcogmfhpcaa
