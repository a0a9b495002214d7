/- Facts on words of 64 bits that the walk of Div64 uses: wraps, shifts, masks. Plain; each theorem's premises are its conditions. Each theorem's premises are its conditions. -/
import Derived.Test.YtmcilmmnpolieaaK01
import Derived.WalkKit
import Derived.Lib.ItoaNum
import Derived.Lib.BitFns
import Derived.Laws.Bits64b
/- Facts on words of 64 bits that the walk of Div64 uses: wraps, shifts, masks. Plain; each theorem's premises are its conditions. -/
namespace Go.Proofs.Ytmcilmmnpolieaa.Div64
open Go.RowKit

theorem nat_int {a b : Nat} (h : a = b) : ((a : Nat) : Int) = (b : Int) := by rw [h]
theorem wrapM (a : Nat) (b : Nat) (h : a % 18446744073709551616 = b) : IntKind.u64.wrap (a : Int) = (b : Int) := by rw [IntKind.wrap_u64]; omega
theorem maskN (a b : Nat) (ha : a < 18446744073709551616) (h : a % 4294967296 = b) : bits .and .u64 (a : Int) 4294967295 = (b : Int) := by
  have e := bits_and_u64_nat a 4294967295 ha (by omega)
  have e' : a &&& 4294967295 = a % 4294967296 := Nat.and_two_pow_sub_one_eq_mod a 32
  rw [e', h] at e
  exact e
theorem shiftOf (y : Nat) (h : 0 < y) (h' : y < 18446744073709551616) :
    ∃ s : Nat, s < 64 ∧ (64 - (Lib.bitLen y : Int)) = (s : Int) ∧ 9223372036854775808 ≤ y * 2 ^ s ∧ y * 2 ^ s < 18446744073709551616 := by
  obtain ⟨b1, b2, b3⟩ := Lib.bitLenAux_bounds 64 y h' (by omega)
  have b4 : Lib.bitLen y ≤ 64 := Lib.bitLen_le y 64 (by omega) h'
  have e : Lib.bitLenAux 64 y = Lib.bitLen y := rfl
  rw [e] at b1 b2 b3
  generalize Lib.bitLen y = L at *
  refine ⟨64 - L, by omega, by omega, ?_, ?_⟩
  · have h1 : 2 ^ (L - 1) * 2 ^ (64 - L) ≤ y * 2 ^ (64 - L) := Nat.mul_le_mul_right _ b2
    rw [← Nat.pow_add, show L - 1 + (64 - L) = 63 by omega] at h1
    exact h1
  · have h1 : y * 2 ^ (64 - L) < 2 ^ L * 2 ^ (64 - L) := Nat.mul_lt_mul_of_pos_right b3 (Nat.two_pow_pos (64 - L))
    rw [← Nat.pow_add, show L + (64 - L) = 64 by omega] at h1
    exact h1
theorem orOf (hi lo s u : Nat) (hs : s < 64) (hu : hi * 2 ^ s + lo / 2 ^ (64 - s) = u) (hlt : u < 18446744073709551616) (hl : lo < 18446744073709551616) :
    bits .or .u64 (IntKind.u64.wrap ((hi : Int) * 2 ^ s)) ((lo : Int) / 2 ^ (64 - s)) = (u : Int) := by
  have h1 : lo / 2 ^ (64 - s) < 2 ^ s := by
    rw [Nat.div_lt_iff_lt_mul (Nat.two_pow_pos _), ← Nat.pow_add, show s + (64 - s) = 64 by omega]; exact hl
  have e1 : (hi : Int) * 2 ^ s = ((hi * 2 ^ s : Nat) : Int) := by simp
  have e2 : (lo : Int) / 2 ^ (64 - s) = ((lo / 2 ^ (64 - s) : Nat) : Int) := by simp
  have h2 : hi * 2 ^ s < 18446744073709551616 := by generalize hi * 2 ^ s = a at *; generalize lo / 2 ^ (64 - s) = b at *; omega
  have h3 : lo / 2 ^ (64 - s) < 18446744073709551616 := by generalize hi * 2 ^ s = a at *; generalize lo / 2 ^ (64 - s) = b at *; omega
  rw [e1, e2, wrapM _ (hi * 2 ^ s) (Nat.mod_eq_of_lt h2), bits_or_u64_nat _ _ h2 h3]
  refine nat_int ?_
  rw [← hu, Nat.mul_comm]
  exact (Nat.two_pow_add_eq_or_of_lt h1 hi).symm

/-- What a loop's head knows: a digit that is no less than the true one, and what is left by it. -/
def Head (u v y1 y0 : Nat) (a b : Value) : Prop :=
  ∃ q r : Nat, a = .int .u64 q ∧ b = .int .u64 r ∧ u = q * y1 + r ∧ r < 4294967296 ∧ DivMath.dig u v (y1 * 4294967296 + y0) ≤ q ∧ q ≤ u
theorem val_eq {a b : Int} (h : a = b) : Value.int .u64 a = Value.int .u64 b := by rw [h]
theorem less_one {u y1 q r : Nat} (hq : 1 ≤ q) (h : u = q * y1 + r) : u = (q - 1) * y1 + (r + y1) := by
  have e := Nat.sub_mul q 1 y1
  have : y1 ≤ q * y1 := Nat.le_mul_of_pos_left _ (by omega)
  omega
theorem head_next {u v y1 y0 q r : Nat} (h : u = q * y1 + r) (lt : DivMath.dig u v (y1 * 4294967296 + y0) < q) (c2 : ¬ (4294967296 : Int) ≤ (r : Int) + (y1 : Int)) (hq : q ≤ u) :
    Head u v y1 y0 (.int .u64 ((q : Int) - 1)) (.int .u64 ((r : Int) + (y1 : Int))) :=
  ⟨q - 1, r + y1, val_eq (by omega), val_eq (by omega), less_one (by omega) h, by omega, by omega, by omega⟩
theorem head_break {u v y1 y0 q r : Nat} (h1 : 0 < y1) (h0 : y0 < 4294967296) (hlt : u < y1 * 4294967296 + y0) (h : u = q * y1 + r) (lt : DivMath.dig u v (y1 * 4294967296 + y0) < q) (c2 : (4294967296 : Int) ≤ (r : Int) + (y1 : Int)) :
    (q : Int) - 1 = ((DivMath.dig u v (y1 * 4294967296 + y0) : Nat) : Int) := by
  have := DivMath.digit_break (v := v) h1 h0 hlt (q := q - 1) (r := r + y1) (less_one (by omega) h) (by omega) (by omega)
  omega
theorem head_gt {u v y1 y0 q r m : Nat} (h1 : 0 < y1) (h : u = q * y1 + r) (hm : q * y0 = m) (c3 : (4294967296 : Int) * (r : Int) + (v : Int) < (m : Int)) : DivMath.dig u v (y1 * 4294967296 + y0) < q :=
  DivMath.round_gt h1 h (by omega)
theorem head_done {u v y1 y0 q r m : Nat} (h1 : 0 < y1) (h : u = q * y1 + r) (hq : DivMath.dig u v (y1 * 4294967296 + y0) ≤ q) (hm : q * y0 = m) (c3 : ¬ (4294967296 : Int) * (r : Int) + (v : Int) < (m : Int)) : q = DivMath.dig u v (y1 * 4294967296 + y0) :=
  DivMath.digit_done h1 h hq (by omega)
theorem mul_small {q y0 : Nat} (hq : ¬ (4294967296 : Int) ≤ (q : Int)) (h0 : y0 < 4294967296) : ∃ m, q * y0 = m ∧ IntKind.u64.wrap ((q : Int) * (y0 : Int)) = (m : Int) := by
  refine ⟨_, rfl, ?_⟩
  rw [← Int.natCast_mul]
  have h : q * y0 ≤ 4294967295 * 4294967295 := Nat.mul_le_mul (by omega) (by omega)
  exact wrapM _ _ (Nat.mod_eq_of_lt (by omega))
theorem mod_back (u u1 z v a m : Nat) (h : u * 4294967296 + u1 = z + v) (ha : u * 4294967296 % 18446744073709551616 = a) (hm : z % 18446744073709551616 = m) (hv : v < 18446744073709551616) :
    IntKind.u64.wrap ((a : Int) + (u1 : Int) - (m : Int)) = (v : Int) := by
  rw [IntKind.wrap_u64]; omega
theorem mod_low (u a : Nat) (ha : u * 4294967296 % 18446744073709551616 = a) : (a : Int) ≤ 18446744069414584320 := by omega
end Go.Proofs.Ytmcilmmnpolieaa.Div64
