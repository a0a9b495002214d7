/- The arithmetic of a division of a number of 128 bits by one of 64, a digit of 32 bits at a time. Plain; no condition. Each theorem's premises are its conditions. -/
/- The arithmetic of a division of a number of 128 bits by one of 64, a digit of 32 bits at a time. Plain; no condition. -/
namespace Go.Proofs.Ytmcilmmnpolieaa.DivMath
theorem upper {u y1 y0 v q r : Nat} (hu : u = q * y1 + r) (h : q * y0 ≤ 4294967296 * r + v) : q * (y1 * 4294967296 + y0) ≤ u * 4294967296 + v := by
  subst hu
  have e : q * (y1 * 4294967296 + y0) = q * y1 * 4294967296 + q * y0 := by rw [Nat.mul_add, Nat.mul_assoc]
  rw [e]; omega
theorem lower {u y1 y0 v q r : Nat} (hu : u = q * y1 + r) (h : 4294967296 * r + v < q * y0) : u * 4294967296 + v < q * (y1 * 4294967296 + y0) := by
  subst hu
  have e : q * (y1 * 4294967296 + y0) = q * y1 * 4294967296 + q * y0 := by rw [Nat.mul_add, Nat.mul_assoc]
  rw [e]; omega
def dig (u v Y : Nat) : Nat := (u * 4294967296 + v) / Y
theorem dig_lt' {u v Y q : Nat} (hY : 0 < Y) (h : u * 4294967296 + v < q * Y) : dig u v Y < q := (Nat.div_lt_iff_lt_mul hY).2 h
theorem le_dig {u v Y q : Nat} (hY : 0 < Y) (h : q * Y ≤ u * 4294967296 + v) : q ≤ dig u v Y := (Nat.le_div_iff_mul_le hY).2 h
theorem dig_lt {u v Y : Nat} (hY : u < Y) (hv : v < 4294967296) : dig u v Y < 4294967296 := by
  refine dig_lt' (by omega) ?_
  have : (u + 1) * 4294967296 ≤ Y * 4294967296 := Nat.mul_le_mul_right _ hY
  omega
theorem start {u v y1 y0 : Nat} (h1 : 0 < y1) (hv : v < 4294967296) : dig u v (y1 * 4294967296 + y0) ≤ u / y1 := by
  suffices h : dig u v (y1 * 4294967296 + y0) < u / y1 + 1 by omega
  refine dig_lt' (by omega) ?_
  have h : u < (u / y1 + 1) * y1 := by
    have := Nat.div_add_mod' u y1; have := Nat.mod_lt u h1; rw [Nat.add_mul]; omega
  have h2 : (u + 1) * 4294967296 ≤ (u / y1 + 1) * y1 * 4294967296 := Nat.mul_le_mul_right _ h
  have e : (u / y1 + 1) * (y1 * 4294967296 + y0) = (u / y1 + 1) * y1 * 4294967296 + (u / y1 + 1) * y0 := by rw [Nat.mul_add, Nat.mul_assoc]
  rw [e]; omega
/-- what the loop leaves. -/
theorem digit_done {u v y1 y0 q r : Nat} (hY : 0 < y1) (hu : u = q * y1 + r) (hq : dig u v (y1 * 4294967296 + y0) ≤ q) (h : q * y0 ≤ 4294967296 * r + v) : q = dig u v (y1 * 4294967296 + y0) := by
  have := le_dig (by omega) (upper hu h); omega
/-- a round: the test says that q is too great. -/
theorem round_gt {u v y1 y0 q r : Nat} (hY : 0 < y1) (hu : u = q * y1 + r) (h : 4294967296 * r + v < q * y0) : dig u v (y1 * 4294967296 + y0) < q := dig_lt' (by omega) (lower hu h)
/-- behind a round that leaves the loop: the rest is no less than 2^32. -/
theorem digit_break {u v y1 y0 q r : Nat} (h1 : 0 < y1) (h0 : y0 < 4294967296) (hlt : u < y1 * 4294967296 + y0) (hu : u = q * y1 + r) (hq : dig u v (y1 * 4294967296 + y0) ≤ q) (hr : 4294967296 ≤ r) : q = dig u v (y1 * 4294967296 + y0) := by
  refine digit_done h1 hu hq ?_
  have hq' : q < 4294967296 := by
    apply Classical.byContradiction; intro hn
    have : 4294967296 * y1 ≤ q * y1 := Nat.mul_le_mul_right _ (by omega)
    omega
  have : q * y0 ≤ 4294967296 * y0 := Nat.mul_le_mul_right _ (by omega)
  have : 4294967296 * y0 ≤ 4294967296 * 4294967296 := Nat.mul_le_mul_left _ (by omega)
  have : 4294967296 * 4294967296 ≤ 4294967296 * r := Nat.mul_le_mul_left _ hr
  omega
/-- the rest of one digit. -/
theorem rest {u v Y q : Nat} (hq : q = dig u v Y) : u * 4294967296 + v - q * Y = (u * 4294967296 + v) % Y := by
  subst hq; unfold dig
  have := Nat.div_add_mod' (u * 4294967296 + v) Y; omega
theorem two_aux (n w Y K : Nat) (hY : 0 < Y) : n / Y * K + (n % Y * K + w) / Y = (n * K + w) / Y ∧ (n % Y * K + w) % Y = (n * K + w) % Y := by
  have e : n * K + w = (n % Y * K + w) + Y * (n / Y * K) := by
    have h := Nat.div_add_mod n Y
    have e2 : n * K = (Y * (n / Y) + n % Y) * K := by rw [h]
    rw [e2, Nat.add_mul, Nat.mul_assoc]; omega
  constructor
  · rw [e, Nat.add_mul_div_left _ _ hY]; omega
  · rw [e, Nat.add_mul_mod_self_left]
theorem rest_eq {u v Y q z : Nat} (hq : q = dig u v Y) (hz : z = (u * 4294967296 + v) % Y) : u * 4294967296 + v = q * Y + z := by
  subst hq hz; unfold dig; exact (Nat.div_add_mod' _ _).symm
/-- two digits, and what is left: of the number that is divided. -/
theorem two {u v w Y q1 q0 u2 : Nat} (hY : 0 < Y) (h1 : q1 = dig u v Y) (h2 : u2 = (u * 4294967296 + v) % Y) (h0 : q0 = dig u2 w Y) :
    q1 * 4294967296 + q0 = ((u * 4294967296 + v) * 4294967296 + w) / Y ∧ (u2 * 4294967296 + w) % Y = ((u * 4294967296 + v) * 4294967296 + w) % Y := by
  subst h0 h1 h2; unfold dig
  exact two_aux _ w Y _ hY
/-- what was shifted. -/
theorem shifted {N y s : Nat} : N * 2 ^ s / (y * 2 ^ s) = N / y ∧ N * 2 ^ s % (y * 2 ^ s) / 2 ^ s = N % y := by
  have hp : 0 < 2 ^ s := Nat.two_pow_pos s
  constructor
  · exact Nat.mul_div_mul_right _ _ hp
  · rw [Nat.mul_mod_mul_right]; exact Nat.mul_div_cancel _ hp
/-- the halves of the number, shifted. -/
theorem halves {hi lo s : Nat} (hs : s ≤ 64) :
    ((hi * 2 ^ s + lo / 2 ^ (64 - s)) * 4294967296 + lo * 2 ^ s % 18446744073709551616 / 4294967296) * 4294967296 + lo * 2 ^ s % 18446744073709551616 % 4294967296 = (hi * 18446744073709551616 + lo) * 2 ^ s := by
  have e : lo * 2 ^ s / 18446744073709551616 = lo / 2 ^ (64 - s) := by
    have h64 : (18446744073709551616 : Nat) = 2 ^ (64 - s) * 2 ^ s := by rw [← Nat.pow_add]; rw [show 64 - s + s = 64 by omega]
    rw [h64]; exact Nat.mul_div_mul_right _ _ (Nat.two_pow_pos s)
  have h := Nat.div_add_mod (lo * 2 ^ s) 18446744073709551616
  rw [e] at h
  have e3 : (hi * 18446744073709551616 + lo) * 2 ^ s = hi * 2 ^ s * 18446744073709551616 + lo * 2 ^ s := by
    rw [Nat.add_mul, Nat.mul_right_comm]
  rw [e3]
  generalize hi * 2 ^ s = a at *
  generalize lo * 2 ^ s = b at *
  generalize lo / 2 ^ (64 - s) = c at *
  omega
theorem high_lt {hi lo y s : Nat} (hs : s ≤ 64) (h : hi < y) (hlo : lo < 18446744073709551616) : hi * 2 ^ s + lo / 2 ^ (64 - s) < y * 2 ^ s := by
  have h1 : lo / 2 ^ (64 - s) < 2 ^ s := by
    rw [Nat.div_lt_iff_lt_mul (Nat.two_pow_pos _), ← Nat.pow_add, show s + (64 - s) = 64 by omega]; exact hlo
  have h2 : (hi + 1) * 2 ^ s ≤ y * 2 ^ s := Nat.mul_le_mul_right _ h
  rw [Nat.add_mul] at h2; omega
end Go.Proofs.Ytmcilmmnpolieaa.DivMath
