/- How a quotient, rounded up or down, hangs on what is divided. Plain; each theorem's premises are its conditions. -/
import Derived.Test.YtoagdaenbanhlaaDivRes
namespace Go.Proofs.Ytoagdaenbanhlaa

theorem quot_mono {n m c : Nat} (up : Bool) (hc : 0 < c) (h : n ≤ m) : quot up n c ≤ quot up m c := by
  apply Classical.byContradiction
  intro h1
  cases up with
  | true =>
    have := (quot_up_gt (n := n) (k := quot true m c) hc).1 (by omega)
    have := (quot_up_le (n := m) hc).1
    omega
  | false =>
    have := (quot_down_gt (n := n) (k := quot false m c) hc).1 (by omega)
    have := (quot_down_le (n := m) hc).2
    omega
theorem quot_anti {n c d : Nat} (up : Bool) (hc : 0 < c) (h : c ≤ d) : quot up n d ≤ quot up n c := by
  apply Classical.byContradiction
  intro h1
  cases up with
  | true =>
    have h2 := (quot_up_gt (n := n) (k := quot true n c) (show 0 < d by omega)).1 (by omega)
    have h3 := (quot_up_le (n := n) hc).1
    have h4 : quot true n c * c ≤ quot true n c * d := Nat.mul_le_mul_left _ h
    omega
  | false =>
    have h2 := (quot_down_gt (n := n) (k := quot false n c) (show 0 < d by omega)).1 (by omega)
    have h3 := (quot_down_le (n := n) hc).2
    have h4 : quot false n c * c ≤ quot false n c * d := Nat.mul_le_mul_left _ h
    omega
theorem quot_both (n c : Nat) : quot false n c ≤ quot true n c ∧ quot true n c ≤ quot false n c + 1 := by
  have h1 := quot_le true n c
  have h2 := quot_low n c
  omega
theorem quot_fit (up : Bool) {n c k : Nat} (hc : 0 < c) (h : n ≤ k * c) : quot up n c ≤ k := by
  have h2 : ¬ k < quot true n c := fun h1 => by have := (quot_up_gt hc).1 h1; omega
  have := quot_both n c
  cases up <;> omega
theorem quot_exact (up : Bool) {c k : Nat} (hc : 0 < c) : quot up (k * c) c = k := by
  have h1 : k * c % c = 0 := Nat.mul_mod_left k c
  rw [quot_even up _ _ h1, Nat.mul_div_cancel _ hc]
/-- sums: of two quotients of two numbers. -/
theorem quot_add_down (n m c : Nat) (hc : 0 < c) : quot false n c + quot false m c ≤ quot false (n + m) c ∧ quot false (n + m) c ≤ quot false n c + quot false m c + 1 := by
  have h1 := quot_down_le (n := n) hc
  have h2 := quot_down_le (n := m) hc
  constructor
  · apply Classical.byContradiction
    intro h3
    have h4 := (quot_down_le (n := n + m) hc).2
    have h5 : (quot false (n + m) c + 1) * c ≤ (quot false n c + quot false m c) * c := Nat.mul_le_mul_right _ (by omega)
    rw [Nat.add_mul, Nat.add_mul] at h5; omega
  · apply Classical.byContradiction
    intro h3
    have h4 := (quot_down_le (n := n + m) hc).1
    have h5 : (quot false n c + quot false m c + 1 + 1) * c ≤ quot false (n + m) c * c := Nat.mul_le_mul_right _ (by omega)
    rw [Nat.add_mul, Nat.add_mul, Nat.add_mul] at h5; omega
theorem quot_add_up (n m c : Nat) (hc : 0 < c) : quot true (n + m) c ≤ quot true n c + quot true m c ∧ quot true n c + quot true m c ≤ quot true (n + m) c + 1 := by
  have h1 := quot_up_le (n := n) hc
  have h2 := quot_up_le (n := m) hc
  have h6 := quot_up_le (n := n + m) hc
  constructor
  · apply Classical.byContradiction
    intro h3
    have h4 := (quot_up_gt (n := n + m) (k := quot true n c + quot true m c) hc).1 (by omega)
    rw [Nat.add_mul] at h4; omega
  · apply Classical.byContradiction
    intro h3
    have h5 : (quot true (n + m) c + 1 + 1) * c ≤ (quot true n c + quot true m c) * c := Nat.mul_le_mul_right _ (by omega)
    rw [Nat.add_mul, Nat.add_mul, Nat.add_mul] at h5; omega

/-- num.Div's answer where it fits, of natural numbers. -/
theorem divRes_nat {x y c : Nat} {up : Bool} (hc : 0 < c) (h : quot up (x * y) c ≤ 9223372036854775807) : divNum (x : Int) (y : Int) (c : Int) up = ((quot up (x * y) c : Nat) : Int) ∧ divErr (x : Int) (y : Int) (c : Int) up = 0 := by
  have := divRes_ok (a := (x : Int)) (b := (y : Int)) (c := (c : Int)) (up := up) (by omega) (by omega) (by omega) (by simp only [Int.toNat_natCast]; exact h)
  simp only [Int.toNat_natCast] at this
  exact this
end Go.Proofs.Ytoagdaenbanhlaa
