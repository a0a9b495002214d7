/- What num.Mul answers at any two numbers: the product, if it fits. No condition but that they are numbers of 64 bits. -/
import Derived.Test.YtoagdaenbanhlaaDiv64Facts
import Derived.Test.YtoagdaenbanhlaaNumDiv
import Derived.WalkLawsBesides
namespace Go.Proofs.Ytoagdaenbanhlaa
open Go.RowKit

theorem size_any (n : Int) (h : -9223372036854775808 ≤ n) (h' : n ≤ 9223372036854775807) (w : World) : Calls Try.prog 37 #[.int .i64 n] w fun e w' => e = .returned (.int .u64 ((n.natAbs : Nat) : Int)) ∧ w = w' := by
  by_cases h0 : n < 0
  · have e1 : IntKind.u64.wrap (-IntKind.u64.wrap n) = ((n.natAbs : Nat) : Int) := by rw [IntKind.wrap_u64, IntKind.wrap_u64]; omega
    go_enter Try.func37, Try.ntmps37
    go_wp2
    go_ret
    exact ⟨rfl, rfl⟩
  · have h1 : 0 ≤ n := by omega
    have e1 : IntKind.u64.wrap n = n := by rw [IntKind.wrap_u64]; omega
    clear h0
    go_enter Try.func37, Try.ntmps37
    go_wp2
    go_ret
    exact ⟨ret1 (int_eq (by omega)), rfl⟩

set_option maxHeartbeats 800000 in
theorem mul_over00 (a b : Int) (ba : -9223372036854775808 ≤ a ∧ a ≤ 9223372036854775807) (bb : -9223372036854775808 ≤ b ∧ b ≤ 9223372036854775807) (ha : 0 ≤ a) (hb : 0 ≤ b) (h l : Nat) (hh : a.natAbs * b.natAbs / 18446744073709551616 = h) (hl : a.natAbs * b.natAbs % 18446744073709551616 = l) (hov : 0 < h ∨ 9223372036854775807 < l) (w : World) :
    Calls Try.prog 26 #[.int .i64 a, .int .i64 b] w fun e w' => e = .returned (.tuple #[.int .i64 0, .int .i64 11]) ∧ w' = w := by
  have d1 : decide (a < 0) = false := by simp; omega
  have d2 : decide (b < 0) = false := by simp; omega
  have S1 := Lib.hid (size_any a ba.1 ba.2)
  have S2 := Lib.hid (size_any b bb.1 bb.2)
  have M := Lib.hid (Try.bits_Mul64 a.natAbs b.natAbs (by omega) (by omega))
  rw [hh, hl] at M
  generalize a.natAbs = x at *
  generalize b.natAbs = y at *
  clear hh hl
  clear ba bb
  by_cases h1 : 0 < h
  · have h2 : (0 : Int) < (h : Int) := by omega
    clear hov h1
    go_enter Try.func26, Try.ntmps26
    go_wp2_with fail
    refine (S1.out _).mono ?_
    rintro e w1 ⟨rfl, rfl⟩
    go_wp2_with fail
    refine (S2.out _).mono ?_
    rintro e w1 ⟨rfl, rfl⟩
    go_wp2_with fail
    refine (M.out _).mono ?_
    rintro e w' ⟨rfl, rfl⟩
    go_wp2_with fail
    go_ret2
    exact ⟨rfl, rfl⟩
  · have h2 : h = 0 := by omega
    subst h2
    have h3 : (9223372036854775807 : Int) < (l : Int) := by omega
    clear hov h1
    go_enter Try.func26, Try.ntmps26
    go_wp2_with fail
    refine (S1.out _).mono ?_
    rintro e w1 ⟨rfl, rfl⟩
    go_wp2_with fail
    refine (S2.out _).mono ?_
    rintro e w1 ⟨rfl, rfl⟩
    go_wp2_with fail
    refine (M.out _).mono ?_
    rintro e w' ⟨rfl, rfl⟩
    go_wp2_with fail
    go_ret2
    exact ⟨rfl, rfl⟩
set_option maxHeartbeats 800000 in
theorem mul_fit00 (a b : Int) (ba : -9223372036854775808 ≤ a ∧ a ≤ 9223372036854775807) (bb : -9223372036854775808 ≤ b ∧ b ≤ 9223372036854775807) (ha : 0 ≤ a) (hb : 0 ≤ b) (h l : Nat) (hh : a.natAbs * b.natAbs / 18446744073709551616 = h) (hl : a.natAbs * b.natAbs % 18446744073709551616 = l) (h0 : h = 0) (hov : l ≤ 9223372036854775807) (w : World) :
    Calls Try.prog 26 #[.int .i64 a, .int .i64 b] w fun e w' => e = .returned (.tuple #[.int .i64 ((l : Int)), .int .i64 0]) ∧ w' = w := by
  subst h0
  have d1 : decide (a < 0) = false := by simp; omega
  have d2 : decide (b < 0) = false := by simp; omega
  have S1 := Lib.hid (size_any a ba.1 ba.2)
  have S2 := Lib.hid (size_any b bb.1 bb.2)
  have M := Lib.hid (Try.bits_Mul64 a.natAbs b.natAbs (by omega) (by omega))
  rw [hh, hl] at M
  generalize a.natAbs = x at *
  generalize b.natAbs = y at *
  clear hh hl
  clear ba bb
  have e1 : IntKind.i64.wrap (l : Int) = (l : Int) := by rw [IntKind.wrap_i64]; omega
  have h3 : (l : Int) ≤ 9223372036854775807 := by omega
  clear hov
  go_enter Try.func26, Try.ntmps26
  go_wp2_with fail
  refine (S1.out _).mono ?_
  rintro e w1 ⟨rfl, rfl⟩
  go_wp2_with fail
  refine (S2.out _).mono ?_
  rintro e w1 ⟨rfl, rfl⟩
  go_wp2_with fail
  refine (M.out _).mono ?_
  rintro e w' ⟨rfl, rfl⟩
  go_wp2_with fail
  go_ret2
  exact ⟨rfl, rfl⟩
set_option maxHeartbeats 800000 in
theorem mul_over01 (a b : Int) (ba : -9223372036854775808 ≤ a ∧ a ≤ 9223372036854775807) (bb : -9223372036854775808 ≤ b ∧ b ≤ 9223372036854775807) (ha : 0 ≤ a) (hb : b < 0) (h l : Nat) (hh : a.natAbs * b.natAbs / 18446744073709551616 = h) (hl : a.natAbs * b.natAbs % 18446744073709551616 = l) (hov : 0 < h ∨ 9223372036854775808 < l) (w : World) :
    Calls Try.prog 26 #[.int .i64 a, .int .i64 b] w fun e w' => e = .returned (.tuple #[.int .i64 0, .int .i64 11]) ∧ w' = w := by
  have d1 : decide (a < 0) = false := by simp; omega
  have d2 : decide (b < 0) = true := by simp; omega
  have S1 := Lib.hid (size_any a ba.1 ba.2)
  have S2 := Lib.hid (size_any b bb.1 bb.2)
  have M := Lib.hid (Try.bits_Mul64 a.natAbs b.natAbs (by omega) (by omega))
  rw [hh, hl] at M
  generalize a.natAbs = x at *
  generalize b.natAbs = y at *
  clear hh hl
  clear ba bb
  by_cases h1 : 0 < h
  · have h2 : (0 : Int) < (h : Int) := by omega
    clear hov h1
    go_enter Try.func26, Try.ntmps26
    go_wp2_with fail
    refine (S1.out _).mono ?_
    rintro e w1 ⟨rfl, rfl⟩
    go_wp2_with fail
    refine (S2.out _).mono ?_
    rintro e w1 ⟨rfl, rfl⟩
    go_wp2_with fail
    refine (M.out _).mono ?_
    rintro e w' ⟨rfl, rfl⟩
    go_wp2_with fail
    go_ret2
    exact ⟨rfl, rfl⟩
  · have h2 : h = 0 := by omega
    subst h2
    have h3 : (9223372036854775808 : Int) < (l : Int) := by omega
    clear hov h1
    go_enter Try.func26, Try.ntmps26
    go_wp2_with fail
    refine (S1.out _).mono ?_
    rintro e w1 ⟨rfl, rfl⟩
    go_wp2_with fail
    refine (S2.out _).mono ?_
    rintro e w1 ⟨rfl, rfl⟩
    go_wp2_with fail
    refine (M.out _).mono ?_
    rintro e w' ⟨rfl, rfl⟩
    go_wp2_with fail
    go_ret2
    exact ⟨rfl, rfl⟩
set_option maxHeartbeats 800000 in
theorem mul_fit01 (a b : Int) (ba : -9223372036854775808 ≤ a ∧ a ≤ 9223372036854775807) (bb : -9223372036854775808 ≤ b ∧ b ≤ 9223372036854775807) (ha : 0 ≤ a) (hb : b < 0) (h l : Nat) (hh : a.natAbs * b.natAbs / 18446744073709551616 = h) (hl : a.natAbs * b.natAbs % 18446744073709551616 = l) (h0 : h = 0) (hov : l ≤ 9223372036854775808) (w : World) :
    Calls Try.prog 26 #[.int .i64 a, .int .i64 b] w fun e w' => e = .returned (.tuple #[.int .i64 (-(l : Int)), .int .i64 0]) ∧ w' = w := by
  subst h0
  have d1 : decide (a < 0) = false := by simp; omega
  have d2 : decide (b < 0) = true := by simp; omega
  have S1 := Lib.hid (size_any a ba.1 ba.2)
  have S2 := Lib.hid (size_any b bb.1 bb.2)
  have M := Lib.hid (Try.bits_Mul64 a.natAbs b.natAbs (by omega) (by omega))
  rw [hh, hl] at M
  generalize a.natAbs = x at *
  generalize b.natAbs = y at *
  clear hh hl
  clear ba bb
  have e1 : IntKind.i64.wrap (IntKind.u64.wrap (-(l : Int))) = -(l : Int) := by rw [IntKind.wrap_u64, IntKind.wrap_i64]; omega
  have h3 : (l : Int) ≤ 9223372036854775808 := by omega
  clear hov
  go_enter Try.func26, Try.ntmps26
  go_wp2_with fail
  refine (S1.out _).mono ?_
  rintro e w1 ⟨rfl, rfl⟩
  go_wp2_with fail
  refine (S2.out _).mono ?_
  rintro e w1 ⟨rfl, rfl⟩
  go_wp2_with fail
  refine (M.out _).mono ?_
  rintro e w' ⟨rfl, rfl⟩
  go_wp2_with fail
  go_ret2
  exact ⟨rfl, rfl⟩
set_option maxHeartbeats 800000 in
theorem mul_over10 (a b : Int) (ba : -9223372036854775808 ≤ a ∧ a ≤ 9223372036854775807) (bb : -9223372036854775808 ≤ b ∧ b ≤ 9223372036854775807) (ha : a < 0) (hb : 0 ≤ b) (h l : Nat) (hh : a.natAbs * b.natAbs / 18446744073709551616 = h) (hl : a.natAbs * b.natAbs % 18446744073709551616 = l) (hov : 0 < h ∨ 9223372036854775808 < l) (w : World) :
    Calls Try.prog 26 #[.int .i64 a, .int .i64 b] w fun e w' => e = .returned (.tuple #[.int .i64 0, .int .i64 11]) ∧ w' = w := by
  have d1 : decide (a < 0) = true := by simp; omega
  have d2 : decide (b < 0) = false := by simp; omega
  have S1 := Lib.hid (size_any a ba.1 ba.2)
  have S2 := Lib.hid (size_any b bb.1 bb.2)
  have M := Lib.hid (Try.bits_Mul64 a.natAbs b.natAbs (by omega) (by omega))
  rw [hh, hl] at M
  generalize a.natAbs = x at *
  generalize b.natAbs = y at *
  clear hh hl
  clear ba bb
  by_cases h1 : 0 < h
  · have h2 : (0 : Int) < (h : Int) := by omega
    clear hov h1
    go_enter Try.func26, Try.ntmps26
    go_wp2_with fail
    refine (S1.out _).mono ?_
    rintro e w1 ⟨rfl, rfl⟩
    go_wp2_with fail
    refine (S2.out _).mono ?_
    rintro e w1 ⟨rfl, rfl⟩
    go_wp2_with fail
    refine (M.out _).mono ?_
    rintro e w' ⟨rfl, rfl⟩
    go_wp2_with fail
    go_ret2
    exact ⟨rfl, rfl⟩
  · have h2 : h = 0 := by omega
    subst h2
    have h3 : (9223372036854775808 : Int) < (l : Int) := by omega
    clear hov h1
    go_enter Try.func26, Try.ntmps26
    go_wp2_with fail
    refine (S1.out _).mono ?_
    rintro e w1 ⟨rfl, rfl⟩
    go_wp2_with fail
    refine (S2.out _).mono ?_
    rintro e w1 ⟨rfl, rfl⟩
    go_wp2_with fail
    refine (M.out _).mono ?_
    rintro e w' ⟨rfl, rfl⟩
    go_wp2_with fail
    go_ret2
    exact ⟨rfl, rfl⟩
set_option maxHeartbeats 800000 in
theorem mul_fit10 (a b : Int) (ba : -9223372036854775808 ≤ a ∧ a ≤ 9223372036854775807) (bb : -9223372036854775808 ≤ b ∧ b ≤ 9223372036854775807) (ha : a < 0) (hb : 0 ≤ b) (h l : Nat) (hh : a.natAbs * b.natAbs / 18446744073709551616 = h) (hl : a.natAbs * b.natAbs % 18446744073709551616 = l) (h0 : h = 0) (hov : l ≤ 9223372036854775808) (w : World) :
    Calls Try.prog 26 #[.int .i64 a, .int .i64 b] w fun e w' => e = .returned (.tuple #[.int .i64 (-(l : Int)), .int .i64 0]) ∧ w' = w := by
  subst h0
  have d1 : decide (a < 0) = true := by simp; omega
  have d2 : decide (b < 0) = false := by simp; omega
  have S1 := Lib.hid (size_any a ba.1 ba.2)
  have S2 := Lib.hid (size_any b bb.1 bb.2)
  have M := Lib.hid (Try.bits_Mul64 a.natAbs b.natAbs (by omega) (by omega))
  rw [hh, hl] at M
  generalize a.natAbs = x at *
  generalize b.natAbs = y at *
  clear hh hl
  clear ba bb
  have e1 : IntKind.i64.wrap (IntKind.u64.wrap (-(l : Int))) = -(l : Int) := by rw [IntKind.wrap_u64, IntKind.wrap_i64]; omega
  have h3 : (l : Int) ≤ 9223372036854775808 := by omega
  clear hov
  go_enter Try.func26, Try.ntmps26
  go_wp2_with fail
  refine (S1.out _).mono ?_
  rintro e w1 ⟨rfl, rfl⟩
  go_wp2_with fail
  refine (S2.out _).mono ?_
  rintro e w1 ⟨rfl, rfl⟩
  go_wp2_with fail
  refine (M.out _).mono ?_
  rintro e w' ⟨rfl, rfl⟩
  go_wp2_with fail
  go_ret2
  exact ⟨rfl, rfl⟩
set_option maxHeartbeats 800000 in
theorem mul_over11 (a b : Int) (ba : -9223372036854775808 ≤ a ∧ a ≤ 9223372036854775807) (bb : -9223372036854775808 ≤ b ∧ b ≤ 9223372036854775807) (ha : a < 0) (hb : b < 0) (h l : Nat) (hh : a.natAbs * b.natAbs / 18446744073709551616 = h) (hl : a.natAbs * b.natAbs % 18446744073709551616 = l) (hov : 0 < h ∨ 9223372036854775807 < l) (w : World) :
    Calls Try.prog 26 #[.int .i64 a, .int .i64 b] w fun e w' => e = .returned (.tuple #[.int .i64 0, .int .i64 11]) ∧ w' = w := by
  have d1 : decide (a < 0) = true := by simp; omega
  have d2 : decide (b < 0) = true := by simp; omega
  have S1 := Lib.hid (size_any a ba.1 ba.2)
  have S2 := Lib.hid (size_any b bb.1 bb.2)
  have M := Lib.hid (Try.bits_Mul64 a.natAbs b.natAbs (by omega) (by omega))
  rw [hh, hl] at M
  generalize a.natAbs = x at *
  generalize b.natAbs = y at *
  clear hh hl
  clear ba bb
  by_cases h1 : 0 < h
  · have h2 : (0 : Int) < (h : Int) := by omega
    clear hov h1
    go_enter Try.func26, Try.ntmps26
    go_wp2_with fail
    refine (S1.out _).mono ?_
    rintro e w1 ⟨rfl, rfl⟩
    go_wp2_with fail
    refine (S2.out _).mono ?_
    rintro e w1 ⟨rfl, rfl⟩
    go_wp2_with fail
    refine (M.out _).mono ?_
    rintro e w' ⟨rfl, rfl⟩
    go_wp2_with fail
    go_ret2
    exact ⟨rfl, rfl⟩
  · have h2 : h = 0 := by omega
    subst h2
    have h3 : (9223372036854775807 : Int) < (l : Int) := by omega
    clear hov h1
    go_enter Try.func26, Try.ntmps26
    go_wp2_with fail
    refine (S1.out _).mono ?_
    rintro e w1 ⟨rfl, rfl⟩
    go_wp2_with fail
    refine (S2.out _).mono ?_
    rintro e w1 ⟨rfl, rfl⟩
    go_wp2_with fail
    refine (M.out _).mono ?_
    rintro e w' ⟨rfl, rfl⟩
    go_wp2_with fail
    go_ret2
    exact ⟨rfl, rfl⟩
set_option maxHeartbeats 800000 in
theorem mul_fit11 (a b : Int) (ba : -9223372036854775808 ≤ a ∧ a ≤ 9223372036854775807) (bb : -9223372036854775808 ≤ b ∧ b ≤ 9223372036854775807) (ha : a < 0) (hb : b < 0) (h l : Nat) (hh : a.natAbs * b.natAbs / 18446744073709551616 = h) (hl : a.natAbs * b.natAbs % 18446744073709551616 = l) (h0 : h = 0) (hov : l ≤ 9223372036854775807) (w : World) :
    Calls Try.prog 26 #[.int .i64 a, .int .i64 b] w fun e w' => e = .returned (.tuple #[.int .i64 ((l : Int)), .int .i64 0]) ∧ w' = w := by
  subst h0
  have d1 : decide (a < 0) = true := by simp; omega
  have d2 : decide (b < 0) = true := by simp; omega
  have S1 := Lib.hid (size_any a ba.1 ba.2)
  have S2 := Lib.hid (size_any b bb.1 bb.2)
  have M := Lib.hid (Try.bits_Mul64 a.natAbs b.natAbs (by omega) (by omega))
  rw [hh, hl] at M
  generalize a.natAbs = x at *
  generalize b.natAbs = y at *
  clear hh hl
  clear ba bb
  have e1 : IntKind.i64.wrap (l : Int) = (l : Int) := by rw [IntKind.wrap_i64]; omega
  have h3 : (l : Int) ≤ 9223372036854775807 := by omega
  clear hov
  go_enter Try.func26, Try.ntmps26
  go_wp2_with fail
  refine (S1.out _).mono ?_
  rintro e w1 ⟨rfl, rfl⟩
  go_wp2_with fail
  refine (S2.out _).mono ?_
  rintro e w1 ⟨rfl, rfl⟩
  go_wp2_with fail
  refine (M.out _).mono ?_
  rintro e w' ⟨rfl, rfl⟩
  go_wp2_with fail
  go_ret2
  exact ⟨rfl, rfl⟩

/-- The product, if it fits, or 0. -/
def mulNum (a b : Int) : Int := if -9223372036854775808 ≤ a * b ∧ a * b ≤ 9223372036854775807 then a * b else 0
/-- What is wrong, or 0. -/
def mulErr (a b : Int) : Int := if -9223372036854775808 ≤ a * b ∧ a * b ≤ 9223372036854775807 then 0 else 11
theorem mulRes_fit {a b : Int} (h : -9223372036854775808 ≤ a * b ∧ a * b ≤ 9223372036854775807) : mulNum a b = a * b ∧ mulErr a b = 0 := by unfold mulNum mulErr; rw [if_pos h, if_pos h]; exact ⟨rfl, rfl⟩
theorem mulRes_over {a b : Int} (h : ¬ (-9223372036854775808 ≤ a * b ∧ a * b ≤ 9223372036854775807)) : mulNum a b = 0 ∧ mulErr a b = 11 := by unfold mulNum mulErr; rw [if_neg h, if_neg h]; exact ⟨rfl, rfl⟩

theorem mul_any (a b : Int) (ba : -9223372036854775808 ≤ a ∧ a ≤ 9223372036854775807) (bb : -9223372036854775808 ≤ b ∧ b ≤ 9223372036854775807) (w : World) :
    Calls Try.prog 26 #[.int .i64 a, .int .i64 b] w fun e w' => e = .returned (.tuple #[.int .i64 (mulNum a b), .int .i64 (mulErr a b)]) ∧ w' = w := by
  have hd := Nat.div_add_mod (a.natAbs * b.natAbs) 18446744073709551616
  have hm := Nat.mod_lt (a.natAbs * b.natAbs) (show 0 < 18446744073709551616 by omega)
  have hp : (a * b).natAbs = a.natAbs * b.natAbs := Int.natAbs_mul a b
  obtain ⟨h, hh⟩ : ∃ h, a.natAbs * b.natAbs / 18446744073709551616 = h := ⟨_, rfl⟩
  obtain ⟨l, hl⟩ : ∃ l, a.natAbs * b.natAbs % 18446744073709551616 = l := ⟨_, rfl⟩
  rw [hh, hl, ← hp] at hd
  rw [hl] at hm
  by_cases ha : a < 0
  · by_cases hb : b < 0
    · have hs : 0 ≤ a * b := Int.mul_nonneg_of_nonpos_of_nonpos (by omega) (by omega)
      by_cases hf : -9223372036854775808 ≤ a * b ∧ a * b ≤ 9223372036854775807
      · have e : a * b = (l : Int) := by omega
        rw [(mulRes_fit hf).1, (mulRes_fit hf).2, e]
        exact mul_fit11 a b ba bb ha hb h l hh hl (by omega) (by omega) w
      · rw [(mulRes_over hf).1, (mulRes_over hf).2]
        exact mul_over11 a b ba bb ha hb h l hh hl (by omega) w
    · have hs : a * b ≤ 0 := Int.mul_nonpos_of_nonpos_of_nonneg (by omega) (by omega)
      by_cases hf : -9223372036854775808 ≤ a * b ∧ a * b ≤ 9223372036854775807
      · have e : a * b = -(l : Int) := by omega
        rw [(mulRes_fit hf).1, (mulRes_fit hf).2, e]
        exact mul_fit10 a b ba bb ha (by omega) h l hh hl (by omega) (by omega) w
      · rw [(mulRes_over hf).1, (mulRes_over hf).2]
        exact mul_over10 a b ba bb ha (by omega) h l hh hl (by omega) w
  · by_cases hb : b < 0
    · have hs : a * b ≤ 0 := Int.mul_nonpos_of_nonneg_of_nonpos (by omega) (by omega)
      by_cases hf : -9223372036854775808 ≤ a * b ∧ a * b ≤ 9223372036854775807
      · have e : a * b = -(l : Int) := by omega
        rw [(mulRes_fit hf).1, (mulRes_fit hf).2, e]
        exact mul_fit01 a b ba bb (by omega) hb h l hh hl (by omega) (by omega) w
      · rw [(mulRes_over hf).1, (mulRes_over hf).2]
        exact mul_over01 a b ba bb (by omega) hb h l hh hl (by omega) w
    · have hs : 0 ≤ a * b := Int.mul_nonneg (by omega) (by omega)
      by_cases hf : -9223372036854775808 ≤ a * b ∧ a * b ≤ 9223372036854775807
      · have e : a * b = (l : Int) := by omega
        rw [(mulRes_fit hf).1, (mulRes_fit hf).2, e]
        exact mul_fit00 a b ba bb (by omega) (by omega) h l hh hl (by omega) (by omega) w
      · rw [(mulRes_over hf).1, (mulRes_over hf).2]
        exact mul_over00 a b ba bb (by omega) (by omega) h l hh hl (by omega) w
end Go.Proofs.Ytoagdaenbanhlaa
