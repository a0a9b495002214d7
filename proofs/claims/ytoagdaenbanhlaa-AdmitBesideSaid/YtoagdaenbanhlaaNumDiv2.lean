/- What num.Div answers where the numbers may be divided. Each theorem's premises are its conditions. -/
import Derived.Test.YtoagdaenbanhlaaNumDiv
namespace Go.Proofs.Ytoagdaenbanhlaa
open Go.RowKit

theorem quot_low (n c : Nat) : quot false n c = n / c := by unfold quot; simp
theorem quot_up (n c : Nat) (h : 0 < n % c) : quot true n c = n / c + 1 := by unfold quot; simp [h]
theorem quot_even (up : Bool) (n c : Nat) (h : n % c = 0) : quot up n c = n / c := by unfold quot; rw [if_neg (by omega)]

theorem high_over' {n c K : Nat} (hK : 0 < K) (hc : 0 < c) (h : c ≤ n / K) : K ≤ n / c := by
  rw [Nat.le_div_iff_mul_le hc]
  rw [Nat.le_div_iff_mul_le hK] at h
  rw [Nat.mul_comm]; exact h
theorem low_fits' {n c K : Nat} (hK : 0 < K) (h : n / K < c) : n / c < K := by
  have hc : 0 < c := Nat.lt_of_le_of_lt (Nat.zero_le _) h
  rw [Nat.div_lt_iff_lt_mul hc]
  rw [Nat.div_lt_iff_lt_mul hK] at h
  rw [Nat.mul_comm]; exact h
theorem high_over {n c : Nat} (hc : 0 < c) (h : c ≤ n / 18446744073709551616) : 18446744073709551616 ≤ n / c := high_over' (by omega) hc h
theorem low_fits {n c : Nat} (h : n / 18446744073709551616 < c) : n / c < 18446744073709551616 := low_fits' (by omega) h

set_option maxRecDepth 100000 in
set_option maxHeartbeats 800000 in
/-- the walk, with all numbers under names: n what is left, r the rest. -/
theorem div_walk (x y c h l n r : Nat) (up : Bool) (hx : (x : Int) ≤ 9223372036854775807) (hy : (y : Int) ≤ 9223372036854775807) (hc : 0 < c) (hc' : (c : Int) ≤ 9223372036854775807)
    (hh : Hid (x * y / 18446744073709551616 = h)) (hl : Hid (x * y % 18446744073709551616 = l)) (hll : l < 18446744073709551616)
    (hn : Hid (h < c → (h * 18446744073709551616 + l) / c = n ∧ (h * 18446744073709551616 + l) % c = r)) (hnl : n < 18446744073709551616) (q e : Int)
    (hq : Hid ((c ≤ h ∧ q = 0 ∧ e = 11) ∨ (h < c ∧ (9223372036854775807 : Int) < n ∧ q = 0 ∧ e = 11) ∨ (h < c ∧ n = 9223372036854775807 ∧ up = true ∧ 0 < r ∧ q = 0 ∧ e = 11) ∨ (h < c ∧ (n : Int) ≤ 9223372036854775806 ∧ up = true ∧ 0 < r ∧ q = n + 1 ∧ e = 0) ∨
      (h < c ∧ (n : Int) ≤ 9223372036854775807 ∧ up = true ∧ r = 0 ∧ q = n ∧ e = 0) ∨ (h < c ∧ (n : Int) ≤ 9223372036854775807 ∧ up = false ∧ q = n ∧ e = 0))) (w : World) :
    Calls Try.prog 43 #[.int .i64 x, .int .i64 y, .int .i64 c, .bool up] w (Gives (.tuple #[.int .i64 q, .int .i64 e]) w) := by
  have P1 := Lib.hid (fun w => product_ok (x : Int) (y : Int) (by omega) (by omega) (by omega) (by omega) w)
  simp only [Int.toNat_natCast] at P1
  rw [hh.out, hl.out] at P1
  have e1 : IntKind.u64.wrap (c : Int) = (c : Int) := Div64.wrapM _ _ (Nat.mod_eq_of_lt (by omega))
  have e2 : ((c : Int) == 0) = false := by simp; omega
  have D : Hid (h < c → ∀ w, Calls Try.prog 45 #[.int .u64 h, .int .u64 l, .int .u64 c] w (Gives (.tuple #[.int .u64 n, .int .u64 r]) w)) := by
    intro hlt w
    have := div64_any h l c hlt (by omega) (by omega) w
    obtain ⟨a1, a2⟩ := hn.out hlt
    rw [a1, a2] at this
    exact this
  clear hn hh hl
  have hq' := hq.out
  clear hq
  rcases hq' with ⟨h1, rfl, rfl⟩ | ⟨h1, h2, rfl, rfl⟩ | ⟨h1, rfl, rfl, h2, rfl, rfl⟩ | ⟨h1, h3, rfl, h2, rfl, rfl⟩ | ⟨h1, h3, rfl, rfl, rfl, rfl⟩ | ⟨h1, h3, rfl, rfl, rfl⟩
  · have h1' : (c : Int) ≤ (h : Int) := by omega
    go_enter Try.func43, Try.ntmps43
    go_wp2_with (go_at_call 44; refine (P1.out _).mono ?_; rintro e w' ⟨rfl, rfl⟩; unfold wideBox)
    go_ret2
    refine ⟨rfl, ?_⟩
    repeat (with_reducible refine bel_alloc ?_)
    with_reducible exact Below.refl _ _
  all_goals
    have D1 := Lib.hid (D.out h1)
    have h1' : ¬ (c : Int) ≤ (h : Int) := by omega
  · go_enter Try.func43, Try.ntmps43
    go_wp2_with (first | (go_at_call 44; refine (P1.out _).mono ?_; rintro e w' ⟨rfl, rfl⟩; unfold wideBox) | (go_at_call 45; refine (D1.out _).mono ?_; rintro e w' ⟨rfl, hb⟩))
    go_ret2
    refine ⟨rfl, bel_end ?_ hb⟩
    repeat (with_reducible refine bel_alloc ?_)
    with_reducible exact Below.refl _ _
  · have h2' : (0 : Int) < (r : Int) := by omega
    go_enter Try.func43, Try.ntmps43
    go_wp2_with (first | (go_at_call 44; refine (P1.out _).mono ?_; rintro e w' ⟨rfl, rfl⟩; unfold wideBox) | (go_at_call 45; refine (D1.out _).mono ?_; rintro e w' ⟨rfl, hb⟩))
    go_ret2
    refine ⟨rfl, bel_end ?_ hb⟩
    repeat (with_reducible refine bel_alloc ?_)
    with_reducible exact Below.refl _ _
  · have h2' : (0 : Int) < (r : Int) := by omega
    have h3' : ((n : Int) == 9223372036854775807) = false := by simp; omega
    have h3'' : ¬ (9223372036854775807 : Int) < (n : Int) := by omega
    have e3 : IntKind.i64.wrap ((n : Int) + 1) = (n : Int) + 1 := by rw [IntKind.wrap_i64]; omega
    go_enter Try.func43, Try.ntmps43
    go_wp2_with (first | (go_at_call 44; refine (P1.out _).mono ?_; rintro e w' ⟨rfl, rfl⟩; unfold wideBox) | (go_at_call 45; refine (D1.out _).mono ?_; rintro e w' ⟨rfl, hb⟩))
    go_ret2
    refine ⟨rfl, bel_end ?_ hb⟩
    repeat (with_reducible refine bel_alloc ?_)
    with_reducible exact Below.refl _ _
  · by_cases h4 : n = 9223372036854775807
    · subst h4
      go_enter Try.func43, Try.ntmps43
      go_wp2_with (first | (go_at_call 44; refine (P1.out _).mono ?_; rintro e w' ⟨rfl, rfl⟩; unfold wideBox) | (go_at_call 45; refine (D1.out _).mono ?_; rintro e w' ⟨rfl, hb⟩))
      go_ret2
      refine ⟨rfl, bel_end ?_ hb⟩
      repeat (with_reducible refine bel_alloc ?_)
      with_reducible exact Below.refl _ _
    · have h3'' : ¬ (9223372036854775807 : Int) < (n : Int) := by omega
      have h3' : ((n : Int) == 9223372036854775807) = false := by simp; omega
      have e3 : IntKind.i64.wrap (n : Int) = (n : Int) := by rw [IntKind.wrap_i64]; omega
      clear h4
      go_enter Try.func43, Try.ntmps43
      go_wp2_with (first | (go_at_call 44; refine (P1.out _).mono ?_; rintro e w' ⟨rfl, rfl⟩; unfold wideBox) | (go_at_call 45; refine (D1.out _).mono ?_; rintro e w' ⟨rfl, hb⟩))
      go_ret2
      refine ⟨rfl, bel_end ?_ hb⟩
      repeat (with_reducible refine bel_alloc ?_)
      with_reducible exact Below.refl _ _
  · by_cases h4 : n = 9223372036854775807
    · subst h4
      go_enter Try.func43, Try.ntmps43
      go_wp2_with (first | (go_at_call 44; refine (P1.out _).mono ?_; rintro e w' ⟨rfl, rfl⟩; unfold wideBox) | (go_at_call 45; refine (D1.out _).mono ?_; rintro e w' ⟨rfl, hb⟩))
      go_ret2
      refine ⟨rfl, bel_end ?_ hb⟩
      repeat (with_reducible refine bel_alloc ?_)
      with_reducible exact Below.refl _ _
    · have h3'' : ¬ (9223372036854775807 : Int) < (n : Int) := by omega
      have h3' : ((n : Int) == 9223372036854775807) = false := by simp; omega
      have e3 : IntKind.i64.wrap (n : Int) = (n : Int) := by rw [IntKind.wrap_i64]; omega
      clear h4
      go_enter Try.func43, Try.ntmps43
      go_wp2_with (first | (go_at_call 44; refine (P1.out _).mono ?_; rintro e w' ⟨rfl, rfl⟩; unfold wideBox) | (go_at_call 45; refine (D1.out _).mono ?_; rintro e w' ⟨rfl, hb⟩))
      go_ret2
      refine ⟨rfl, bel_end ?_ hb⟩
      repeat (with_reducible refine bel_alloc ?_)
      with_reducible exact Below.refl _ _
theorem quot_le (up : Bool) (n c : Nat) : n / c ≤ quot up n c ∧ quot up n c ≤ n / c + 1 := by unfold quot; split <;> omega

theorem div_rest {x y : Nat} : x * y / 18446744073709551616 * 18446744073709551616 + x * y % 18446744073709551616 = x * y := Nat.div_add_mod' _ _

/-- WHAT num.Div ANSWERS: the quotient, if it fits. -/
theorem div_ok (a b c : Int) (up : Bool) (ha : 0 ≤ a) (hb : 0 ≤ b) (hc : 1 ≤ c) (ha' : a ≤ 9223372036854775807) (hb' : b ≤ 9223372036854775807) (hc' : c ≤ 9223372036854775807)
    (h : quot up (a.toNat * b.toNat) c.toNat ≤ 9223372036854775807) (w : World) :
    Calls Try.prog 43 #[.int .i64 a, .int .i64 b, .int .i64 c, .bool up] w (Gives (.tuple #[.int .i64 ((quot up (a.toNat * b.toNat) c.toNat : Nat) : Int), .int .i64 0]) w) := by
  obtain ⟨x, rfl⟩ := Int.eq_ofNat_of_zero_le ha
  obtain ⟨y, rfl⟩ := Int.eq_ofNat_of_zero_le hb
  obtain ⟨z, rfl⟩ := Int.eq_ofNat_of_zero_le (show 0 ≤ c by omega)
  simp only [Int.toNat_natCast] at *
  have hq := quot_le up (x * y) z
  have hlt : x * y / 18446744073709551616 < z := by
    rcases Nat.lt_or_ge (x * y / 18446744073709551616) z with h1 | h1
    · exact h1
    · have := high_over (by omega) h1; omega
  have hn := low_fits hlt
  refine div_walk x y z _ _ (x * y / z) (x * y % z) up ha' hb' (by omega) hc' rfl rfl (Nat.mod_lt _ (by omega)) (fun _ => by rw [div_rest]; exact ⟨rfl, rfl⟩) hn _ _ ?_ w
  show _ ∨ _
  cases up with
  | false => rw [quot_low] at *; exact .inr (.inr (.inr (.inr (.inr ⟨hlt, by omega, rfl, rfl, rfl⟩))))
  | true =>
    rcases Nat.eq_zero_or_pos (x * y % z) with h0 | h0
    · rw [quot_even _ _ _ h0] at *; exact .inr (.inr (.inr (.inr (.inl ⟨hlt, by omega, rfl, h0, rfl, rfl⟩))))
    · rw [quot_up _ _ h0] at *; exact .inr (.inr (.inr (.inl ⟨hlt, by omega, rfl, h0, by omega, rfl⟩)))

/-- .. or that it does not fit. -/
theorem div_over (a b c : Int) (up : Bool) (ha : 0 ≤ a) (hb : 0 ≤ b) (hc : 1 ≤ c) (ha' : a ≤ 9223372036854775807) (hb' : b ≤ 9223372036854775807) (hc' : c ≤ 9223372036854775807)
    (h : 9223372036854775807 < quot up (a.toNat * b.toNat) c.toNat) (w : World) :
    Calls Try.prog 43 #[.int .i64 a, .int .i64 b, .int .i64 c, .bool up] w (Gives (.tuple #[.int .i64 0, .int .i64 11]) w) := by
  obtain ⟨x, rfl⟩ := Int.eq_ofNat_of_zero_le ha
  obtain ⟨y, rfl⟩ := Int.eq_ofNat_of_zero_le hb
  obtain ⟨z, rfl⟩ := Int.eq_ofNat_of_zero_le (show 0 ≤ c by omega)
  simp only [Int.toNat_natCast] at *
  rcases Nat.lt_or_ge (x * y / 18446744073709551616) z with hlt | hlt
  · have hn := low_fits hlt
    refine div_walk x y z _ _ (x * y / z) (x * y % z) up ha' hb' (by omega) hc' rfl rfl (Nat.mod_lt _ (by omega)) (fun _ => by rw [div_rest]; exact ⟨rfl, rfl⟩) hn _ _ ?_ w
    show _ ∨ _
    cases up with
    | false => rw [quot_low] at *; exact .inr (.inl ⟨hlt, by omega, rfl, rfl⟩)
    | true =>
      rcases Nat.eq_zero_or_pos (x * y % z) with h0 | h0
      · rw [quot_even _ _ _ h0] at *; exact .inr (.inl ⟨hlt, by omega, rfl, rfl⟩)
      · rw [quot_up _ _ h0] at *
        by_cases h4 : x * y / z = 9223372036854775807
        · exact .inr (.inr (.inl ⟨hlt, h4, rfl, h0, rfl, rfl⟩))
        · exact .inr (.inl ⟨hlt, by omega, rfl, rfl⟩)
  · refine div_walk x y z _ _ 0 0 up ha' hb' (by omega) hc' rfl rfl (Nat.mod_lt _ (by omega)) (fun h => by omega) (by omega) _ _ ?_ w
    exact .inl ⟨hlt, rfl, rfl⟩

end Go.Proofs.Ytoagdaenbanhlaa
