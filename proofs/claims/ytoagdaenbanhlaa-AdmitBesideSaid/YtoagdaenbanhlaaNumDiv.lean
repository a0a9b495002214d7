/- What num.Product and num.Div answer. Each theorem's premises are its conditions. -/
import Derived.Test.YtoagdaenbanhlaaDiv64
namespace Go.Proofs.Ytoagdaenbanhlaa
open Go.RowKit

/-- A call that gives v, and turns nothing that was there. -/
def Gives (v : Value) (w : World) (e : Ending) (w' : World) : Prop := e = .returned v ∧ Below w.heap.size w w'

theorem below_drewN {w : World} (n : Nat) : Below w.heap.size w (w.drewN n) := ⟨rfl, rfl, rfl, Nat.le_refl _, fun _ _ => rfl⟩

/-- The quotient, rounded down or up. -/
def quot (up : Bool) (n c : Nat) : Nat := if up = true ∧ 0 < n % c then n / c + 1 else n / c

theorem div64_any (hi lo y : Nat) (hy : hi < y) (hy' : y < 18446744073709551616) (hl : lo < 18446744073709551616) (w : World) :
    Calls Try.prog 45 #[.int .u64 hi, .int .u64 lo, .int .u64 y] w (Gives (.tuple #[.int .u64 (((hi * 18446744073709551616 + lo) / y : Nat) : Int), .int .u64 (((hi * 18446744073709551616 + lo) % y : Nat) : Int)]) w) := by
  by_cases h : hi = 0
  · subst h
    refine (Div64.low lo y hy hy' hl w).mono fun e w' h => ?_
    obtain ⟨rfl, n, rfl⟩ := h
    exact ⟨by rw [Nat.zero_mul, Nat.zero_add], below_drewN n⟩
  · refine (Div64.high hi lo y (by omega) hy hy' hl w).mono fun e w' h => ?_
    obtain ⟨rfl, rfl⟩ := h
    exact ⟨rfl, Below.refl _ _⟩

def wideBox (h l : Int) : Obj := .cells #[.int .u64 h, .int .u64 l] 77

set_option maxHeartbeats 400000 in
theorem product_ok (a b : Int) (ha : 0 ≤ a) (hb : 0 ≤ b) (ha' : a ≤ 9223372036854775807) (hb' : b ≤ 9223372036854775807) (w : World) :
    Calls Try.prog 44 #[.int .i64 a, .int .i64 b] w fun e w' =>
      e = .returned (.tuple #[.agg #[.int .u64 ((a.toNat * b.toNat / 18446744073709551616 : Nat) : Int), .int .u64 ((a.toNat * b.toNat % 18446744073709551616 : Nat) : Int)], .int .i64 0]) ∧
      w' = w.alloc (wideBox ((a.toNat * b.toNat / 18446744073709551616 : Nat) : Int) ((a.toNat * b.toNat % 18446744073709551616 : Nat) : Int)) := by
  obtain ⟨x, rfl⟩ := Int.eq_ofNat_of_zero_le ha
  obtain ⟨y, rfl⟩ := Int.eq_ofNat_of_zero_le hb
  simp only [Int.toNat_natCast]
  have hM := Lib.hid (Try.bits_Mul64 x y (by omega) (by omega))
  generalize x * y / 18446744073709551616 = h at *
  generalize x * y % 18446744073709551616 = l at *
  have e1 : IntKind.u64.wrap (x : Int) = (x : Int) := Div64.wrapM _ _ (Nat.mod_eq_of_lt (by omega))
  have e2 : IntKind.u64.wrap (y : Int) = (y : Int) := Div64.wrapM _ _ (Nat.mod_eq_of_lt (by omega))
  unfold wideBox
  go_enter Try.func44, Try.ntmps44
  go_wp2_with (go_at_call 36; refine (hM.out _).mono ?_; rintro e w' ⟨rfl, rfl⟩)
  exact bodyPost_ret (v := .tuple #[.agg #[.int .u64 h, .int .u64 l], .int .i64 0]) (by simp [results, Try.results44, go_sem]) rfl ⟨rfl, rfl⟩

set_option maxHeartbeats 400000 in
theorem product_bad (a b : Int) (h : a < 0 ∨ b < 0) (w : World) :
    Calls Try.prog 44 #[.int .i64 a, .int .i64 b] w fun e w' => e = .returned (.tuple #[.agg #[.int .u64 0, .int .u64 0], .int .i64 10]) ∧ w' = w.alloc (wideBox 0 0) := by
  unfold wideBox
  by_cases h1 : a < 0
  · clear h
    go_enter Try.func44, Try.ntmps44
    go_wp2
    exact bodyPost_ret (v := .tuple #[.agg #[.int .u64 0, .int .u64 0], .int .i64 10]) (by simp [results, Try.results44, go_sem]) rfl ⟨rfl, rfl⟩
  · have h2 : b < 0 := by omega
    clear h
    go_enter Try.func44, Try.ntmps44
    go_wp2
    exact bodyPost_ret (v := .tuple #[.agg #[.int .u64 0, .int .u64 0], .int .i64 10]) (by simp [results, Try.results44, go_sem]) rfl ⟨rfl, rfl⟩

set_option maxHeartbeats 400000 in
theorem div_range (a b c : Int) (up : Bool) (h : a < 0 ∨ b < 0 ∨ c < 0) (ha' : a ≤ 9223372036854775807) (hb' : b ≤ 9223372036854775807) (w : World) :
    Calls Try.prog 43 #[.int .i64 a, .int .i64 b, .int .i64 c, .bool up] w (Gives (.tuple #[.int .i64 0, .int .i64 10]) w) := by
  by_cases h1 : a < 0 ∨ b < 0
  · have H := Lib.hid h1
    clear h h1
    go_enter Try.func43, Try.ntmps43
    go_wp2_with (go_at_call 44; refine (product_bad _ _ H.out _).mono ?_; rintro e w' ⟨rfl, rfl⟩; unfold wideBox)
    go_ret2
    refine ⟨rfl, ?_⟩
    repeat (with_reducible refine bel_alloc ?_)
    with_reducible exact Below.refl _ _
  · have h2 : 0 ≤ a := by omega
    have h3 : 0 ≤ b := by omega
    have h4 : c < 0 := by omega
    clear h h1
    go_enter Try.func43, Try.ntmps43
    go_wp2_with (go_at_call 44; refine (product_ok _ _ h2 h3 ha' hb' _).mono ?_; rintro e w' ⟨rfl, rfl⟩; unfold wideBox)
    go_ret2
    refine ⟨rfl, ?_⟩
    repeat (with_reducible refine bel_alloc ?_)
    with_reducible exact Below.refl _ _

set_option maxHeartbeats 400000 in
theorem div_zero (a b : Int) (up : Bool) (h2 : 0 ≤ a) (h3 : 0 ≤ b) (ha' : a ≤ 9223372036854775807) (hb' : b ≤ 9223372036854775807) (w : World) :
    Calls Try.prog 43 #[.int .i64 a, .int .i64 b, .int .i64 0, .bool up] w (Gives (.tuple #[.int .i64 0, .int .i64 12]) w) := by
  go_enter Try.func43, Try.ntmps43
  go_wp2_with (go_at_call 44; refine (product_ok _ _ h2 h3 ha' hb' _).mono ?_; rintro e w' ⟨rfl, rfl⟩; unfold wideBox)
  go_ret2
  refine ⟨rfl, ?_⟩
  repeat (with_reducible refine bel_alloc ?_)
  with_reducible exact Below.refl _ _

end Go.Proofs.Ytoagdaenbanhlaa
