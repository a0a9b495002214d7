/- What a meter's Until answers. Each theorem's premises are its conditions. -/
import Derived.Test.YtnahedmccbkflaaGrubWalks
import Derived.Test.YtnahedmccbkflaaQuotLaws
import Derived.WalkLawsBesides
import Derived.WalkSpells
import Derived.Outline
namespace Go.Proofs.Ytnahedmccbkflaa
open Go.RowKit

theorem timeE_low {t : Int} (h : t < 0) : timeErr t = 10 := by unfold timeErr; rw [if_pos h]
theorem timeE_high {t : Int} (h : 1099511627776 ≤ t) : timeErr t = 21 := by unfold timeErr; rw [if_neg (by omega), if_pos h]
theorem timeE_ok {t : Int} (h : 0 ≤ t) (h' : t < 1099511627776) : timeErr t = 0 := by unfold timeErr; rw [if_neg (by omega), if_neg (by omega)]

set_option maxHeartbeats 400000 in
theorem till_arg (r left p : Int) (h : r < 0 ∨ 1048575 < r) (w : World) :
    Calls Try.prog 18 #[.agg #[.int .i64 r], .int .i64 left, .int .i64 p] w (Gives (.tuple #[.int .i64 0, .int .i64 1]) w) := by
  unfold Gives
  go_enter Try.func18, Try.ntmps18
  go_wp2_with (go_at_call 23; refine (owed_no _ h _).mono ?_; rintro e w' ⟨rfl, rfl⟩; unfold meterBox)
  go_ret2
  refine ⟨rfl, ?_⟩
  repeat (with_reducible refine bel_alloc ?_)
  with_reducible exact Below.refl _ _
set_option maxHeartbeats 400000 in
theorem till_rate (r left p : Int) (hr : 0 ≤ r) (hr' : r ≤ 1048575) (h : p < 0 ∨ 1048576 < p) (w : World) :
    Calls Try.prog 18 #[.agg #[.int .i64 r], .int .i64 left, .int .i64 p] w (Gives (.tuple #[.int .i64 0, .int .i64 10]) w) := by
  unfold Gives
  have H := Lib.hid h
  clear h
  go_enter Try.func18, Try.ntmps18
  go_wp2_with (first | (go_at_call 23; refine (owed_yes _ hr hr' _).mono ?_; rintro e w' ⟨rfl, rfl⟩; unfold meterBox) | (go_at_call 21; refine (within_out _ _ H.out _).mono ?_; rintro e w' ⟨rfl, rfl⟩))
  go_ret2
  refine ⟨rfl, ?_⟩
  repeat (with_reducible refine bel_alloc ?_)
  with_reducible exact Below.refl _ _
set_option maxHeartbeats 400000 in
theorem till_left (r left p : Int) (hr : 0 ≤ r) (hr' : r ≤ 1048575) (hp : 0 ≤ p) (hp' : p ≤ 1048576) (h : left < 0 ∨ 1073741824 < left) (w : World) :
    Calls Try.prog 18 #[.agg #[.int .i64 r], .int .i64 left, .int .i64 p] w (Gives (.tuple #[.int .i64 0, .int .i64 10]) w) := by
  unfold Gives
  have H := Lib.hid h
  have W1 := Lib.hid (within_in p 1048576 hp hp')
  clear h
  go_enter Try.func18, Try.ntmps18
  go_wp2_with (first | (go_at_call 23; refine (owed_yes _ hr hr' _).mono ?_; rintro e w' ⟨rfl, rfl⟩; unfold meterBox) | (go_at_call 21; with_reducible refine (W1.out _).mono ?_; rintro e w' ⟨rfl, rfl⟩; clear W1) | (go_at_call 21; refine (within_out _ _ H.out _).mono ?_; rintro e w' ⟨rfl, rfl⟩))
  go_ret2
  refine ⟨rfl, ?_⟩
  repeat (with_reducible refine bel_alloc ?_)
  with_reducible exact Below.refl _ _
set_option maxHeartbeats 400000 in
theorem till_none (r p : Int) (hr : 0 ≤ r) (hr' : r ≤ 1048575) (hp : 0 ≤ p) (hp' : p ≤ 1048576) (w : World) :
    Calls Try.prog 18 #[.agg #[.int .i64 r], .int .i64 0, .int .i64 p] w (Gives (.tuple #[.int .i64 0, .int .i64 0]) w) := by
  unfold Gives
  go_enter Try.func18, Try.ntmps18
  go_wp2_with (first | (go_at_call 23; refine (owed_yes _ hr hr' _).mono ?_; rintro e w' ⟨rfl, rfl⟩; unfold meterBox) | (go_at_call 21; refine (within_in _ _ (by omega) (by omega) _).mono ?_; rintro e w' ⟨rfl, rfl⟩))
  go_ret2
  refine ⟨rfl, ?_⟩
  repeat (with_reducible refine bel_alloc ?_)
  with_reducible exact Below.refl _ _
set_option maxHeartbeats 400000 in
theorem till_zero (r left : Int) (hr : 0 ≤ r) (hr' : r ≤ 1048575) (hl : 1 ≤ left) (hl' : left ≤ 1073741824) (w : World) :
    Calls Try.prog 18 #[.agg #[.int .i64 r], .int .i64 left, .int .i64 0] w (Gives (.tuple #[.int .i64 0, .int .i64 12]) w) := by
  unfold Gives
  have l0 : (left == 0) = false := by simp; omega
  go_enter Try.func18, Try.ntmps18
  go_wp2_with (first | (go_at_call 23; refine (owed_yes _ hr hr' _).mono ?_; rintro e w' ⟨rfl, rfl⟩; unfold meterBox) | (go_at_call 21; refine (within_in _ _ (by omega) (by omega) _).mono ?_; rintro e w' ⟨rfl, rfl⟩))
  go_ret2
  refine ⟨rfl, ?_⟩
  repeat (with_reducible refine bel_alloc ?_)
  with_reducible exact Below.refl _ _

/-- the time at which so much is charged. -/
def tillNum (r left p : Int) : Nat := quot true (left * 1048576 - r).toNat p.toNat
theorem till_le {r left p : Int} (hr : 0 ≤ r) (hl : 1 ≤ left) (hr' : r ≤ 1048575) (hl' : left ≤ 1073741824) (hp : 1 ≤ p) : tillNum r left p ≤ 1125899906842624 ∧ 1 ≤ tillNum r left p := by
  have hc : 0 < p.toNat := by omega
  constructor
  · refine quot_fit true hc ?_
    have h1 : 1125899906842624 * 1 ≤ 1125899906842624 * p.toNat := Nat.mul_le_mul_left _ hc
    omega
  · have := (quot_up_gt (n := (left * 1048576 - r).toNat) (k := 0) hc).2 (by omega)
    exact this
/-- what it is: at it as much is charged, and a unit earlier it is not. -/
theorem till_is {r left p : Int} (hr : 0 ≤ r) (hl : 1 ≤ left) (hr' : r ≤ 1048575) (hp : 1 ≤ p) : left * 1048576 ≤ (tillNum r left p : Int) * p + r ∧ (tillNum r left p : Int) * p - p + r < left * 1048576 := by
  have hc : 0 < p.toNat := by omega
  have h := quot_up_le (n := (left * 1048576 - r).toNat) hc
  have e : ((tillNum r left p * p.toNat : Nat) : Int) = (tillNum r left p : Int) * p := by rw [Int.natCast_mul, Int.toNat_of_nonneg (by omega)]
  unfold tillNum at *
  rw [← e]
  omega
theorem till_gt {r left p : Int} {k : Nat} (_ : 0 ≤ r) (_ : 1 ≤ left) (_ : r ≤ 1048575) (hp : 1 ≤ p) : k < tillNum r left p ↔ (k : Int) * p + r < left * 1048576 := by
  have hc : 0 < p.toNat := by omega
  have h := quot_up_gt (n := (left * 1048576 - r).toNat) (k := k) hc
  have e : ((k * p.toNat : Nat) : Int) = (k : Int) * p := by rw [Int.natCast_mul, Int.toNat_of_nonneg (by omega)]
  unfold tillNum
  rw [h, ← e]
  omega
theorem till_div {r left p : Int} (hr : 0 ≤ r) (hl : 1 ≤ left) (hr' : r ≤ 1048575) (hl' : left ≤ 1073741824) (hp : 1 ≤ p) (hp' : p ≤ 1048576) (w : World) :
    Calls Try.prog 26 #[.int .i64 (left * 1048576 - r), .int .i64 1, .int .i64 p, .bool true] w (Gives (.tuple #[.int .i64 (tillNum r left p : Int), .int .i64 0]) w) := by
  have h := div_any (left * 1048576 - r) 1 p true (by omega) (by omega) (by omega) w
  have e1 : (left * 1048576 - r).toNat * (1 : Int).toNat = (left * 1048576 - r).toNat := by show _ * 1 = _; rw [Nat.mul_one]
  have e := divRes_ok (a := left * 1048576 - r) (b := 1) (c := p) (up := true) (by omega) (by omega) hp (by rw [e1]; have := (till_le hr hl hr' hl' hp).1; unfold tillNum at this; omega)
  rw [e.1, e.2, e1] at h
  exact h

set_option maxHeartbeats 800000 in
theorem till_ok (r left p : Int) (hr : 0 ≤ r) (hr' : r ≤ 1048575) (hl : 1 ≤ left) (hl' : left ≤ 1073741824) (hp : 1 ≤ p) (hp' : p ≤ 1048576) (h : tillNum r left p < 1099511627776) (w : World) :
    Calls Try.prog 18 #[.agg #[.int .i64 r], .int .i64 left, .int .i64 p] w (Gives (.tuple #[.int .i64 (tillNum r left p : Int), .int .i64 0]) w) := by
  have D := Lib.hid (till_div hr hl hr' hl' hp hp')
  have T := Lib.hid (timeE_ok (t := (tillNum r left p : Int)) (by omega) (by omega))
  have l0 : (left == 0) = false := by simp; omega
  have p0 : (p == 0) = false := by simp; omega
  generalize tillNum r left p = n at *
  clear h
  unfold Gives
  go_enter Try.func18, Try.ntmps18
  go_wp2_with (first | (go_at_call 23; refine (owed_yes _ hr hr' _).mono ?_; rintro e w' ⟨rfl, rfl⟩; unfold meterBox) | (go_at_call 21; refine (within_in _ _ (by omega) (by omega) _).mono ?_; rintro e w' ⟨rfl, rfl⟩) | (go_at_call 26; refine (D.out _).mono ?_; rintro e w' ⟨rfl, hb⟩) | (go_at_call 24; refine (time_any _ _).mono ?_; rw [T.out]; rintro e w' ⟨rfl, rfl⟩))
  go_ret2
  refine ⟨rfl, bel_end ?_ hb⟩
  repeat (with_reducible refine bel_alloc ?_)
  with_reducible exact Below.refl _ _
set_option maxHeartbeats 800000 in
theorem till_late (r left p : Int) (hr : 0 ≤ r) (hr' : r ≤ 1048575) (hl : 1 ≤ left) (hl' : left ≤ 1073741824) (hp : 1 ≤ p) (hp' : p ≤ 1048576) (h : 1099511627776 ≤ tillNum r left p) (w : World) :
    Calls Try.prog 18 #[.agg #[.int .i64 r], .int .i64 left, .int .i64 p] w (Gives (.tuple #[.int .i64 0, .int .i64 21]) w) := by
  have D := Lib.hid (till_div hr hl hr' hl' hp hp')
  have T := Lib.hid (timeE_high (t := (tillNum r left p : Int)) (by omega))
  have l0 : (left == 0) = false := by simp; omega
  have p0 : (p == 0) = false := by simp; omega
  generalize tillNum r left p = n at *
  clear h
  unfold Gives
  go_enter Try.func18, Try.ntmps18
  go_wp2_with (first | (go_at_call 23; refine (owed_yes _ hr hr' _).mono ?_; rintro e w' ⟨rfl, rfl⟩; unfold meterBox) | (go_at_call 21; refine (within_in _ _ (by omega) (by omega) _).mono ?_; rintro e w' ⟨rfl, rfl⟩) | (go_at_call 26; refine (D.out _).mono ?_; rintro e w' ⟨rfl, hb⟩) | (go_at_call 24; refine (time_any _ _).mono ?_; rw [T.out]; rintro e w' ⟨rfl, rfl⟩))
  go_ret2
  refine ⟨rfl, bel_end ?_ hb⟩
  repeat (with_reducible refine bel_alloc ?_)
  with_reducible exact Below.refl _ _
end Go.Proofs.Ytnahedmccbkflaa
