/- What a meter's Charge answers where something is wrong, and the document's Wrong and Charge. Each theorem's premises are its conditions. -/
import Derived.Test.YtnahedmccbkflaaGrubTill
import Derived.WalkLawsBesides
import Derived.WalkSpells
import Derived.Outline
namespace Go.Proofs.Ytnahedmccbkflaa
open Go.RowKit

set_option maxHeartbeats 400000 in
theorem charge_arg (r t p : Int) (h : r < 0 ∨ 1048575 < r) (w : World) :
    Calls Try.prog 15 #[.agg #[.int .i64 r], .int .i64 t, .int .i64 p] w (Gives (.tuple #[.int .i64 0, .agg #[.int .i64 0], .int .i64 1]) w) := by
  unfold Gives
  go_enter Try.func15, Try.ntmps15
  go_wp2_with (go_at_call 23; refine (owed_no _ h _).mono ?_; rintro e w' ⟨rfl, rfl⟩; unfold meterBox)
  exact bodyPost_ret (v := .tuple #[.int .i64 0, .agg #[.int .i64 0], .int .i64 1]) (by simp [results, Try.results15, go_sem]) rfl ⟨rfl, by
    repeat (with_reducible refine bel_alloc ?_)
    with_reducible exact Below.refl _ _⟩
set_option maxHeartbeats 400000 in
theorem charge_time (r t p : Int) (hr : 0 ≤ r) (hr' : r ≤ 1048575) (E : Int) (hE : timeErr t = E) (h0 : (E == 0) = false) (w : World) :
    Calls Try.prog 15 #[.agg #[.int .i64 r], .int .i64 t, .int .i64 p] w (Gives (.tuple #[.int .i64 0, .agg #[.int .i64 0], .int .i64 E]) w) := by
  unfold Gives
  have T := Lib.hid hE
  have h1 : (E != 0) = true := by simp at h0 ⊢; exact h0
  clear hE
  go_enter Try.func15, Try.ntmps15
  go_wp2_with (first | (go_at_call 23; refine (owed_yes _ hr hr' _).mono ?_; rintro e w' ⟨rfl, rfl⟩; unfold meterBox) | (go_at_call 24; refine (time_any _ _).mono ?_; rw [T.out]; rintro e w' ⟨rfl, rfl⟩))
  exact bodyPost_ret (v := .tuple #[.int .i64 0, .agg #[.int .i64 0], .int .i64 E]) (by simp [results, Try.results15, go_sem]) rfl ⟨rfl, by
    repeat (with_reducible refine bel_alloc ?_)
    with_reducible exact Below.refl _ _⟩
set_option maxHeartbeats 400000 in
theorem charge_rate (r t p : Int) (hr : 0 ≤ r) (hr' : r ≤ 1048575) (ht : 0 ≤ t) (ht' : t < 1099511627776) (h : p < 0 ∨ 1048576 < p) (w : World) :
    Calls Try.prog 15 #[.agg #[.int .i64 r], .int .i64 t, .int .i64 p] w (Gives (.tuple #[.int .i64 0, .agg #[.int .i64 0], .int .i64 10]) w) := by
  unfold Gives
  have T := Lib.hid (timeE_ok ht ht')
  have H := Lib.hid h
  clear h
  go_enter Try.func15, Try.ntmps15
  go_wp2_with (first | (go_at_call 23; refine (owed_yes _ hr hr' _).mono ?_; rintro e w' ⟨rfl, rfl⟩; unfold meterBox) | (go_at_call 24; refine (time_any _ _).mono ?_; rw [T.out]; rintro e w' ⟨rfl, rfl⟩) | (go_at_call 21; refine (within_out _ _ H.out _).mono ?_; rintro e w' ⟨rfl, rfl⟩))
  exact bodyPost_ret (v := .tuple #[.int .i64 0, .agg #[.int .i64 0], .int .i64 10]) (by simp [results, Try.results15, go_sem]) rfl ⟨rfl, by
    repeat (with_reducible refine bel_alloc ?_)
    with_reducible exact Below.refl _ _⟩
theorem charge_gives (r t p : Int) (hr : 0 ≤ r) (hr' : r ≤ 1048575) (ht : 0 ≤ t) (ht' : t < 1099511627776) (hp : 0 ≤ p) (hp' : p ≤ 1048576) (w : World) :
    Calls Try.prog 15 #[.agg #[.int .i64 r], .int .i64 t, .int .i64 p] w (Gives (.tuple #[.int .i64 ((t * p + r) / 1048576), .agg #[.int .i64 ((t * p + r) % 1048576)], .int .i64 0]) w) := by
  refine (charge_ok r t p hr hr' ht ht' hp hp' w).mono ?_
  rintro e w' ⟨rfl, rfl⟩
  exact ⟨rfl, by
    repeat (with_reducible refine bel_alloc ?_)
    with_reducible exact Below.refl _ _⟩

/-! ### the document's answer -/
theorem refTime (t : Int) (w : World) : Calls Try.prog 25 #[.int .i64 t] w fun e w' => e = .returned (.int .i64 (timeErr t)) ∧ w = w' := by
  unfold timeErr
  by_cases h0 : t < 0
  · go_enter Try.func25, Try.ntmps25
    go_wp2
    go_ret
    exact ⟨rfl, rfl⟩
  · by_cases h1 : 1099511627776 ≤ t
    · go_enter Try.func25, Try.ntmps25
      go_wp2
      go_ret
      exact ⟨rfl, rfl⟩
    · have h2 : t < 1099511627776 := by omega
      have h3 : 0 ≤ t := by omega
      clear h0 h1
      go_enter Try.func25, Try.ntmps25
      go_wp2
      go_ret
      exact ⟨rfl, rfl⟩
theorem wrong_arg (r t p : Int) (h : r < 0 ∨ 1048575 < r) (w : World) : Calls Try.prog 16 #[.int .i64 r, .int .i64 t, .int .i64 p] w fun e w' => e = .returned (.int .i64 1) ∧ w = w' := by
  by_cases h0 : r < 0
  · clear h
    go_enter Try.func16, Try.ntmps16
    go_wp2
    go_ret
    exact ⟨rfl, rfl⟩
  · have h1 : 1048575 < r := by omega
    have h2 : 0 ≤ r := by omega
    clear h h0
    go_enter Try.func16, Try.ntmps16
    go_wp2
    go_ret
    exact ⟨rfl, rfl⟩
theorem wrong_time (r t p : Int) (hr : 0 ≤ r) (hr' : r ≤ 1048575) (E : Int) (hE : timeErr t = E) (h0 : (E == 0) = false) (w : World) : Calls Try.prog 16 #[.int .i64 r, .int .i64 t, .int .i64 p] w fun e w' => e = .returned (.int .i64 E) ∧ w = w' := by
  have T := Lib.hid hE
  clear hE
  go_enter Try.func16, Try.ntmps16
  go_wp2_with (go_at_call 25; refine (refTime _ _).mono ?_; rw [T.out]; rintro e w' ⟨rfl, rfl⟩)
  go_ret
  exact ⟨rfl, rfl⟩
theorem wrong_rate (r t p : Int) (hr : 0 ≤ r) (hr' : r ≤ 1048575) (ht : 0 ≤ t) (ht' : t < 1099511627776) (h : p < 0 ∨ 1048576 < p) (w : World) : Calls Try.prog 16 #[.int .i64 r, .int .i64 t, .int .i64 p] w fun e w' => e = .returned (.int .i64 10) ∧ w = w' := by
  have T := Lib.hid (timeE_ok ht ht')
  by_cases h0 : p < 0
  · clear h
    go_enter Try.func16, Try.ntmps16
    go_wp2_with (go_at_call 25; refine (refTime _ _).mono ?_; rw [T.out]; rintro e w' ⟨rfl, rfl⟩)
    go_ret
    exact ⟨rfl, rfl⟩
  · have h1 : 1048576 < p := by omega
    have h2 : 0 ≤ p := by omega
    clear h h0
    go_enter Try.func16, Try.ntmps16
    go_wp2_with (go_at_call 25; refine (refTime _ _).mono ?_; rw [T.out]; rintro e w' ⟨rfl, rfl⟩)
    go_ret
    exact ⟨rfl, rfl⟩
theorem wrong_ok (r t p : Int) (hr : 0 ≤ r) (hr' : r ≤ 1048575) (ht : 0 ≤ t) (ht' : t < 1099511627776) (hp : 0 ≤ p) (hp' : p ≤ 1048576) (w : World) : Calls Try.prog 16 #[.int .i64 r, .int .i64 t, .int .i64 p] w fun e w' => e = .returned (.int .i64 0) ∧ w = w' := by
  have T := Lib.hid (timeE_ok ht ht')
  go_enter Try.func16, Try.ntmps16
  go_wp2_with (go_at_call 25; refine (refTime _ _).mono ?_; rw [T.out]; rintro e w' ⟨rfl, rfl⟩)
  go_ret
  exact ⟨rfl, rfl⟩
theorem refCharge (r t p : Int) (hr : 0 ≤ r) (hr' : r ≤ 1048575) (ht : 0 ≤ t) (ht' : t < 1099511627776) (hp : 0 ≤ p) (hp' : p ≤ 1048576) (w : World) : Calls Try.prog 17 #[.int .i64 r, .int .i64 t, .int .i64 p] w fun e w' => e = .returned (.tuple #[.int .i64 ((t * p + r) / 1048576), .int .i64 ((t * p + r) % 1048576)]) ∧ w = w' := by
  obtain ⟨m1, m2⟩ := mul_time ht ht' hp hp'
  go_enter Try.func17, Try.ntmps17
  go_wp2
  go_ret2
  exact ⟨rfl, rfl⟩
end Go.Proofs.Ytnahedmccbkflaa
