/- What num.Time and num.After answer at any numbers. No condition but that they are numbers of 64 bits. -/
import Derived.Test.YtgdgfcogmfhpcaaBase
import Derived.WalkLawsBesides
import Derived.WalkSpells
import Derived.Outline
namespace Go.Proofs.Ytgdgfcogmfhpcaa
open Go.RowKit

/-- what is wrong with a time. -/
def timeErr (t : Int) : Int := if t < 0 then 10 else if 1099511627776 ≤ t then 21 else 0
theorem timeErr_low {t : Int} (h : t < 0) : timeErr t = 10 := by unfold timeErr; rw [if_pos h]
theorem timeErr_high {t : Int} (h : 1099511627776 ≤ t) : timeErr t = 21 := by unfold timeErr; rw [if_neg (by omega), if_pos h]
theorem timeErr_ok {t : Int} (h : 0 ≤ t) (h' : t < 1099511627776) : timeErr t = 0 := by unfold timeErr; rw [if_neg (by omega), if_neg (by omega)]
theorem time_any (t : Int) (w : World) : Calls Try.prog 30 #[.int .i64 t] w fun e w' => e = .returned (.int .i64 (timeErr t)) ∧ w = w' := by
  unfold timeErr
  by_cases h0 : t < 0
  · go_enter Try.func30, Try.ntmps30
    go_wp2
    go_ret
    exact ⟨rfl, rfl⟩
  · by_cases h1 : 1099511627776 ≤ t
    · go_enter Try.func30, Try.ntmps30
      go_wp2
      go_ret
      exact ⟨rfl, rfl⟩
    · have h2 : t < 1099511627776 := by omega
      have h3 : 0 ≤ t := by omega
      clear h0 h1
      go_enter Try.func30, Try.ntmps30
      go_wp2
      go_ret
      exact ⟨rfl, rfl⟩

/-- a time so much later, or 0. -/
def afterNum (t d : Int) : Int := if 0 ≤ t ∧ 0 ≤ d ∧ t + d < 1099511627776 then t + d else 0
/-- what is wrong with it. -/
def afterErr (t d : Int) : Int := if t < 0 then 10 else if 1099511627776 ≤ t then 21 else if d < 0 then 10 else if 1099511627776 ≤ t + d then 21 else 0
theorem after_low {t d : Int} (h : t < 0) : afterNum t d = 0 ∧ afterErr t d = 10 := by unfold afterNum afterErr; rw [if_neg (by omega), if_pos h]; exact ⟨rfl, rfl⟩
theorem after_high {t d : Int} (h : 1099511627776 ≤ t) : afterNum t d = 0 ∧ afterErr t d = 21 := by unfold afterNum afterErr; rw [if_neg (by omega), if_neg (by omega), if_pos h]; exact ⟨rfl, rfl⟩
theorem after_neg {t d : Int} (h : 0 ≤ t) (h' : t < 1099511627776) (hd : d < 0) : afterNum t d = 0 ∧ afterErr t d = 10 := by unfold afterNum afterErr; rw [if_neg (by omega), if_neg (by omega), if_neg (by omega), if_pos hd]; exact ⟨rfl, rfl⟩
theorem after_over {t d : Int} (h : 0 ≤ t) (h' : t < 1099511627776) (hd : 0 ≤ d) (hs : 1099511627776 ≤ t + d) : afterNum t d = 0 ∧ afterErr t d = 21 := by unfold afterNum afterErr; rw [if_neg (by omega), if_neg (by omega), if_neg (by omega), if_neg (by omega), if_pos hs]; exact ⟨rfl, rfl⟩
theorem after_ok {t d : Int} (h : 0 ≤ t) (hd : 0 ≤ d) (hs : t + d < 1099511627776) : afterNum t d = t + d ∧ afterErr t d = 0 := by unfold afterNum afterErr; rw [if_pos (by omega), if_neg (by omega), if_neg (by omega), if_neg (by omega), if_neg (by omega)]; exact ⟨rfl, rfl⟩

theorem after_any (t d : Int) (hd' : d ≤ 9223372036854775807) (w : World) :
    Calls Try.prog 29 #[.int .i64 t, .int .i64 d] w fun e w' => e = .returned (.tuple #[.int .i64 (afterNum t d), .int .i64 (afterErr t d)]) ∧ w = w' := by
  by_cases h0 : t < 0
  · rw [(after_low h0).1, (after_low h0).2]
    have E := Lib.hid (timeErr_low h0)
    go_enter Try.func29, Try.ntmps29
    go_wp2_with (go_at_call 30; refine (time_any _ _).mono ?_; rw [E.out]; rintro e w' ⟨rfl, rfl⟩)
    go_ret2
    exact ⟨rfl, rfl⟩
  by_cases h1 : 1099511627776 ≤ t
  · rw [(after_high h1).1, (after_high h1).2]
    have E := Lib.hid (timeErr_high h1)
    go_enter Try.func29, Try.ntmps29
    go_wp2_with (go_at_call 30; refine (time_any _ _).mono ?_; rw [E.out]; rintro e w' ⟨rfl, rfl⟩)
    go_ret2
    exact ⟨rfl, rfl⟩
  have h2 : 0 ≤ t := by omega
  have h3 : t < 1099511627776 := by omega
  have E := Lib.hid (timeErr_ok h2 h3)
  clear h0 h1
  by_cases h4 : d < 0
  · rw [(after_neg h2 h3 h4).1, (after_neg h2 h3 h4).2]
    go_enter Try.func29, Try.ntmps29
    go_wp2_with (go_at_call 30; refine (time_any _ _).mono ?_; rw [E.out]; rintro e w' ⟨rfl, rfl⟩)
    go_ret2
    exact ⟨rfl, rfl⟩
  have h5 : 0 ≤ d := by omega
  clear h4
  by_cases h6 : 1099511627776 ≤ t + d
  · rw [(after_over h2 h3 h5 h6).1, (after_over h2 h3 h5 h6).2]
    have h7 : 1099511627776 - t ≤ d := by omega
    clear h6
    go_enter Try.func29, Try.ntmps29
    go_wp2_with (go_at_call 30; refine (time_any _ _).mono ?_; rw [E.out]; rintro e w' ⟨rfl, rfl⟩)
    go_ret2
    exact ⟨rfl, rfl⟩
  · have h7 : d < 1099511627776 - t := by omega
    rw [(after_ok h2 h5 (by omega)).1, (after_ok h2 h5 (by omega)).2]
    clear h6
    go_enter Try.func29, Try.ntmps29
    go_wp2_with (go_at_call 30; refine (time_any _ _).mono ?_; rw [E.out]; rintro e w' ⟨rfl, rfl⟩)
    go_ret2
    exact ⟨rfl, rfl⟩
end Go.Proofs.Ytgdgfcogmfhpcaa
