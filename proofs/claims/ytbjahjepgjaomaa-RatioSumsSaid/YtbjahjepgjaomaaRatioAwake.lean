/- The chapter's examples answer true: awake of metronomelaw02. No condition. -/
import Derived.Test.YtbjahjepgjaomaaRatioParams0
namespace Go.Proofs.Ytbjahjepgjaomaa
open Go.RowKit

theorem ex_up : divNum 1 1048576 3 true = 349526 ∧ divErr 1 1048576 3 true = 0 := by decide
theorem ex_down : divNum 1 1048576 3 false = 349525 ∧ divErr 1 1048576 3 false = 0 := by decide
theorem ex_part : divNum 524288 7 1048576 false = 3 ∧ divErr 524288 7 1048576 false = 0 := by decide
theorem ex_use : divNum 10 1048576 100 true = 104858 ∧ divErr 10 1048576 100 true = 0 := by decide

set_option maxHeartbeats 1000000 in
theorem awake_yes (w : World) : Calls Try.prog 14 #[] w (Yes w) := by
  have U := Lib.hid (up_any 1 3 (by omega) (by omega))
  have D := Lib.hid (down_any 1 3 (by omega) (by omega))
  have P := Lib.hid (part_any 524288 7 false (by omega) (by omega))
  have S := Lib.hid (use_ok 10 50 100 (by unfold ParamsMay; omega))
  rw [ex_up.1, ex_up.2] at U
  rw [ex_down.1, ex_down.2] at D
  rw [ex_part.1, ex_part.2] at P
  rw [ex_use.1, ex_use.2] at S
  go_enter Try.func14, Try.ntmps14
  go_wp2_with fail
  refine (U.out _).mono ?_
  rintro e w1 ⟨rfl, b1⟩
  go_wp2_with fail
  refine (D.out _).mono ?_
  rintro e w2 ⟨rfl, b2⟩
  go_wp2_with fail
  refine (P.out _).mono ?_
  rintro e w3 ⟨rfl, b3⟩
  go_wp2_with fail
  refine (S.out _).mono ?_
  rintro e w4 ⟨rfl, b4⟩
  go_wp2_with fail
  go_ret
  exact ⟨rfl, bel_end (bel_end (bel_end b1 b2) b3) b4⟩
end Go.Proofs.Ytbjahjepgjaomaa
