/- What ratio's Check, Use and Dense answer, and the reference's May. Each theorem's premises are its conditions. -/
import Derived.Test.YtoagdaenbanhlaaRatioUp
import Derived.WalkLawsBesides
import Derived.WalkSpells
import Derived.Outline
namespace Go.Proofs.Ytoagdaenbanhlaa
open Go.RowKit

/-- which params may be. -/
def ParamsMay (q d t : Int) : Prop := 1 ≤ q ∧ q ≤ d ∧ d ≤ t ∧ t ≤ 1073741824
def paramsBox (q d t : Int) : Obj := .cells #[.int .i64 q, .int .i64 d, .int .i64 t] 40

set_option maxHeartbeats 400000 in
theorem pcheck_ok (q d t : Int) (h : ParamsMay q d t) (w : World) :
    Calls Try.prog 29 #[.agg #[.int .i64 q, .int .i64 d, .int .i64 t]] w fun e w' => e = .returned (.int .i64 0) ∧ w' = w.alloc (paramsBox q d t) := by
  obtain ⟨h1, h2, h3, h4⟩ := h
  unfold paramsBox
  go_enter Try.func29, Try.ntmps29
  go_wp2
  go_ret
  exact ⟨rfl, rfl⟩
set_option maxHeartbeats 400000 in
theorem pcheck_bad (q d t : Int) (h : ¬ ParamsMay q d t) (w : World) :
    Calls Try.prog 29 #[.agg #[.int .i64 q, .int .i64 d, .int .i64 t]] w fun e w' => e = .returned (.int .i64 1) ∧ w' = w.alloc (paramsBox q d t) := by
  unfold ParamsMay at h
  unfold paramsBox
  by_cases h1 : 1 ≤ q
  · by_cases h2 : q ≤ d
    · by_cases h3 : d ≤ t
      · have h4 : 1073741824 < t := by omega
        clear h
        go_enter Try.func29, Try.ntmps29
        go_wp2
        go_ret
        exact ⟨rfl, rfl⟩
      · have h4 : t < d := by omega
        clear h h3
        go_enter Try.func29, Try.ntmps29
        go_wp2
        go_ret
        exact ⟨rfl, rfl⟩
    · have h4 : d < q := by omega
      clear h h2
      go_enter Try.func29, Try.ntmps29
      go_wp2
      go_ret
      exact ⟨rfl, rfl⟩
  · have h4 : q < 1 := by omega
    clear h h1
    go_enter Try.func29, Try.ntmps29
    go_wp2
    go_ret
    exact ⟨rfl, rfl⟩

set_option maxHeartbeats 400000 in
theorem use_ok (q d t : Int) (h : ParamsMay q d t) (w : World) :
    Calls Try.prog 34 #[.agg #[.int .i64 q, .int .i64 d, .int .i64 t]] w (Gives (.tuple #[.int .i64 (divNum q 1048576 t true), .int .i64 (divErr q 1048576 t true)]) w) := by
  have C := Lib.hid (pcheck_ok q d t h)
  obtain ⟨h1, h2, h3, h4⟩ := h
  have U := Lib.hid (up_any q t (by omega) (by omega))
  generalize divNum q 1048576 t true = n at *
  generalize divErr q 1048576 t true = x at *
  unfold paramsBox at C
  go_enter Try.func34, Try.ntmps34
  go_wp2_with (first | (go_at_call 29; refine (C.out _).mono ?_; rintro e w' ⟨rfl, rfl⟩) | (go_at_call 41; refine (U.out _).mono ?_; rintro e w' ⟨rfl, hb⟩))
  go_ret2
  refine ⟨rfl, bel_end ?_ hb⟩
  repeat (with_reducible refine bel_alloc ?_)
  with_reducible exact Below.refl _ _
set_option maxHeartbeats 400000 in
theorem dense_ok (q d t : Int) (h : ParamsMay q d t) (w : World) :
    Calls Try.prog 33 #[.agg #[.int .i64 q, .int .i64 d, .int .i64 t]] w (Gives (.tuple #[.int .i64 (divNum q 1048576 d true), .int .i64 (divErr q 1048576 d true)]) w) := by
  have C := Lib.hid (pcheck_ok q d t h)
  obtain ⟨h1, h2, h3, h4⟩ := h
  have U := Lib.hid (up_any q d (by omega) (by omega))
  generalize divNum q 1048576 d true = n at *
  generalize divErr q 1048576 d true = x at *
  unfold paramsBox at C
  go_enter Try.func33, Try.ntmps33
  go_wp2_with (first | (go_at_call 29; refine (C.out _).mono ?_; rintro e w' ⟨rfl, rfl⟩) | (go_at_call 41; refine (U.out _).mono ?_; rintro e w' ⟨rfl, hb⟩))
  go_ret2
  refine ⟨rfl, bel_end ?_ hb⟩
  repeat (with_reducible refine bel_alloc ?_)
  with_reducible exact Below.refl _ _
set_option maxHeartbeats 400000 in
theorem use_bad (q d t : Int) (h : ¬ ParamsMay q d t) (w : World) :
    Calls Try.prog 34 #[.agg #[.int .i64 q, .int .i64 d, .int .i64 t]] w fun e w' => e = .returned (.tuple #[.int .i64 0, .int .i64 1]) ∧ w' = (w.alloc (paramsBox q d t)).alloc (paramsBox q d t) := by
  have C := Lib.hid (pcheck_bad q d t h)
  clear h
  unfold paramsBox at *
  go_enter Try.func34, Try.ntmps34
  go_wp2_with (go_at_call 29; refine (C.out _).mono ?_; rintro e w' ⟨rfl, rfl⟩)
  go_ret2
  exact ⟨rfl, rfl⟩
set_option maxHeartbeats 400000 in
theorem dense_bad (q d t : Int) (h : ¬ ParamsMay q d t) (w : World) :
    Calls Try.prog 33 #[.agg #[.int .i64 q, .int .i64 d, .int .i64 t]] w fun e w' => e = .returned (.tuple #[.int .i64 0, .int .i64 1]) ∧ w' = (w.alloc (paramsBox q d t)).alloc (paramsBox q d t) := by
  have C := Lib.hid (pcheck_bad q d t h)
  clear h
  unfold paramsBox at *
  go_enter Try.func33, Try.ntmps33
  go_wp2_with (go_at_call 29; refine (C.out _).mono ?_; rintro e w' ⟨rfl, rfl⟩)
  go_ret2
  exact ⟨rfl, rfl⟩

end Go.Proofs.Ytoagdaenbanhlaa
