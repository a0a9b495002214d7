/- NumAfter answers true at every time, and every two ways. No condition. -/
import Derived.Test.YtgdgfcogmfhpcaaNumAwake
import Derived.Test.YtgdgfcogmfhpcaaNumTime
import Derived.Test.YtgdgfcogmfhpcaaNumSum
import Derived.WalkLawsBesides
import Derived.WalkSpells
import Derived.Outline
namespace Go.Proofs.Ytgdgfcogmfhpcaa.numAfter
open Go.ChangeShapes Go.WideShapes Go.ChangeAt Go.RowKit Go.Joins

/-! ### the plain law -/
theorem sum_two_fit {m n : Int} (hm : Fit m) (h : Fit (m + n)) : sumNum [m, n] = m + n ∧ sumErr [m, n] = 0 := by
  have e : sumGo 0 [m, n] = some (m + n) := by
    unfold sumGo; rw [if_pos (by simpa using hm)]; unfold sumGo; rw [if_pos (by simpa using h)]; simp [sumGo]
  unfold sumNum sumErr; rw [e]; exact ⟨rfl, rfl⟩
theorem sum_two_over {m n : Int} (hm : Fit m) (h : ¬ Fit (m + n)) : sumNum [m, n] = 0 ∧ sumErr [m, n] = 11 := by
  have e : sumGo 0 [m, n] = none := by
    unfold sumGo; rw [if_pos (by simpa using hm)]; unfold sumGo; rw [if_neg (by simpa using h)]
  unfold sumNum sumErr; rw [e]; exact ⟨rfl, rfl⟩
theorem sum_at2 (m n : Int) (hf : ∀ x ∈ [m, n], Fit x) (b : Nat) (w : World) (h0 : w.cell? ⟨b, 0, none⟩ = some (.int .i64 m)) (h1 : w.cell? ⟨b, 1, none⟩ = some (.int .i64 n)) :
    Calls Try.prog 17 #[.slice (some ⟨b, 0, none⟩) 2 2] w fun e w' => e = .returned (.tuple #[.int .i64 (sumNum [m, n]), .int .i64 (sumErr [m, n])]) ∧ w' = w :=
  sum_some b 0 2 [m, n] w (by simp) (fun j hj => by
    match j, hj with
    | 0, _ => exact h0
    | 1, _ => exact h1) hf
theorem fit_two {m n : Int} (hm : Fit m) (hn : Fit n) : ∀ x ∈ [m, n], Fit x := by
  intro x hx
  simp at hx
  rcases hx with rfl | rfl
  · exact hm
  · exact hn

/-! ### the walk -/
set_option maxRecDepth 100000 in
set_option maxHeartbeats 2000000 in
theorem m10 (t m n : Int) (wm : Fit m) (wn : Fit n) (f g h : Int) (a b s c : Int) (h1 : m < 0) (hA : afterNum t m = a ∧ afterErr t m = 10) (hB : afterNum a n = b ∧ afterErr a n = f) (hS : sumNum [m, n] = s ∧ sumErr [m, n] = g) (hC : afterNum t s = c ∧ afterErr t s = h) (w : World) : Calls Try.prog 10 #[.int .i64 t, .agg #[.int .i64 m, .int .i64 n]] w (Yes w) := by
  have fs := sumNum_fit [m, n]
  rw [hS.1] at fs
  have A := Lib.hid (after_any t m wm.2)
  have B := Lib.hid (after_any a n wn.2)
  have S := Lib.hid (sum_at2 m n (fit_two wm wn))
  have C := Lib.hid (after_any t s fs.2)

  rw [hA.1, hA.2] at A
  rw [hB.1, hB.2] at B
  rw [hS.1, hS.2] at S
  rw [hC.1, hC.2] at C

  have d1 : decide (m < 0) = true := by simp; omega

  clear hA hB hS hC wm wn fs
  clear h1 
  go_enter Try.func10, Try.ntmps10
  go_wp2_with fail
  refine (A.out _).mono ?_
  rintro e w1 ⟨rfl, rfl⟩
  go_wp2_with fail
  refine (B.out _).mono ?_
  rintro e w1 ⟨rfl, rfl⟩
  go_wp2_with fail
  refine (S.out _ _ (by go_simp) (by go_simp)).mono ?_
  rintro e w1 ⟨rfl, rfl⟩
  go_wp2_with fail
  refine (C.out _).mono ?_
  rintro e w1 ⟨rfl, rfl⟩
  go_wp2_with (first | (go_at_call 12; refine (awake_yes _).mono ?_; rintro e w' ⟨rfl, hb⟩) )
  go_ret
  refine ⟨rfl, bel_end ?_ hb⟩
  repeat (with_reducible refine bel_alloc ?_)
  with_reducible exact Below.refl _ _
set_option maxRecDepth 100000 in
set_option maxHeartbeats 2000000 in
theorem m21 (t m n : Int) (wm : Fit m) (wn : Fit n) (f g h : Int) (a b s c : Int) (h1 : m < 0) (hA : afterNum t m = a ∧ afterErr t m = 21) (hB : afterNum a n = b ∧ afterErr a n = f) (hS : sumNum [m, n] = s ∧ sumErr [m, n] = g) (hC : afterNum t s = c ∧ afterErr t s = h) (w : World) : Calls Try.prog 10 #[.int .i64 t, .agg #[.int .i64 m, .int .i64 n]] w (Yes w) := by
  have fs := sumNum_fit [m, n]
  rw [hS.1] at fs
  have A := Lib.hid (after_any t m wm.2)
  have B := Lib.hid (after_any a n wn.2)
  have S := Lib.hid (sum_at2 m n (fit_two wm wn))
  have C := Lib.hid (after_any t s fs.2)

  rw [hA.1, hA.2] at A
  rw [hB.1, hB.2] at B
  rw [hS.1, hS.2] at S
  rw [hC.1, hC.2] at C

  have d1 : decide (m < 0) = true := by simp; omega

  clear hA hB hS hC wm wn fs
  clear h1 
  go_enter Try.func10, Try.ntmps10
  go_wp2_with fail
  refine (A.out _).mono ?_
  rintro e w1 ⟨rfl, rfl⟩
  go_wp2_with fail
  refine (B.out _).mono ?_
  rintro e w1 ⟨rfl, rfl⟩
  go_wp2_with fail
  refine (S.out _ _ (by go_simp) (by go_simp)).mono ?_
  rintro e w1 ⟨rfl, rfl⟩
  go_wp2_with fail
  refine (C.out _).mono ?_
  rintro e w1 ⟨rfl, rfl⟩
  go_wp2_with (first | (go_at_call 12; refine (awake_yes _).mono ?_; rintro e w' ⟨rfl, hb⟩) )
  go_ret
  refine ⟨rfl, bel_end ?_ hb⟩
  repeat (with_reducible refine bel_alloc ?_)
  with_reducible exact Below.refl _ _
set_option maxRecDepth 100000 in
set_option maxHeartbeats 2000000 in
theorem n10 (t m n : Int) (wm : Fit m) (wn : Fit n) (f g h : Int) (a b s c : Int) (h1 : 0 ≤ m) (h2 : n < 0) (hA : afterNum t m = a ∧ afterErr t m = 10) (hB : afterNum a n = b ∧ afterErr a n = f) (hS : sumNum [m, n] = s ∧ sumErr [m, n] = g) (hC : afterNum t s = c ∧ afterErr t s = h) (w : World) : Calls Try.prog 10 #[.int .i64 t, .agg #[.int .i64 m, .int .i64 n]] w (Yes w) := by
  have fs := sumNum_fit [m, n]
  rw [hS.1] at fs
  have A := Lib.hid (after_any t m wm.2)
  have B := Lib.hid (after_any a n wn.2)
  have S := Lib.hid (sum_at2 m n (fit_two wm wn))
  have C := Lib.hid (after_any t s fs.2)

  rw [hA.1, hA.2] at A
  rw [hB.1, hB.2] at B
  rw [hS.1, hS.2] at S
  rw [hC.1, hC.2] at C

  have d1 : decide (m < 0) = false := by simp; omega
  have d2 : decide (n < 0) = true := by simp; omega
  clear hA hB hS hC wm wn fs
  clear h1 h2
  go_enter Try.func10, Try.ntmps10
  go_wp2_with fail
  refine (A.out _).mono ?_
  rintro e w1 ⟨rfl, rfl⟩
  go_wp2_with fail
  refine (B.out _).mono ?_
  rintro e w1 ⟨rfl, rfl⟩
  go_wp2_with fail
  refine (S.out _ _ (by go_simp) (by go_simp)).mono ?_
  rintro e w1 ⟨rfl, rfl⟩
  go_wp2_with fail
  refine (C.out _).mono ?_
  rintro e w1 ⟨rfl, rfl⟩
  go_wp2_with (first | (go_at_call 12; refine (awake_yes _).mono ?_; rintro e w' ⟨rfl, hb⟩) )
  go_ret
  refine ⟨rfl, bel_end ?_ hb⟩
  repeat (with_reducible refine bel_alloc ?_)
  with_reducible exact Below.refl _ _
set_option maxRecDepth 100000 in
set_option maxHeartbeats 2000000 in
theorem n21 (t m n : Int) (wm : Fit m) (wn : Fit n) (f g h : Int) (a b s c : Int) (h1 : 0 ≤ m) (h2 : n < 0) (hA : afterNum t m = a ∧ afterErr t m = 21) (hB : afterNum a n = b ∧ afterErr a n = f) (hS : sumNum [m, n] = s ∧ sumErr [m, n] = g) (hC : afterNum t s = c ∧ afterErr t s = h) (w : World) : Calls Try.prog 10 #[.int .i64 t, .agg #[.int .i64 m, .int .i64 n]] w (Yes w) := by
  have fs := sumNum_fit [m, n]
  rw [hS.1] at fs
  have A := Lib.hid (after_any t m wm.2)
  have B := Lib.hid (after_any a n wn.2)
  have S := Lib.hid (sum_at2 m n (fit_two wm wn))
  have C := Lib.hid (after_any t s fs.2)

  rw [hA.1, hA.2] at A
  rw [hB.1, hB.2] at B
  rw [hS.1, hS.2] at S
  rw [hC.1, hC.2] at C

  have d1 : decide (m < 0) = false := by simp; omega
  have d2 : decide (n < 0) = true := by simp; omega
  clear hA hB hS hC wm wn fs
  clear h1 h2
  go_enter Try.func10, Try.ntmps10
  go_wp2_with fail
  refine (A.out _).mono ?_
  rintro e w1 ⟨rfl, rfl⟩
  go_wp2_with fail
  refine (B.out _).mono ?_
  rintro e w1 ⟨rfl, rfl⟩
  go_wp2_with fail
  refine (S.out _ _ (by go_simp) (by go_simp)).mono ?_
  rintro e w1 ⟨rfl, rfl⟩
  go_wp2_with fail
  refine (C.out _).mono ?_
  rintro e w1 ⟨rfl, rfl⟩
  go_wp2_with (first | (go_at_call 12; refine (awake_yes _).mono ?_; rintro e w' ⟨rfl, hb⟩) )
  go_ret
  refine ⟨rfl, bel_end ?_ hb⟩
  repeat (with_reducible refine bel_alloc ?_)
  with_reducible exact Below.refl _ _
set_option maxRecDepth 100000 in
set_option maxHeartbeats 2000000 in
theorem n0 (t m n : Int) (wm : Fit m) (wn : Fit n) (g h : Int) (a b s c : Int) (h1 : 0 ≤ m) (h2 : n < 0) (hA : afterNum t m = a ∧ afterErr t m = 0) (hB : afterNum a n = b ∧ afterErr a n = 10) (hS : sumNum [m, n] = s ∧ sumErr [m, n] = g) (hC : afterNum t s = c ∧ afterErr t s = h) (w : World) : Calls Try.prog 10 #[.int .i64 t, .agg #[.int .i64 m, .int .i64 n]] w (Yes w) := by
  have fs := sumNum_fit [m, n]
  rw [hS.1] at fs
  have A := Lib.hid (after_any t m wm.2)
  have B := Lib.hid (after_any a n wn.2)
  have S := Lib.hid (sum_at2 m n (fit_two wm wn))
  have C := Lib.hid (after_any t s fs.2)

  rw [hA.1, hA.2] at A
  rw [hB.1, hB.2] at B
  rw [hS.1, hS.2] at S
  rw [hC.1, hC.2] at C

  have d1 : decide (m < 0) = false := by simp; omega
  have d2 : decide (n < 0) = true := by simp; omega
  clear hA hB hS hC wm wn fs
  clear h1 h2
  go_enter Try.func10, Try.ntmps10
  go_wp2_with fail
  refine (A.out _).mono ?_
  rintro e w1 ⟨rfl, rfl⟩
  go_wp2_with fail
  refine (B.out _).mono ?_
  rintro e w1 ⟨rfl, rfl⟩
  go_wp2_with fail
  refine (S.out _ _ (by go_simp) (by go_simp)).mono ?_
  rintro e w1 ⟨rfl, rfl⟩
  go_wp2_with fail
  refine (C.out _).mono ?_
  rintro e w1 ⟨rfl, rfl⟩
  go_wp2_with (first | (go_at_call 12; refine (awake_yes _).mono ?_; rintro e w' ⟨rfl, hb⟩) )
  go_ret
  refine ⟨rfl, bel_end ?_ hb⟩
  repeat (with_reducible refine bel_alloc ?_)
  with_reducible exact Below.refl _ _
set_option maxRecDepth 100000 in
set_option maxHeartbeats 2000000 in
theorem t10 (t m n : Int) (wm : Fit m) (wn : Fit n) (f g h : Int) (a b s c : Int) (h1 : 0 ≤ m) (h2 : 0 ≤ n) (hA : afterNum t m = a ∧ afterErr t m = 10) (hB : afterNum a n = b ∧ afterErr a n = f) (hS : sumNum [m, n] = s ∧ sumErr [m, n] = g) (hC : afterNum t s = c ∧ afterErr t s = h) (hT : timeErr t = 10) (w : World) : Calls Try.prog 10 #[.int .i64 t, .agg #[.int .i64 m, .int .i64 n]] w (Yes w) := by
  have fs := sumNum_fit [m, n]
  rw [hS.1] at fs
  have A := Lib.hid (after_any t m wm.2)
  have B := Lib.hid (after_any a n wn.2)
  have S := Lib.hid (sum_at2 m n (fit_two wm wn))
  have C := Lib.hid (after_any t s fs.2)
  have T := Lib.hid (time_any t)
  rw [hA.1, hA.2] at A
  rw [hB.1, hB.2] at B
  rw [hS.1, hS.2] at S
  rw [hC.1, hC.2] at C
  rw [hT] at T
  have d1 : decide (m < 0) = false := by simp; omega
  have d2 : decide (n < 0) = false := by simp; omega
  clear hA hB hS hC wm wn fs
  clear h1 h2
  go_enter Try.func10, Try.ntmps10
  go_wp2_with fail
  refine (A.out _).mono ?_
  rintro e w1 ⟨rfl, rfl⟩
  go_wp2_with fail
  refine (B.out _).mono ?_
  rintro e w1 ⟨rfl, rfl⟩
  go_wp2_with fail
  refine (S.out _ _ (by go_simp) (by go_simp)).mono ?_
  rintro e w1 ⟨rfl, rfl⟩
  go_wp2_with fail
  refine (C.out _).mono ?_
  rintro e w1 ⟨rfl, rfl⟩
  go_wp2_with (first | (go_at_call 12; refine (awake_yes _).mono ?_; rintro e w' ⟨rfl, hb⟩) | (go_at_call 30; refine (T.out _).mono ?_; rintro e w' ⟨rfl, rfl⟩))
  go_ret
  refine ⟨rfl, bel_end ?_ hb⟩
  repeat (with_reducible refine bel_alloc ?_)
  with_reducible exact Below.refl _ _
set_option maxRecDepth 100000 in
set_option maxHeartbeats 2000000 in
theorem t21 (t m n : Int) (wm : Fit m) (wn : Fit n) (f g h : Int) (a b s c : Int) (h1 : 0 ≤ m) (h2 : 0 ≤ n) (hA : afterNum t m = a ∧ afterErr t m = 21) (hB : afterNum a n = b ∧ afterErr a n = f) (hS : sumNum [m, n] = s ∧ sumErr [m, n] = g) (hC : afterNum t s = c ∧ afterErr t s = h) (hT : timeErr t = 21) (w : World) : Calls Try.prog 10 #[.int .i64 t, .agg #[.int .i64 m, .int .i64 n]] w (Yes w) := by
  have fs := sumNum_fit [m, n]
  rw [hS.1] at fs
  have A := Lib.hid (after_any t m wm.2)
  have B := Lib.hid (after_any a n wn.2)
  have S := Lib.hid (sum_at2 m n (fit_two wm wn))
  have C := Lib.hid (after_any t s fs.2)
  have T := Lib.hid (time_any t)
  rw [hA.1, hA.2] at A
  rw [hB.1, hB.2] at B
  rw [hS.1, hS.2] at S
  rw [hC.1, hC.2] at C
  rw [hT] at T
  have d1 : decide (m < 0) = false := by simp; omega
  have d2 : decide (n < 0) = false := by simp; omega
  clear hA hB hS hC wm wn fs
  clear h1 h2
  go_enter Try.func10, Try.ntmps10
  go_wp2_with fail
  refine (A.out _).mono ?_
  rintro e w1 ⟨rfl, rfl⟩
  go_wp2_with fail
  refine (B.out _).mono ?_
  rintro e w1 ⟨rfl, rfl⟩
  go_wp2_with fail
  refine (S.out _ _ (by go_simp) (by go_simp)).mono ?_
  rintro e w1 ⟨rfl, rfl⟩
  go_wp2_with fail
  refine (C.out _).mono ?_
  rintro e w1 ⟨rfl, rfl⟩
  go_wp2_with (first | (go_at_call 12; refine (awake_yes _).mono ?_; rintro e w' ⟨rfl, hb⟩) | (go_at_call 30; refine (T.out _).mono ?_; rintro e w' ⟨rfl, rfl⟩))
  go_ret
  refine ⟨rfl, bel_end ?_ hb⟩
  repeat (with_reducible refine bel_alloc ?_)
  with_reducible exact Below.refl _ _
set_option maxRecDepth 100000 in
set_option maxHeartbeats 2000000 in
theorem g21 (t m n : Int) (wm : Fit m) (wn : Fit n) (f h : Int) (a b s c : Int) (h1 : 0 ≤ m) (h2 : 0 ≤ n) (hA : afterNum t m = a ∧ afterErr t m = 21) (hB : afterNum a n = b ∧ afterErr a n = f) (hS : sumNum [m, n] = s ∧ sumErr [m, n] = 11) (hC : afterNum t s = c ∧ afterErr t s = h) (hT : timeErr t = 0) (w : World) : Calls Try.prog 10 #[.int .i64 t, .agg #[.int .i64 m, .int .i64 n]] w (Yes w) := by
  have fs := sumNum_fit [m, n]
  rw [hS.1] at fs
  have A := Lib.hid (after_any t m wm.2)
  have B := Lib.hid (after_any a n wn.2)
  have S := Lib.hid (sum_at2 m n (fit_two wm wn))
  have C := Lib.hid (after_any t s fs.2)
  have T := Lib.hid (time_any t)
  rw [hA.1, hA.2] at A
  rw [hB.1, hB.2] at B
  rw [hS.1, hS.2] at S
  rw [hC.1, hC.2] at C
  rw [hT] at T
  have d1 : decide (m < 0) = false := by simp; omega
  have d2 : decide (n < 0) = false := by simp; omega
  clear hA hB hS hC wm wn fs
  clear h1 h2
  go_enter Try.func10, Try.ntmps10
  go_wp2_with fail
  refine (A.out _).mono ?_
  rintro e w1 ⟨rfl, rfl⟩
  go_wp2_with fail
  refine (B.out _).mono ?_
  rintro e w1 ⟨rfl, rfl⟩
  go_wp2_with fail
  refine (S.out _ _ (by go_simp) (by go_simp)).mono ?_
  rintro e w1 ⟨rfl, rfl⟩
  go_wp2_with fail
  refine (C.out _).mono ?_
  rintro e w1 ⟨rfl, rfl⟩
  go_wp2_with (first | (go_at_call 12; refine (awake_yes _).mono ?_; rintro e w' ⟨rfl, hb⟩) | (go_at_call 30; refine (T.out _).mono ?_; rintro e w' ⟨rfl, rfl⟩))
  go_ret
  refine ⟨rfl, bel_end ?_ hb⟩
  repeat (with_reducible refine bel_alloc ?_)
  with_reducible exact Below.refl _ _
set_option maxRecDepth 100000 in
set_option maxHeartbeats 2000000 in
theorem g0 (t m n : Int) (wm : Fit m) (wn : Fit n) (h : Int) (a b s c : Int) (h1 : 0 ≤ m) (h2 : 0 ≤ n) (hA : afterNum t m = a ∧ afterErr t m = 0) (hB : afterNum a n = b ∧ afterErr a n = 21) (hS : sumNum [m, n] = s ∧ sumErr [m, n] = 11) (hC : afterNum t s = c ∧ afterErr t s = h) (hT : timeErr t = 0) (w : World) : Calls Try.prog 10 #[.int .i64 t, .agg #[.int .i64 m, .int .i64 n]] w (Yes w) := by
  have fs := sumNum_fit [m, n]
  rw [hS.1] at fs
  have A := Lib.hid (after_any t m wm.2)
  have B := Lib.hid (after_any a n wn.2)
  have S := Lib.hid (sum_at2 m n (fit_two wm wn))
  have C := Lib.hid (after_any t s fs.2)
  have T := Lib.hid (time_any t)
  rw [hA.1, hA.2] at A
  rw [hB.1, hB.2] at B
  rw [hS.1, hS.2] at S
  rw [hC.1, hC.2] at C
  rw [hT] at T
  have d1 : decide (m < 0) = false := by simp; omega
  have d2 : decide (n < 0) = false := by simp; omega
  clear hA hB hS hC wm wn fs
  clear h1 h2
  go_enter Try.func10, Try.ntmps10
  go_wp2_with fail
  refine (A.out _).mono ?_
  rintro e w1 ⟨rfl, rfl⟩
  go_wp2_with fail
  refine (B.out _).mono ?_
  rintro e w1 ⟨rfl, rfl⟩
  go_wp2_with fail
  refine (S.out _ _ (by go_simp) (by go_simp)).mono ?_
  rintro e w1 ⟨rfl, rfl⟩
  go_wp2_with fail
  refine (C.out _).mono ?_
  rintro e w1 ⟨rfl, rfl⟩
  go_wp2_with (first | (go_at_call 12; refine (awake_yes _).mono ?_; rintro e w' ⟨rfl, hb⟩) | (go_at_call 30; refine (T.out _).mono ?_; rintro e w' ⟨rfl, rfl⟩))
  go_ret
  refine ⟨rfl, bel_end ?_ hb⟩
  repeat (with_reducible refine bel_alloc ?_)
  with_reducible exact Below.refl _ _
set_option maxRecDepth 100000 in
set_option maxHeartbeats 2000000 in
theorem h21 (t m n : Int) (wm : Fit m) (wn : Fit n) (f : Int) (a b s c : Int) (h1 : 0 ≤ m) (h2 : 0 ≤ n) (hA : afterNum t m = a ∧ afterErr t m = 21) (hB : afterNum a n = b ∧ afterErr a n = f) (hS : sumNum [m, n] = s ∧ sumErr [m, n] = 0) (hC : afterNum t s = c ∧ afterErr t s = 21) (hT : timeErr t = 0) (w : World) : Calls Try.prog 10 #[.int .i64 t, .agg #[.int .i64 m, .int .i64 n]] w (Yes w) := by
  have fs := sumNum_fit [m, n]
  rw [hS.1] at fs
  have A := Lib.hid (after_any t m wm.2)
  have B := Lib.hid (after_any a n wn.2)
  have S := Lib.hid (sum_at2 m n (fit_two wm wn))
  have C := Lib.hid (after_any t s fs.2)
  have T := Lib.hid (time_any t)
  rw [hA.1, hA.2] at A
  rw [hB.1, hB.2] at B
  rw [hS.1, hS.2] at S
  rw [hC.1, hC.2] at C
  rw [hT] at T
  have d1 : decide (m < 0) = false := by simp; omega
  have d2 : decide (n < 0) = false := by simp; omega
  clear hA hB hS hC wm wn fs
  clear h1 h2
  go_enter Try.func10, Try.ntmps10
  go_wp2_with fail
  refine (A.out _).mono ?_
  rintro e w1 ⟨rfl, rfl⟩
  go_wp2_with fail
  refine (B.out _).mono ?_
  rintro e w1 ⟨rfl, rfl⟩
  go_wp2_with fail
  refine (S.out _ _ (by go_simp) (by go_simp)).mono ?_
  rintro e w1 ⟨rfl, rfl⟩
  go_wp2_with fail
  refine (C.out _).mono ?_
  rintro e w1 ⟨rfl, rfl⟩
  go_wp2_with (first | (go_at_call 12; refine (awake_yes _).mono ?_; rintro e w' ⟨rfl, hb⟩) | (go_at_call 30; refine (T.out _).mono ?_; rintro e w' ⟨rfl, rfl⟩))
  go_ret
  refine ⟨rfl, bel_end ?_ hb⟩
  repeat (with_reducible refine bel_alloc ?_)
  with_reducible exact Below.refl _ _
set_option maxRecDepth 100000 in
set_option maxHeartbeats 2000000 in
theorem h0 (t m n : Int) (wm : Fit m) (wn : Fit n) (a b s c : Int) (h1 : 0 ≤ m) (h2 : 0 ≤ n) (hA : afterNum t m = a ∧ afterErr t m = 0) (hB : afterNum a n = b ∧ afterErr a n = 21) (hS : sumNum [m, n] = s ∧ sumErr [m, n] = 0) (hC : afterNum t s = c ∧ afterErr t s = 21) (hT : timeErr t = 0) (w : World) : Calls Try.prog 10 #[.int .i64 t, .agg #[.int .i64 m, .int .i64 n]] w (Yes w) := by
  have fs := sumNum_fit [m, n]
  rw [hS.1] at fs
  have A := Lib.hid (after_any t m wm.2)
  have B := Lib.hid (after_any a n wn.2)
  have S := Lib.hid (sum_at2 m n (fit_two wm wn))
  have C := Lib.hid (after_any t s fs.2)
  have T := Lib.hid (time_any t)
  rw [hA.1, hA.2] at A
  rw [hB.1, hB.2] at B
  rw [hS.1, hS.2] at S
  rw [hC.1, hC.2] at C
  rw [hT] at T
  have d1 : decide (m < 0) = false := by simp; omega
  have d2 : decide (n < 0) = false := by simp; omega
  clear hA hB hS hC wm wn fs
  clear h1 h2
  go_enter Try.func10, Try.ntmps10
  go_wp2_with fail
  refine (A.out _).mono ?_
  rintro e w1 ⟨rfl, rfl⟩
  go_wp2_with fail
  refine (B.out _).mono ?_
  rintro e w1 ⟨rfl, rfl⟩
  go_wp2_with fail
  refine (S.out _ _ (by go_simp) (by go_simp)).mono ?_
  rintro e w1 ⟨rfl, rfl⟩
  go_wp2_with fail
  refine (C.out _).mono ?_
  rintro e w1 ⟨rfl, rfl⟩
  go_wp2_with (first | (go_at_call 12; refine (awake_yes _).mono ?_; rintro e w' ⟨rfl, hb⟩) | (go_at_call 30; refine (T.out _).mono ?_; rintro e w' ⟨rfl, rfl⟩))
  go_ret
  refine ⟨rfl, bel_end ?_ hb⟩
  repeat (with_reducible refine bel_alloc ?_)
  with_reducible exact Below.refl _ _
set_option maxRecDepth 100000 in
set_option maxHeartbeats 2000000 in
theorem fits (t m n : Int) (wm : Fit m) (wn : Fit n) (a b s c : Int) (h1 : 0 ≤ m) (h2 : 0 ≤ n) (h3 : b = c) (h4 : a ≤ c) (h5 : t ≤ a) (hA : afterNum t m = a ∧ afterErr t m = 0) (hB : afterNum a n = b ∧ afterErr a n = 0) (hS : sumNum [m, n] = s ∧ sumErr [m, n] = 0) (hC : afterNum t s = c ∧ afterErr t s = 0) (hT : timeErr t = 0) (w : World) : Calls Try.prog 10 #[.int .i64 t, .agg #[.int .i64 m, .int .i64 n]] w (Yes w) := by
  subst h3
  have fs := sumNum_fit [m, n]
  rw [hS.1] at fs
  have A := Lib.hid (after_any t m wm.2)
  have B := Lib.hid (after_any a n wn.2)
  have S := Lib.hid (sum_at2 m n (fit_two wm wn))
  have C := Lib.hid (after_any t s fs.2)
  have T := Lib.hid (time_any t)
  rw [hA.1, hA.2] at A
  rw [hB.1, hB.2] at B
  rw [hS.1, hS.2] at S
  rw [hC.1, hC.2] at C
  rw [hT] at T
  have d1 : decide (m < 0) = false := by simp; omega
  have d2 : decide (n < 0) = false := by simp; omega
  clear hA hB hS hC wm wn fs
  clear h1 h2
  go_enter Try.func10, Try.ntmps10
  go_wp2_with fail
  refine (A.out _).mono ?_
  rintro e w1 ⟨rfl, rfl⟩
  go_wp2_with fail
  refine (B.out _).mono ?_
  rintro e w1 ⟨rfl, rfl⟩
  go_wp2_with fail
  refine (S.out _ _ (by go_simp) (by go_simp)).mono ?_
  rintro e w1 ⟨rfl, rfl⟩
  go_wp2_with fail
  refine (C.out _).mono ?_
  rintro e w1 ⟨rfl, rfl⟩
  go_wp2_with (first | (go_at_call 12; refine (awake_yes _).mono ?_; rintro e w' ⟨rfl, hb⟩) | (go_at_call 30; refine (T.out _).mono ?_; rintro e w' ⟨rfl, rfl⟩))
  go_ret
  refine ⟨rfl, bel_end ?_ hb⟩
  repeat (with_reducible refine bel_alloc ?_)
  with_reducible exact Below.refl _ _
theorem walk (t m n : Int) (wt : (Lit.int .i64 t).wf = true) (wm : (Lit.int .i64 m).wf = true) (wn : (Lit.int .i64 n).wf = true) (w : World) : Calls Try.prog 10 #[.int .i64 t, .agg #[.int .i64 m, .int .i64 n]] w (Yes w) := by
  have bt := bounds_i64 wt
  have bm : Fit m := bounds_i64 wm
  have bn : Fit n := bounds_i64 wn
  have an {x y k : Int} (h : afterErr x y = k) : afterNum x y = afterNum x y ∧ afterErr x y = k := ⟨rfl, h⟩
  by_cases hm : m < 0
  · by_cases h1 : t < 0
    · exact m10 t m n bm bn _ _ _ _ _ _ _ hm (an (after_low h1).2) ⟨rfl, rfl⟩ ⟨rfl, rfl⟩ ⟨rfl, rfl⟩ w
    by_cases h2 : 1099511627776 ≤ t
    · exact m21 t m n bm bn _ _ _ _ _ _ _ hm (an (after_high h2).2) ⟨rfl, rfl⟩ ⟨rfl, rfl⟩ ⟨rfl, rfl⟩ w
    · exact m10 t m n bm bn _ _ _ _ _ _ _ hm (an (after_neg (by omega) (by omega) hm).2) ⟨rfl, rfl⟩ ⟨rfl, rfl⟩ ⟨rfl, rfl⟩ w
  have hm' : 0 ≤ m := by omega
  by_cases hn : n < 0
  · by_cases h1 : t < 0
    · exact n10 t m n bm bn _ _ _ _ _ _ _ hm' hn (an (after_low h1).2) ⟨rfl, rfl⟩ ⟨rfl, rfl⟩ ⟨rfl, rfl⟩ w
    by_cases h2 : 1099511627776 ≤ t
    · exact n21 t m n bm bn _ _ _ _ _ _ _ hm' hn (an (after_high h2).2) ⟨rfl, rfl⟩ ⟨rfl, rfl⟩ ⟨rfl, rfl⟩ w
    by_cases h3 : 1099511627776 ≤ t + m
    · exact n21 t m n bm bn _ _ _ _ _ _ _ hm' hn (an (after_over (by omega) (by omega) hm' h3).2) ⟨rfl, rfl⟩ ⟨rfl, rfl⟩ ⟨rfl, rfl⟩ w
    · exact n0 t m n bm bn _ _ _ _ _ _ hm' hn (after_ok (by omega) hm' (by omega)) (an (after_neg (by omega) (by omega) hn).2) ⟨rfl, rfl⟩ ⟨rfl, rfl⟩ w
  have hn' : 0 ≤ n := by omega
  by_cases h1 : t < 0
  · exact t10 t m n bm bn _ _ _ _ _ _ _ hm' hn' (an (after_low h1).2) ⟨rfl, rfl⟩ ⟨rfl, rfl⟩ ⟨rfl, rfl⟩ (timeErr_low h1) w
  by_cases h2 : 1099511627776 ≤ t
  · exact t21 t m n bm bn _ _ _ _ _ _ _ hm' hn' (an (after_high h2).2) ⟨rfl, rfl⟩ ⟨rfl, rfl⟩ ⟨rfl, rfl⟩ (timeErr_high h2) w
  have h1' : 0 ≤ t := by omega
  have h2' : t < 1099511627776 := by omega
  have hT := timeErr_ok h1' h2'
  by_cases hg : Fit (m + n)
  · have hs := sum_two_fit bm hg
    by_cases h3 : 1099511627776 ≤ t + m
    · exact h21 t m n bm bn _ _ _ _ _ hm' hn' (after_over h1' h2' hm' h3) ⟨rfl, rfl⟩ hs (after_over h1' h2' (by omega) (by omega)) hT w
    by_cases h4 : 1099511627776 ≤ t + m + n
    · exact h0 t m n bm bn _ _ _ _ hm' hn' (after_ok h1' hm' (by omega)) (after_over (by omega) (by omega) hn' h4) hs (after_over h1' h2' (by omega) (by omega)) hT w
    · exact fits t m n bm bn (t + m) (t + m + n) (m + n) (t + (m + n)) hm' hn' (by omega) (by omega) (by omega) (after_ok h1' hm' (by omega)) (after_ok (by omega) hn' (by omega)) hs (after_ok h1' (by omega) (by omega)) hT w
  · have hs := sum_two_over bm hg
    have hg' : 9223372036854775807 < m + n := by
      apply Classical.byContradiction
      intro h; exact hg ⟨by omega, by omega⟩
    by_cases h3 : 1099511627776 ≤ t + m
    · exact g21 t m n bm bn _ _ _ _ _ _ hm' hn' (after_over h1' h2' hm' h3) ⟨rfl, rfl⟩ hs ⟨rfl, rfl⟩ hT w
    · exact g0 t m n bm bn _ _ _ _ _ hm' hn' (after_ok h1' hm' (by omega)) (after_over (by omega) (by omega) hn' (by omega)) hs ⟨rfl, rfl⟩ hT w

set_option maxRecDepth 100000 in
theorem lifted (os : Os) (started : os.Started) (H : Type) (enc : TypeId × Value → H) :
    ReturnsInHanded {} Try.checked os 10 .any (Rows.numAfterSpec.pre6 enc Try.prog Try.f10 Rows.numAfterRow.domain false) (Rows.numAfterSpec.post enc Try.prog Try.f10 false true false false) := by
  refine returnsInHanded_of_change (C := Try.checked) own started (by kernel_rfl) Try.func10
    (ChangeSpec.witness6 (enc := enc) (C := Try.checked) false ⟨#[], #[.int .i64 0, .agg #[.int .i64 0, .int .i64 0]], []⟩ 8 (by kernel_rfl) (by kernel_rfl) (by kernel_rfl) (by kernel_rfl)) ?_
  intro W base args ds gs before hval0 hW hcnd _
  have hval : ∀ (j : Nat) t v, Try.f10.params[j]? = some t → args[j]? = some v → Value.okWide Try.prog W .any base t v := hval0
  have hW' := hW
  obtain ⟨p, q, hA0, hV, _, hfz, hnd⟩ := hW'
  have hA : DataW.TrodAll enc Try.prog W 0 (fun _ => true) true Try.f10.params.toList args.toList ds p := hA0
  rw [Try.params10] at hA hval
  obtain ⟨v0, v1, d0, d1, p0, p1, rfl, _, _, h0, h1⟩ := trodAll_two hA
  obtain ⟨t, rfl, _, _, wt⟩ := open_int Try.underlying3 (hval 0 3 v0 rfl rfl) h0
  obtain ⟨m, n, rfl, wm, wn⟩ := open_arr2 Try.underlying57 Try.underlying3 (by kernel_rfl) (by kernel_rfl) (hval 1 57 v1 rfl rfl) h1
  refine (walk t m n wt wm wn W).mono fun e W' h => ?_
  exact law_post (f := Try.f10) rfl rfl Try.underlying4 (by kernel_rfl) (fun ds hd => by
    match ds, hd with
    | [_, _], _ => rfl) hW h

theorem over : Rows.numAfterRow.holds Try.pinned (OpenSpec.ofChange Rows.numAfterSpec) :=
  OpenClaim.holds_of_wide 10 Try.f10 rfl rfl rfl rfl rfl rfl rfl ⟨rfl, rfl, rfl, rfl, rfl⟩ rfl rfl rfl rfl rfl (by kernel_rfl) Try.func10 (by kernel_rfl)
    (of_decide_eq_true (by kernel_rfl)) (by unfold Func.isWrapper; first | (rw [if_pos (by decide +kernel)]; kernel_rfl) | (rw [if_neg (by decide +kernel)]; exact ⟨rfl, rfl⟩))
    (fun os started H enc _ => lifted os started H enc)

/-- THE STATEMENT. -/
theorem proved : Rows.NumAfterSaid := over
end Go.Proofs.Ytgdgfcogmfhpcaa.numAfter
