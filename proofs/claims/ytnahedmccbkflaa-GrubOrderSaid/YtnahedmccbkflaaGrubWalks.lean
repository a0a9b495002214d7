/- What grub's Check, Spare and Rate answer, and the reference's May and Spare: by walks. No condition. -/
import Derived.Test.YtnahedmccbkflaaBase
import Derived.WalkLawsBesides
import Derived.WalkSpells
import Derived.Outline
namespace Go.Proofs.Ytnahedmccbkflaa
open Go.RowKit

/-- which loads may be. -/
def LoadMay (a c k : Int) : Prop := 0 ≤ a ∧ a ≤ 67108864 ∧ 0 ≤ c ∧ c ≤ 1048576 ∧ 1 ≤ k ∧ k ≤ 16
def loadBox (a c k : Int) : Obj := .cells #[.int .i64 a, .int .i64 c, .int .i64 k] 23

theorem within_in (n m : Int) (h : 0 ≤ n) (h' : n ≤ m) (w : World) : Calls Try.prog 21 #[.int .i64 n, .int .i64 m] w fun e w' => e = .returned (.bool true) ∧ w = w' := by
  go_enter Try.func21, Try.ntmps21
  go_wp2
  go_ret
  exact ⟨rfl, rfl⟩
theorem within_out (n m : Int) (h : n < 0 ∨ m < n) (w : World) : Calls Try.prog 21 #[.int .i64 n, .int .i64 m] w fun e w' => e = .returned (.bool false) ∧ w = w' := by
  by_cases h0 : n < 0
  · clear h
    go_enter Try.func21, Try.ntmps21
    go_wp2
    go_ret
    exact ⟨rfl, rfl⟩
  · have h1 : 0 ≤ n := by omega
    have h2 : decide (n ≤ m) = false := by simp; omega
    clear h h0
    go_enter Try.func21, Try.ntmps21
    go_wp2
    go_ret
    exact ⟨rfl, rfl⟩

set_option maxHeartbeats 400000 in
theorem check_ok (a c k : Int) (h : LoadMay a c k) (w : World) :
    Calls Try.prog 12 #[.agg #[.int .i64 a, .int .i64 c, .int .i64 k]] w fun e w' => e = .returned (.int .i64 0) ∧ w' = w.alloc (loadBox a c k) := by
  obtain ⟨h1, h2, h3, h4, h5, h6⟩ := h
  unfold loadBox
  go_enter Try.func12, Try.ntmps12
  go_wp2
  go_ret
  exact ⟨rfl, rfl⟩

set_option maxHeartbeats 400000 in
theorem check_bad (a c k : Int) (h : ¬ LoadMay a c k) (wk : (Lit.int .i64 k).wf = true) (w : World) :
    Calls Try.prog 12 #[.agg #[.int .i64 a, .int .i64 c, .int .i64 k]] w fun e w' => e = .returned (.int .i64 1) ∧ w' = w.alloc (loadBox a c k) := by
  have hk := bounds_i64 wk
  unfold LoadMay at h
  unfold loadBox
  by_cases h1 : 0 ≤ a
  · by_cases h2 : a ≤ 67108864
    · by_cases h3 : 0 ≤ c
      · by_cases h4 : c ≤ 1048576
        · have h5 : k < 1 ∨ 16 < k := by omega
          clear h
          rcases h5 with h5 | h5
          all_goals
            go_enter Try.func12, Try.ntmps12
            go_wp2
            all_goals (go_ret; exact ⟨rfl, rfl⟩)
        · clear h
          go_enter Try.func12, Try.ntmps12
          go_wp2
          go_ret
          exact ⟨rfl, rfl⟩
      · clear h
        go_enter Try.func12, Try.ntmps12
        go_wp2
        go_ret
        exact ⟨rfl, rfl⟩
    · clear h
      go_enter Try.func12, Try.ntmps12
      go_wp2
      go_ret
      exact ⟨rfl, rfl⟩
  · clear h
    go_enter Try.func12, Try.ntmps12
    go_wp2
    go_ret
    exact ⟨rfl, rfl⟩

theorem mul_le16 {c k : Int} (h3 : 0 ≤ c) (h4 : c ≤ 1048576) (h5 : 1 ≤ k) (h6 : k ≤ 16) : 0 ≤ c * k ∧ c * k ≤ 16777216 := by
  constructor
  · exact Int.mul_nonneg h3 (by omega)
  · have : c * k ≤ 1048576 * 16 := Int.mul_le_mul h4 h6 (by omega) (by omega)
    omega

def spareOf (a c k : Int) : Int := max 0 (c * k - a) / k

set_option maxHeartbeats 400000 in
theorem spare_ok (a c k : Int) (h : LoadMay a c k) (w : World) :
    Calls Try.prog 9 #[.agg #[.int .i64 a, .int .i64 c, .int .i64 k]] w fun e w' => e = .returned (.tuple #[.int .i64 (spareOf a c k), .int .i64 0]) ∧ w' = (w.alloc (loadBox a c k)).alloc (loadBox a c k) := by
  have H := h
  obtain ⟨h1, h2, h3, h4, h5, h6⟩ := h
  obtain ⟨m1, m2⟩ := mul_le16 h3 h4 h5 h6
  unfold loadBox spareOf
  go_enter Try.func9, Try.ntmps9
  go_wp2_with (go_at_call 12; refine (check_ok _ _ _ H _).mono ?_; rintro e w' ⟨rfl, rfl⟩)
  all_goals go_ret2
  · exact ⟨ret2 (int_eq (by rw [Int.max_eq_right (by omega)])) rfl, rfl⟩
  · exact ⟨ret2 (int_eq (by rw [Int.max_eq_left (by omega)]; simp)) rfl, rfl⟩

set_option maxHeartbeats 400000 in
theorem spare_bad (a c k : Int) (h : ¬ LoadMay a c k) (wk : (Lit.int .i64 k).wf = true) (w : World) :
    Calls Try.prog 9 #[.agg #[.int .i64 a, .int .i64 c, .int .i64 k]] w fun e w' => e = .returned (.tuple #[.int .i64 0, .int .i64 1]) ∧ w' = (w.alloc (loadBox a c k)).alloc (loadBox a c k) := by
  have H := Lib.hid h
  have HW := Lib.hid wk
  clear h wk
  unfold loadBox
  go_enter Try.func9, Try.ntmps9
  go_wp2_with (go_at_call 12; refine (check_bad _ _ _ H.out HW.out _).mono ?_; rintro e w' ⟨rfl, rfl⟩)
  go_ret2
  exact ⟨rfl, rfl⟩

/-- what a server is charged of its time. -/
def rateOf (u a c k : Int) : Int := max u (1048576 - spareOf a c k)

theorem quo_range {n k b : Int} (hk : 1 ≤ k) (h0 : 0 ≤ n) (h1 : n ≤ b * k) : 0 ≤ n / k ∧ n / k ≤ b :=
  ⟨Int.ediv_nonneg h0 (by omega), Int.ediv_le_of_le_mul (by omega) h1⟩
theorem spareOf_range {a c k : Int} (h : LoadMay a c k) : 0 ≤ spareOf a c k ∧ spareOf a c k ≤ c ∧ spareOf a c k ≤ 1048576 := by
  obtain ⟨h1, h2, h3, h4, h5, h6⟩ := h
  have m := Int.mul_nonneg h3 (show (0 : Int) ≤ k by omega)
  have := quo_range (n := max 0 (c * k - a)) (k := k) (b := c) h5 (by omega) (by omega)
  unfold spareOf; omega

set_option maxHeartbeats 400000 in
theorem rate_ok (u a c k : Int) (hu : 0 ≤ u) (hu' : u ≤ 1048576) (h : LoadMay a c k) (w : World) :
    Calls Try.prog 10 #[.int .i64 u, .agg #[.int .i64 a, .int .i64 c, .int .i64 k]] w fun e w' => e = .returned (.tuple #[.int .i64 (rateOf u a c k), .int .i64 0]) ∧ w' = ((w.alloc (loadBox a c k)).alloc (loadBox a c k)).alloc (loadBox a c k) := by
  have r := spareOf_range h
  have r1 := r.1
  have r2 := r.2.2
  have H := Lib.hid h
  clear h r
  unfold loadBox rateOf
  generalize hs : spareOf a c k = s at *
  have Hs := Lib.hid hs
  clear hs
  go_enter Try.func10, Try.ntmps10
  go_wp2_with (first | (go_at_call 21; refine (within_in _ _ (by omega) (by omega) _).mono ?_; rintro e w' ⟨rfl, rfl⟩) | (go_at_call 9; refine (spare_ok _ _ _ H.out _).mono ?_; rw [Hs.out]; rintro e w' ⟨rfl, rfl⟩))
  all_goals go_ret2
  · exact ⟨ret2 (int_eq (by omega)) rfl, rfl⟩
  · exact ⟨ret2 (int_eq (by omega)) rfl, rfl⟩

set_option maxHeartbeats 400000 in
theorem rate_bad (u a c k : Int) (hu : 0 ≤ u) (hu' : u ≤ 1048576) (h : ¬ LoadMay a c k) (wk : (Lit.int .i64 k).wf = true) (w : World) :
    Calls Try.prog 10 #[.int .i64 u, .agg #[.int .i64 a, .int .i64 c, .int .i64 k]] w fun e w' => e = .returned (.tuple #[.int .i64 0, .int .i64 1]) ∧ w' = ((w.alloc (loadBox a c k)).alloc (loadBox a c k)).alloc (loadBox a c k) := by
  have H := Lib.hid h
  have HW := Lib.hid wk
  clear h wk
  unfold loadBox
  go_enter Try.func10, Try.ntmps10
  go_wp2_with (first | (go_at_call 21; refine (within_in _ _ (by omega) (by omega) _).mono ?_; rintro e w' ⟨rfl, rfl⟩) | (go_at_call 9; refine (spare_bad _ _ _ H.out HW.out _).mono ?_; rintro e w' ⟨rfl, rfl⟩))
  go_ret2
  exact ⟨rfl, rfl⟩

set_option maxHeartbeats 400000 in
theorem rate_range (u a c k : Int) (hu : u < 0 ∨ 1048576 < u) (w : World) :
    Calls Try.prog 10 #[.int .i64 u, .agg #[.int .i64 a, .int .i64 c, .int .i64 k]] w fun e w' => e = .returned (.tuple #[.int .i64 0, .int .i64 10]) ∧ w' = w.alloc (loadBox a c k) := by
  unfold loadBox
  go_enter Try.func10, Try.ntmps10
  go_wp2_with (go_at_call 21; refine (within_out _ _ hu _).mono ?_; rintro e w' ⟨rfl, rfl⟩)
  go_ret2
  exact ⟨rfl, rfl⟩


set_option maxHeartbeats 400000 in
theorem may_yes (a c k : Int) (h : LoadMay a c k) (w : World) :
    Calls Try.prog 11 #[.agg #[.int .i64 a, .int .i64 c, .int .i64 k]] w fun e w' => e = .returned (.bool true) ∧ w' = w.alloc (loadBox a c k) := by
  obtain ⟨h1, h2, h3, h4, h5, h6⟩ := h
  unfold loadBox
  go_enter Try.func11, Try.ntmps11
  go_wp2
  go_ret
  exact ⟨rfl, rfl⟩
set_option maxHeartbeats 400000 in
theorem May_no (a c k : Int) (h : ¬ LoadMay a c k) (w : World) :
    Calls Try.prog 22 #[.int .i64 a, .int .i64 c, .int .i64 k] w fun e w' => e = .returned (.bool false) ∧ w = w' := by
  unfold LoadMay at h
  by_cases h1 : 0 ≤ a
  · by_cases h2 : a ≤ 67108864
    · by_cases h3 : 0 ≤ c
      · by_cases h4 : c ≤ 1048576
        · by_cases h5 : 1 ≤ k
          · have h6 : decide (k ≤ 16) = false := by simp; omega
            clear h
            go_enter Try.func22, Try.ntmps22
            go_wp2
            go_ret
            exact ⟨rfl, rfl⟩
          · clear h
            go_enter Try.func22, Try.ntmps22
            go_wp2
            go_ret
            exact ⟨rfl, rfl⟩
        · clear h
          go_enter Try.func22, Try.ntmps22
          go_wp2
          go_ret
          exact ⟨rfl, rfl⟩
      · clear h
        go_enter Try.func22, Try.ntmps22
        go_wp2
        go_ret
        exact ⟨rfl, rfl⟩
    · clear h
      go_enter Try.func22, Try.ntmps22
      go_wp2
      go_ret
      exact ⟨rfl, rfl⟩
  · clear h
    go_enter Try.func22, Try.ntmps22
    go_wp2
    go_ret
    exact ⟨rfl, rfl⟩
set_option maxHeartbeats 400000 in
theorem may_no (a c k : Int) (h : ¬ LoadMay a c k) (w : World) :
    Calls Try.prog 11 #[.agg #[.int .i64 a, .int .i64 c, .int .i64 k]] w fun e w' => e = .returned (.bool false) ∧ w' = w.alloc (loadBox a c k) := by
  have H := Lib.hid h
  clear h
  unfold loadBox
  go_enter Try.func11, Try.ntmps11
  go_wp2_with (go_at_call 22; refine (May_no _ _ _ H.out _).mono ?_; rintro e w' ⟨rfl, rfl⟩)
  go_ret
  exact ⟨rfl, rfl⟩

set_option maxHeartbeats 400000 in
theorem refSpare (a c k : Int) (h : LoadMay a c k) (w : World) :
    Calls Try.prog 14 #[.int .i64 a, .int .i64 c, .int .i64 k] w fun e w' => e = .returned (.int .i64 (spareOf a c k)) ∧ w = w' := by
  obtain ⟨h1, h2, h3, h4, h5, h6⟩ := h
  obtain ⟨m1, m2⟩ := mul_le16 h3 h4 h5 h6
  unfold spareOf
  by_cases h0 : c * k - a < 0
  · go_enter Try.func14, Try.ntmps14
    go_wp2
    go_ret
    exact ⟨ret1 (int_eq (by rw [Int.max_eq_left (by omega)]; simp)), rfl⟩
  · have h0' : 0 ≤ c * k - a := by omega
    clear h0
    go_enter Try.func14, Try.ntmps14
    go_wp2
    go_ret
    exact ⟨ret1 (int_eq (by rw [Int.max_eq_right (by omega)])), rfl⟩

def meterBox (r : Int) : Obj := .cells #[.int .i64 r] 35
theorem owed_yes (r : Int) (h : 0 ≤ r) (h' : r ≤ 1048575) (w : World) : Calls Try.prog 23 #[.agg #[.int .i64 r]] w fun e w' => e = .returned (.bool true) ∧ w' = w.alloc (meterBox r) := by
  unfold meterBox
  go_enter Try.func23, Try.ntmps23
  go_wp2_with (go_at_call 21; refine (within_in _ _ h h' _).mono ?_; rintro e w' ⟨rfl, rfl⟩)
  go_ret
  exact ⟨rfl, rfl⟩
theorem owed_no (r : Int) (h : r < 0 ∨ 1048575 < r) (w : World) : Calls Try.prog 23 #[.agg #[.int .i64 r]] w fun e w' => e = .returned (.bool false) ∧ w' = w.alloc (meterBox r) := by
  have H := Lib.hid h
  clear h
  unfold meterBox
  go_enter Try.func23, Try.ntmps23
  go_wp2_with (go_at_call 21; refine (within_out _ _ H.out _).mono ?_; rintro e w' ⟨rfl, rfl⟩)
  go_ret
  exact ⟨rfl, rfl⟩
/-- what is wrong with a time. -/
def timeErr (t : Int) : Int := if t < 0 then 10 else if 1099511627776 ≤ t then 21 else 0
theorem time_any (t : Int) (w : World) : Calls Try.prog 24 #[.int .i64 t] w fun e w' => e = .returned (.int .i64 (timeErr t)) ∧ w = w' := by
  unfold timeErr
  by_cases h0 : t < 0
  · go_enter Try.func24, Try.ntmps24
    go_wp2
    go_ret
    exact ⟨rfl, rfl⟩
  · by_cases h1 : 1099511627776 ≤ t
    · go_enter Try.func24, Try.ntmps24
      go_wp2
      go_ret
      exact ⟨rfl, rfl⟩
    · have h2 : t < 1099511627776 := by omega
      have h3 : 0 ≤ t := by omega
      clear h0 h1
      go_enter Try.func24, Try.ntmps24
      go_wp2
      go_ret
      exact ⟨rfl, rfl⟩
theorem mul_time {t p : Int} (h0 : 0 ≤ t) (h1 : t < 1099511627776) (h2 : 0 ≤ p) (h3 : p ≤ 1048576) : 0 ≤ t * p ∧ t * p ≤ 1152921504605798400 := by
  constructor
  · exact Int.mul_nonneg h0 h2
  · have : t * p ≤ 1099511627775 * 1048576 := Int.mul_le_mul (by omega) h3 h2 (by omega)
    omega

set_option maxHeartbeats 400000 in
theorem charge_ok (r t p : Int) (hr : 0 ≤ r) (hr' : r ≤ 1048575) (ht : 0 ≤ t) (ht' : t < 1099511627776) (hp : 0 ≤ p) (hp' : p ≤ 1048576) (w : World) :
    Calls Try.prog 15 #[.agg #[.int .i64 r], .int .i64 t, .int .i64 p] w fun e w' =>
      e = .returned (.tuple #[.int .i64 ((t * p + r) / 1048576), .agg #[.int .i64 ((t * p + r) % 1048576)], .int .i64 0]) ∧ w' = ((w.alloc (meterBox r)).alloc (meterBox ((t * p + r) % 1048576))).alloc (meterBox r) := by
  obtain ⟨m1, m2⟩ := mul_time ht ht' hp hp'
  have e1 : timeErr t = 0 := by unfold timeErr; rw [if_neg (by omega), if_neg (by omega)]
  have E1 := Lib.hid e1
  clear e1
  unfold meterBox
  go_enter Try.func15, Try.ntmps15
  go_wp2_with (first | (go_at_call 23; refine (owed_yes _ hr hr' _).mono ?_; rintro e w' ⟨rfl, rfl⟩) | (go_at_call 24; refine (time_any _ _).mono ?_; rw [E1.out]; rintro e w' ⟨rfl, rfl⟩) | (go_at_call 21; refine (within_in _ _ (by omega) (by omega) _).mono ?_; rintro e w' ⟨rfl, rfl⟩))
  exact bodyPost_ret (v := .tuple #[.int .i64 ((t * p + r) / 1048576), .agg #[.int .i64 ((t * p + r) % 1048576)], .int .i64 0]) (by simp [results, Try.results15, go_sem]) rfl ⟨rfl, rfl⟩

end Go.Proofs.Ytnahedmccbkflaa
