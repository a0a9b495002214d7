/- What the reference of layer 21 answers: Time, Both, Wrong. Each theorem's premises are its conditions. -/
import Derived.Test.YtfpifaccjfgfkaaTraceWins
import Derived.BigQuiet
import Derived.Deep.QuietTactic
namespace Go.Proofs.Ytfpifaccjfgfkaa
open Go.ChangeShapes Go.WideShapes Go.ChangeAt Go.RowKit Go.Deep
attribute [local go_sem] Oper.semAt_some

theorem rtime_any (t : Int) (w : World) : Calls Try.prog 52 #[.int .i64 t] w fun e w' => e = .returned (.int .i64 (timeErr t)) ∧ w' = w := by
  unfold timeErr
  by_cases h : t < 0
  · have d : decide (t < 0) = true := decide_eq_true h
    rw [if_pos h]
    clear h
    go_enter Try.func52, Try.ntmps52
    go_wp2
    go_ret
    exact ⟨rfl, rfl⟩
  · have d : decide (t < 0) = false := decide_eq_false h
    rw [if_neg h]
    by_cases h2 : 1099511627776 ≤ t
    · have d2 : decide (1099511627776 ≤ t) = true := decide_eq_true h2
      rw [if_pos h2]
      clear h h2
      go_enter Try.func52, Try.ntmps52
      go_wp2
      go_ret
      exact ⟨rfl, rfl⟩
    · have d2 : decide (1099511627776 ≤ t) = false := decide_eq_false h2
      rw [if_neg h2]
      clear h h2
      go_enter Try.func52, Try.ntmps52
      go_wp2
      go_ret
      exact ⟨rfl, rfl⟩
theorem rboth_any (a b f t : Int) (ha : Tm a) (hb : Tm b) (hf : Tm f) (ht : Tm t) (w : World) : Calls Try.prog 41 #[.int .i64 a, .int .i64 b, .int .i64 f, .int .i64 t] w fun e w' => e = .returned (.int .i64 (bothOf a b f t)) ∧ w' = w := by
  obtain ⟨a1, a2⟩ := ha
  obtain ⟨b1, b2⟩ := hb
  obtain ⟨f1, f2⟩ := hf
  obtain ⟨t1, t2⟩ := ht
  have hm := Lib.hid (show bothOf a b f t = max 0 (min b t - max a f) from rfl)
  generalize bothOf a b f t = B at *
  go_enter Try.func41, Try.ntmps41
  go_wp2
  all_goals go_ret
  all_goals refine ⟨ret1 (int_eq ?_), rfl⟩
  all_goals (rw [hm.out]; first | omega | (dsimp only [Array.getD]; omega))
set_option maxHeartbeats 400000 in
theorem wrong_0 (c : Chg) (w : World)  (_h0 : c.sv < 0) : Calls Try.prog 40 #[.agg #[.int .i64 c.sv, .int .i64 c.wk, .int .i64 c.th, .int .i64 c.fr, .int .i64 c.to, .int .i64 c.n]] w (Gives (.int .i64 1) w) := by
  have d0 : decide (c.sv < 0) = true := decide_eq_true (by omega)
  clear _h0
  go_enter Try.func40, Try.ntmps40
  go_wp2_with fail
  go_ret
  exact ⟨rfl, bel_alloc (Below.refl _ _)⟩
set_option maxHeartbeats 400000 in
theorem wrong_1 (c : Chg) (w : World) (_h0 : ¬ c.sv < 0) (_h1 : 63 < c.sv) : Calls Try.prog 40 #[.agg #[.int .i64 c.sv, .int .i64 c.wk, .int .i64 c.th, .int .i64 c.fr, .int .i64 c.to, .int .i64 c.n]] w (Gives (.int .i64 1) w) := by
  have d0 : decide (c.sv < 0) = false := decide_eq_false (by omega)
  have d1 : decide (63 < c.sv) = true := decide_eq_true (by omega)
  clear _h0 _h1
  go_enter Try.func40, Try.ntmps40
  go_wp2_with fail
  go_ret
  exact ⟨rfl, bel_alloc (Below.refl _ _)⟩
set_option maxHeartbeats 400000 in
theorem wrong_2 (c : Chg) (w : World) (_h0 : ¬ c.sv < 0) (_h1 : ¬ 63 < c.sv) (_h2 : c.th < 0) : Calls Try.prog 40 #[.agg #[.int .i64 c.sv, .int .i64 c.wk, .int .i64 c.th, .int .i64 c.fr, .int .i64 c.to, .int .i64 c.n]] w (Gives (.int .i64 1) w) := by
  have d0 : decide (c.sv < 0) = false := decide_eq_false (by omega)
  have d1 : decide (63 < c.sv) = false := decide_eq_false (by omega)
  have d2 : decide (c.th < 0) = true := decide_eq_true (by omega)
  clear _h0 _h1 _h2
  go_enter Try.func40, Try.ntmps40
  go_wp2_with fail
  go_ret
  exact ⟨rfl, bel_alloc (Below.refl _ _)⟩
set_option maxHeartbeats 400000 in
theorem wrong_3 (c : Chg) (w : World) (_h0 : ¬ c.sv < 0) (_h1 : ¬ 63 < c.sv) (_h2 : ¬ c.th < 0) (_h3 : 63 < c.th) : Calls Try.prog 40 #[.agg #[.int .i64 c.sv, .int .i64 c.wk, .int .i64 c.th, .int .i64 c.fr, .int .i64 c.to, .int .i64 c.n]] w (Gives (.int .i64 1) w) := by
  have d0 : decide (c.sv < 0) = false := decide_eq_false (by omega)
  have d1 : decide (63 < c.sv) = false := decide_eq_false (by omega)
  have d2 : decide (c.th < 0) = false := decide_eq_false (by omega)
  have d3 : decide (63 < c.th) = true := decide_eq_true (by omega)
  clear _h0 _h1 _h2 _h3
  go_enter Try.func40, Try.ntmps40
  go_wp2_with fail
  go_ret
  exact ⟨rfl, bel_alloc (Below.refl _ _)⟩
set_option maxHeartbeats 400000 in
theorem wrong_4 (c : Chg) (w : World) (_h0 : ¬ c.sv < 0) (_h1 : ¬ 63 < c.sv) (_h2 : ¬ c.th < 0) (_h3 : ¬ 63 < c.th) (_h4 : c.wk < 0) : Calls Try.prog 40 #[.agg #[.int .i64 c.sv, .int .i64 c.wk, .int .i64 c.th, .int .i64 c.fr, .int .i64 c.to, .int .i64 c.n]] w (Gives (.int .i64 1) w) := by
  have d0 : decide (c.sv < 0) = false := decide_eq_false (by omega)
  have d1 : decide (63 < c.sv) = false := decide_eq_false (by omega)
  have d2 : decide (c.th < 0) = false := decide_eq_false (by omega)
  have d3 : decide (63 < c.th) = false := decide_eq_false (by omega)
  have d4 : decide (c.wk < 0) = true := decide_eq_true (by omega)
  clear _h0 _h1 _h2 _h3 _h4
  go_enter Try.func40, Try.ntmps40
  go_wp2_with fail
  go_ret
  exact ⟨rfl, bel_alloc (Below.refl _ _)⟩
set_option maxHeartbeats 400000 in
theorem wrong_5 (c : Chg) (w : World) (_h0 : ¬ c.sv < 0) (_h1 : ¬ 63 < c.sv) (_h2 : ¬ c.th < 0) (_h3 : ¬ 63 < c.th) (_h4 : ¬ c.wk < 0) (_h5 : 15 < c.wk) : Calls Try.prog 40 #[.agg #[.int .i64 c.sv, .int .i64 c.wk, .int .i64 c.th, .int .i64 c.fr, .int .i64 c.to, .int .i64 c.n]] w (Gives (.int .i64 1) w) := by
  have d0 : decide (c.sv < 0) = false := decide_eq_false (by omega)
  have d1 : decide (63 < c.sv) = false := decide_eq_false (by omega)
  have d2 : decide (c.th < 0) = false := decide_eq_false (by omega)
  have d3 : decide (63 < c.th) = false := decide_eq_false (by omega)
  have d4 : decide (c.wk < 0) = false := decide_eq_false (by omega)
  have d5 : decide (15 < c.wk) = true := decide_eq_true (by omega)
  clear _h0 _h1 _h2 _h3 _h4 _h5
  go_enter Try.func40, Try.ntmps40
  go_wp2_with fail
  go_ret
  exact ⟨rfl, bel_alloc (Below.refl _ _)⟩
set_option maxHeartbeats 400000 in
theorem wrong_6 (c : Chg) (w : World) (h0 : 0 ≤ c.sv) (h1 : c.sv ≤ 63) (h2 : 0 ≤ c.th) (h3 : c.th ≤ 63) (h4 : 0 ≤ c.wk) (h5 : c.wk ≤ 15) (h : timeErr c.fr ≠ 0) : Calls Try.prog 40 #[.agg #[.int .i64 c.sv, .int .i64 c.wk, .int .i64 c.th, .int .i64 c.fr, .int .i64 c.to, .int .i64 c.n]] w (Gives (.int .i64 (timeErr c.fr)) w) := by
  have T1 := Lib.hid (rtime_any c.fr)
  have d0 : decide (c.sv < 0) = false := decide_eq_false (by omega)
  have d1 : decide (63 < c.sv) = false := decide_eq_false (by omega)
  have d2 : decide (c.th < 0) = false := decide_eq_false (by omega)
  have d3 : decide (63 < c.th) = false := decide_eq_false (by omega)
  have d4 : decide (c.wk < 0) = false := decide_eq_false (by omega)
  have d5 : decide (15 < c.wk) = false := decide_eq_false (by omega)
  clear h0 h1 h2 h3 h4 h5
  generalize timeErr c.fr = E at *
  have e1 : (E == 0) = false := by rw [beq_eq_false_iff_ne]; exact h
  clear h
  go_enter Try.func40, Try.ntmps40
  go_wp2_with fail
  refine (T1.out _).mono ?_
  rintro e w1 ⟨rfl, rfl⟩
  go_wp2_with fail
  go_ret
  exact ⟨rfl, bel_alloc (Below.refl _ _)⟩

set_option maxHeartbeats 400000 in
theorem wrong_7 (c : Chg) (w : World) (h0 : 0 ≤ c.sv) (h1 : c.sv ≤ 63) (h2 : 0 ≤ c.th) (h3 : c.th ≤ 63) (h4 : 0 ≤ c.wk) (h5 : c.wk ≤ 15) (h : timeErr c.fr = 0) (h' : timeErr c.to ≠ 0) : Calls Try.prog 40 #[.agg #[.int .i64 c.sv, .int .i64 c.wk, .int .i64 c.th, .int .i64 c.fr, .int .i64 c.to, .int .i64 c.n]] w (Gives (.int .i64 (timeErr c.to)) w) := by
  have T1 := Lib.hid (rtime_any c.fr)
  have T2 := Lib.hid (rtime_any c.to)
  rw [h] at T1
  have d0 : decide (c.sv < 0) = false := decide_eq_false (by omega)
  have d1 : decide (63 < c.sv) = false := decide_eq_false (by omega)
  have d2 : decide (c.th < 0) = false := decide_eq_false (by omega)
  have d3 : decide (63 < c.th) = false := decide_eq_false (by omega)
  have d4 : decide (c.wk < 0) = false := decide_eq_false (by omega)
  have d5 : decide (15 < c.wk) = false := decide_eq_false (by omega)
  clear h0 h1 h2 h3 h4 h5
  generalize timeErr c.to = E at *
  have e1 : (E == 0) = false := by rw [beq_eq_false_iff_ne]; exact h'
  clear h h'
  go_enter Try.func40, Try.ntmps40
  go_wp2_with fail
  refine (T1.out _).mono ?_
  rintro e w1 ⟨rfl, rfl⟩
  go_wp2_with fail
  refine (T2.out _).mono ?_
  rintro e w1 ⟨rfl, rfl⟩
  go_wp2_with fail
  go_ret
  exact ⟨rfl, bel_alloc (Below.refl _ _)⟩

set_option maxHeartbeats 400000 in
theorem wrong_8 (c : Chg) (w : World) (h0 : 0 ≤ c.sv) (h1 : c.sv ≤ 63) (h2 : 0 ≤ c.th) (h3 : c.th ≤ 63) (h4 : 0 ≤ c.wk) (h5 : c.wk ≤ 15) (h : timeErr c.fr = 0) (h' : timeErr c.to = 0)  (k0 : c.to ≤ c.fr) : Calls Try.prog 40 #[.agg #[.int .i64 c.sv, .int .i64 c.wk, .int .i64 c.th, .int .i64 c.fr, .int .i64 c.to, .int .i64 c.n]] w (Gives (.int .i64 10) w) := by
  have T1 := Lib.hid (rtime_any c.fr)
  have T2 := Lib.hid (rtime_any c.to)
  obtain ⟨g1, g2⟩ := time_zero.1 h
  obtain ⟨g3, g4⟩ := time_zero.1 h'
  rw [h] at T1
  rw [h'] at T2
  have d0 : decide (c.sv < 0) = false := decide_eq_false (by omega)
  have d1 : decide (63 < c.sv) = false := decide_eq_false (by omega)
  have d2 : decide (c.th < 0) = false := decide_eq_false (by omega)
  have d3 : decide (63 < c.th) = false := decide_eq_false (by omega)
  have d4 : decide (c.wk < 0) = false := decide_eq_false (by omega)
  have d5 : decide (15 < c.wk) = false := decide_eq_false (by omega)
  clear h0 h1 h2 h3 h4 h5
  have s0 : decide (c.to ≤ c.fr) = true := decide_eq_true k0
  clear k0 h h'
  go_enter Try.func40, Try.ntmps40
  go_wp2_with fail
  refine (T1.out _).mono ?_
  rintro e w1 ⟨rfl, rfl⟩
  go_wp2_with fail
  refine (T2.out _).mono ?_
  rintro e w1 ⟨rfl, rfl⟩
  go_wp2_with fail
  go_ret
  exact ⟨rfl, bel_alloc (Below.refl _ _)⟩

set_option maxHeartbeats 400000 in
theorem wrong_9 (c : Chg) (w : World) (h0 : 0 ≤ c.sv) (h1 : c.sv ≤ 63) (h2 : 0 ≤ c.th) (h3 : c.th ≤ 63) (h4 : 0 ≤ c.wk) (h5 : c.wk ≤ 15) (h : timeErr c.fr = 0) (h' : timeErr c.to = 0) (k0 : ¬ c.to ≤ c.fr) (k1 : c.n < 0) : Calls Try.prog 40 #[.agg #[.int .i64 c.sv, .int .i64 c.wk, .int .i64 c.th, .int .i64 c.fr, .int .i64 c.to, .int .i64 c.n]] w (Gives (.int .i64 10) w) := by
  have T1 := Lib.hid (rtime_any c.fr)
  have T2 := Lib.hid (rtime_any c.to)
  obtain ⟨g1, g2⟩ := time_zero.1 h
  obtain ⟨g3, g4⟩ := time_zero.1 h'
  rw [h] at T1
  rw [h'] at T2
  have d0 : decide (c.sv < 0) = false := decide_eq_false (by omega)
  have d1 : decide (63 < c.sv) = false := decide_eq_false (by omega)
  have d2 : decide (c.th < 0) = false := decide_eq_false (by omega)
  have d3 : decide (63 < c.th) = false := decide_eq_false (by omega)
  have d4 : decide (c.wk < 0) = false := decide_eq_false (by omega)
  have d5 : decide (15 < c.wk) = false := decide_eq_false (by omega)
  clear h0 h1 h2 h3 h4 h5
  have s0 : decide (c.to ≤ c.fr) = false := decide_eq_false k0
  have s1 : decide (c.n < 0) = true := decide_eq_true k1
  clear k0 k1 h h'
  go_enter Try.func40, Try.ntmps40
  go_wp2_with fail
  refine (T1.out _).mono ?_
  rintro e w1 ⟨rfl, rfl⟩
  go_wp2_with fail
  refine (T2.out _).mono ?_
  rintro e w1 ⟨rfl, rfl⟩
  go_wp2_with fail
  go_ret
  exact ⟨rfl, bel_alloc (Below.refl _ _)⟩

set_option maxHeartbeats 400000 in
theorem wrong_10 (c : Chg) (w : World) (h0 : 0 ≤ c.sv) (h1 : c.sv ≤ 63) (h2 : 0 ≤ c.th) (h3 : c.th ≤ 63) (h4 : 0 ≤ c.wk) (h5 : c.wk ≤ 15) (h : timeErr c.fr = 0) (h' : timeErr c.to = 0) (k0 : ¬ c.to ≤ c.fr) (k1 : ¬ c.n < 0) (k2 : c.to - c.fr < c.n) : Calls Try.prog 40 #[.agg #[.int .i64 c.sv, .int .i64 c.wk, .int .i64 c.th, .int .i64 c.fr, .int .i64 c.to, .int .i64 c.n]] w (Gives (.int .i64 10) w) := by
  have T1 := Lib.hid (rtime_any c.fr)
  have T2 := Lib.hid (rtime_any c.to)
  obtain ⟨g1, g2⟩ := time_zero.1 h
  obtain ⟨g3, g4⟩ := time_zero.1 h'
  rw [h] at T1
  rw [h'] at T2
  have d0 : decide (c.sv < 0) = false := decide_eq_false (by omega)
  have d1 : decide (63 < c.sv) = false := decide_eq_false (by omega)
  have d2 : decide (c.th < 0) = false := decide_eq_false (by omega)
  have d3 : decide (63 < c.th) = false := decide_eq_false (by omega)
  have d4 : decide (c.wk < 0) = false := decide_eq_false (by omega)
  have d5 : decide (15 < c.wk) = false := decide_eq_false (by omega)
  clear h0 h1 h2 h3 h4 h5
  have s0 : decide (c.to ≤ c.fr) = false := decide_eq_false k0
  have s1 : decide (c.n < 0) = false := decide_eq_false k1
  have s2 : decide (c.to - c.fr < c.n) = true := decide_eq_true k2
  clear k0 k1 k2 h h'
  go_enter Try.func40, Try.ntmps40
  go_wp2_with fail
  refine (T1.out _).mono ?_
  rintro e w1 ⟨rfl, rfl⟩
  go_wp2_with fail
  refine (T2.out _).mono ?_
  rintro e w1 ⟨rfl, rfl⟩
  go_wp2_with fail
  go_ret
  exact ⟨rfl, bel_alloc (Below.refl _ _)⟩

set_option maxHeartbeats 400000 in
theorem wrong_11 (c : Chg) (w : World) (h0 : 0 ≤ c.sv) (h1 : c.sv ≤ 63) (h2 : 0 ≤ c.th) (h3 : c.th ≤ 63) (h4 : 0 ≤ c.wk) (h5 : c.wk ≤ 15) (h : timeErr c.fr = 0) (h' : timeErr c.to = 0) (k0 : ¬ c.to ≤ c.fr) (k1 : ¬ c.n < 0) (k2 : ¬ c.to - c.fr < c.n) : Calls Try.prog 40 #[.agg #[.int .i64 c.sv, .int .i64 c.wk, .int .i64 c.th, .int .i64 c.fr, .int .i64 c.to, .int .i64 c.n]] w (Gives (.int .i64 0) w) := by
  have T1 := Lib.hid (rtime_any c.fr)
  have T2 := Lib.hid (rtime_any c.to)
  obtain ⟨g1, g2⟩ := time_zero.1 h
  obtain ⟨g3, g4⟩ := time_zero.1 h'
  rw [h] at T1
  rw [h'] at T2
  have d0 : decide (c.sv < 0) = false := decide_eq_false (by omega)
  have d1 : decide (63 < c.sv) = false := decide_eq_false (by omega)
  have d2 : decide (c.th < 0) = false := decide_eq_false (by omega)
  have d3 : decide (63 < c.th) = false := decide_eq_false (by omega)
  have d4 : decide (c.wk < 0) = false := decide_eq_false (by omega)
  have d5 : decide (15 < c.wk) = false := decide_eq_false (by omega)
  clear h0 h1 h2 h3 h4 h5
  have s0 : decide (c.to ≤ c.fr) = false := decide_eq_false k0
  have s1 : decide (c.n < 0) = false := decide_eq_false k1
  have s2 : decide (c.to - c.fr < c.n) = false := decide_eq_false k2
  clear k0 k1 k2 h h'
  go_enter Try.func40, Try.ntmps40
  go_wp2_with fail
  refine (T1.out _).mono ?_
  rintro e w1 ⟨rfl, rfl⟩
  go_wp2_with fail
  refine (T2.out _).mono ?_
  rintro e w1 ⟨rfl, rfl⟩
  go_wp2_with fail
  go_ret
  exact ⟨rfl, bel_alloc (Below.refl _ _)⟩

theorem in_split {c : Chg} : (inB c.sv 64 && inB c.th 64 && inB c.wk 16) = true ↔ 0 ≤ c.sv ∧ c.sv ≤ 63 ∧ 0 ≤ c.th ∧ c.th ≤ 63 ∧ 0 ≤ c.wk ∧ c.wk ≤ 15 := by
  rw [Bool.and_eq_true, Bool.and_eq_true, inB_true, inB_true, inB_true]
  omega
theorem wrong_any (c : Chg) (w : World) : Calls Try.prog 40 #[.agg #[.int .i64 c.sv, .int .i64 c.wk, .int .i64 c.th, .int .i64 c.fr, .int .i64 c.to, .int .i64 c.n]] w (Gives (.int .i64 (chkErr c)) w) := by
  by_cases h : (inB c.sv 64 && inB c.th 64 && inB c.wk 16) = true
  · obtain ⟨h0, h1, h2, h3, h4, h5⟩ := in_split.1 h
    by_cases ha : timeErr c.fr = 0
    · by_cases hb : timeErr c.to = 0
      · have hf : first2 (timeErr c.fr) (timeErr c.to) = 0 := first_zero.2 ⟨ha, hb⟩
        have hc : chkErr c = if c.to ≤ c.fr ∨ c.n < 0 ∨ c.to - c.fr < c.n then 10 else 0 := by unfold chkErr; rw [if_neg (by rw [h]; decide), if_neg (fun hn => hn hf)]
        rw [hc]
        by_cases k0 : c.to ≤ c.fr
        · rw [if_pos (.inl k0)]; exact wrong_8 c w h0 h1 h2 h3 h4 h5 ha hb k0
        · by_cases k1 : c.n < 0
          · rw [if_pos (.inr (.inl k1))]; exact wrong_9 c w h0 h1 h2 h3 h4 h5 ha hb k0 k1
          · by_cases k2 : c.to - c.fr < c.n
            · rw [if_pos (.inr (.inr k2))]; exact wrong_10 c w h0 h1 h2 h3 h4 h5 ha hb k0 k1 k2
            · rw [if_neg (by omega)]; exact wrong_11 c w h0 h1 h2 h3 h4 h5 ha hb k0 k1 k2
      · have hf : first2 (timeErr c.fr) (timeErr c.to) = timeErr c.to := by unfold first2; rw [if_pos ha]
        have hc : chkErr c = timeErr c.to := by unfold chkErr; rw [if_neg (by rw [h]; decide), hf, if_pos hb]
        rw [hc]; exact wrong_7 c w h0 h1 h2 h3 h4 h5 ha hb
    · have hf : first2 (timeErr c.fr) (timeErr c.to) = timeErr c.fr := by unfold first2; rw [if_neg ha]
      have hc : chkErr c = timeErr c.fr := by unfold chkErr; rw [if_neg (by rw [h]; decide), hf, if_pos ha]
      rw [hc]; exact wrong_6 c w h0 h1 h2 h3 h4 h5 ha
  · have hc : chkErr c = 1 := by unfold chkErr; rw [if_pos (by simpa using h)]
    rw [in_split] at h
    rw [hc]
    by_cases h0 : c.sv < 0
    · exact wrong_0 c w h0
    · by_cases h1 : 63 < c.sv
      · exact wrong_1 c w h0 h1
      · by_cases h2 : c.th < 0
        · exact wrong_2 c w h0 h1 h2
        · by_cases h3 : 63 < c.th
          · exact wrong_3 c w h0 h1 h2 h3
          · by_cases h4 : c.wk < 0
            · exact wrong_4 c w h0 h1 h2 h3 h4
            · by_cases h5 : 15 < c.wk
              · exact wrong_5 c w h0 h1 h2 h3 h4 h5
              · exact absurd ⟨by omega, by omega, by omega, by omega, by omega, by omega⟩ h
end Go.Proofs.Ytfpifaccjfgfkaa
