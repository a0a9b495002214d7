/- RatioParts answers true at every two ratios, and every two times. No condition. -/
import Derived.Test.YtbjahjepgjaomaaRatioAwake
import Derived.Test.YtbjahjepgjaomaaQuotLaws
import Derived.WalkLawsBesides
import Derived.WalkSpells
import Derived.Outline
import Derived.Deep.QuietTactic
import Derived.BigQuiet
import Derived.Deep.CutBlock
import Derived.Deep.DeepCutAuto
namespace Go.Proofs.Ytbjahjepgjaomaa.ratioParts
open Go.ChangeShapes Go.WideShapes Go.ChangeAt Go.RowKit Go.Joins

/-! ### the plain law -/
theorem plain_false (r s t u : Nat) (hr : r ≤ 4194304) (hs : s ≤ 4194304) (ht : t ≤ 1099511627776) (hu : u ≤ 1099511627776) :
    ∃ a b c d x : Nat, divNum r t 1048576 false = a ∧ divErr r t 1048576 false = 0 ∧ divNum s t 1048576 false = b ∧ divErr s t 1048576 false = 0 ∧ divNum (r + s : Nat) t 1048576 false = c ∧ divErr (r + s : Nat) t 1048576 false = 0 ∧
      divNum r u 1048576 false = d ∧ divErr r u 1048576 false = 0 ∧ divNum r (t + u : Nat) 1048576 false = x ∧ divErr r (t + u : Nat) 1048576 false = 0 ∧ a + b ≤ c ∧ c ≤ a + b + 1 ∧ a + d ≤ x ∧ x ≤ a + d + 1 ∧
      a ≤ 8796093022208 ∧ b ≤ 8796093022208 ∧ c ≤ 8796093022208 ∧ d ≤ 8796093022208 ∧ x ≤ 8796093022208 := by
  have f (n : Nat) (h : n ≤ 8796093022208 * 1048576) : quot false n 1048576 ≤ 8796093022208 := quot_fit false (by omega) h
  have g (y z : Nat) (h : y ≤ 8388608) (h' : z ≤ 1099511627776) : y * z ≤ 8388608 * 1099511627776 := Nat.mul_le_mul h h'
  have g2 (y z : Nat) (h : y ≤ 4194304) (h' : z ≤ 2199023255552) : y * z ≤ 4194304 * 2199023255552 := Nat.mul_le_mul h h'
  have f1 := f _ (g r t (by omega) (by omega))
  have f2 := f _ (g s t (by omega) (by omega))
  have f3 := f _ (g (r + s) t (by omega) (by omega))
  have f4 := f _ (g r u (by omega) (by omega))
  have f5 := f _ (g2 r (t + u) (by omega) (by omega))
  have l1 := quot_add_down (r * t) (s * t) 1048576 (by omega)
  have l2 := quot_add_down (r * t) (r * u) 1048576 (by omega)
  rw [← Nat.add_mul] at l1
  rw [← Nat.mul_add] at l2
  have r1 := divRes_nat (x := r) (y := t) (c := 1048576) (up := false) (by omega) (Nat.le_trans f1 (by omega))
  have r2 := divRes_nat (x := s) (y := t) (c := 1048576) (up := false) (by omega) (Nat.le_trans f2 (by omega))
  have r3 := divRes_nat (x := r + s) (y := t) (c := 1048576) (up := false) (by omega) (Nat.le_trans f3 (by omega))
  have r4 := divRes_nat (x := r) (y := u) (c := 1048576) (up := false) (by omega) (Nat.le_trans f4 (by omega))
  have r5 := divRes_nat (x := r) (y := t + u) (c := 1048576) (up := false) (by omega) (Nat.le_trans f5 (by omega))
  exact ⟨_, _, _, _, _, r1.1, r1.2, r2.1, r2.2, r3.1, r3.2, r4.1, r4.2, r5.1, r5.2, l1.1, l1.2, l2.1, l2.2, f1, f2, f3, f4, f5⟩
theorem plain_true (r s t u : Nat) (hr : r ≤ 4194304) (hs : s ≤ 4194304) (ht : t ≤ 1099511627776) (hu : u ≤ 1099511627776) :
    ∃ a b c d x : Nat, divNum r t 1048576 true = a ∧ divErr r t 1048576 true = 0 ∧ divNum s t 1048576 true = b ∧ divErr s t 1048576 true = 0 ∧ divNum (r + s : Nat) t 1048576 true = c ∧ divErr (r + s : Nat) t 1048576 true = 0 ∧
      divNum r u 1048576 true = d ∧ divErr r u 1048576 true = 0 ∧ divNum r (t + u : Nat) 1048576 true = x ∧ divErr r (t + u : Nat) 1048576 true = 0 ∧ c ≤ a + b ∧ a + b ≤ c + 1 ∧ x ≤ a + d ∧ a + d ≤ x + 1 ∧
      a ≤ 8796093022208 ∧ b ≤ 8796093022208 ∧ c ≤ 8796093022208 ∧ d ≤ 8796093022208 ∧ x ≤ 8796093022208 := by
  have f (n : Nat) (h : n ≤ 8796093022208 * 1048576) : quot true n 1048576 ≤ 8796093022208 := quot_fit true (by omega) h
  have g (y z : Nat) (h : y ≤ 8388608) (h' : z ≤ 1099511627776) : y * z ≤ 8388608 * 1099511627776 := Nat.mul_le_mul h h'
  have g2 (y z : Nat) (h : y ≤ 4194304) (h' : z ≤ 2199023255552) : y * z ≤ 4194304 * 2199023255552 := Nat.mul_le_mul h h'
  have f1 := f _ (g r t (by omega) (by omega))
  have f2 := f _ (g s t (by omega) (by omega))
  have f3 := f _ (g (r + s) t (by omega) (by omega))
  have f4 := f _ (g r u (by omega) (by omega))
  have f5 := f _ (g2 r (t + u) (by omega) (by omega))
  have l1 := quot_add_up (r * t) (s * t) 1048576 (by omega)
  have l2 := quot_add_up (r * t) (r * u) 1048576 (by omega)
  rw [← Nat.add_mul] at l1
  rw [← Nat.mul_add] at l2
  have r1 := divRes_nat (x := r) (y := t) (c := 1048576) (up := true) (by omega) (Nat.le_trans f1 (by omega))
  have r2 := divRes_nat (x := s) (y := t) (c := 1048576) (up := true) (by omega) (Nat.le_trans f2 (by omega))
  have r3 := divRes_nat (x := r + s) (y := t) (c := 1048576) (up := true) (by omega) (Nat.le_trans f3 (by omega))
  have r4 := divRes_nat (x := r) (y := u) (c := 1048576) (up := true) (by omega) (Nat.le_trans f4 (by omega))
  have r5 := divRes_nat (x := r) (y := t + u) (c := 1048576) (up := true) (by omega) (Nat.le_trans f5 (by omega))
  exact ⟨_, _, _, _, _, r1.1, r1.2, r2.1, r2.2, r3.1, r3.2, r4.1, r4.2, r5.1, r5.2, l1.1, l1.2, l2.1, l2.2, f1, f2, f3, f4, f5⟩

/-! ### the walk -/
set_option maxRecDepth 100000 in
set_option maxHeartbeats 1000000 in
theorem out0 (r s t u : Int)  (h : r < 0) (w : World) : Calls Try.prog 5 #[.agg #[.int .i64 r, .int .i64 s], .agg #[.int .i64 t, .int .i64 u]] w (Yes w) := by
  have d0 : decide (r < 0) = true := decide_eq_true h
  clear h
  go_enter Try.func5, Try.ntmps5
  go_wp2_with (go_at_call 14; refine (awake_yes _).mono ?_; rintro e w' ⟨rfl, hb⟩)
  go_ret
  refine ⟨rfl, bel_end ?_ hb⟩
  repeat (with_reducible refine bel_alloc ?_)
  with_reducible exact Below.refl _ _
set_option maxRecDepth 100000 in
set_option maxHeartbeats 1000000 in
theorem out1 (r s t u : Int) (h0 : 0 ≤ r) (h : s < 0) (w : World) : Calls Try.prog 5 #[.agg #[.int .i64 r, .int .i64 s], .agg #[.int .i64 t, .int .i64 u]] w (Yes w) := by
  have d0 : decide (r < 0) = false := decide_eq_false (Int.not_lt.2 h0)
  have d1 : decide (s < 0) = true := decide_eq_true h
  clear h0 h
  go_enter Try.func5, Try.ntmps5
  go_wp2_with (go_at_call 14; refine (awake_yes _).mono ?_; rintro e w' ⟨rfl, hb⟩)
  go_ret
  refine ⟨rfl, bel_end ?_ hb⟩
  repeat (with_reducible refine bel_alloc ?_)
  with_reducible exact Below.refl _ _
set_option maxRecDepth 100000 in
set_option maxHeartbeats 1000000 in
theorem out2 (r s t u : Int) (h0 : 0 ≤ r) (h1 : 0 ≤ s) (h : t < 0) (w : World) : Calls Try.prog 5 #[.agg #[.int .i64 r, .int .i64 s], .agg #[.int .i64 t, .int .i64 u]] w (Yes w) := by
  have d0 : decide (r < 0) = false := decide_eq_false (Int.not_lt.2 h0)
  have d1 : decide (s < 0) = false := decide_eq_false (Int.not_lt.2 h1)
  have d2 : decide (t < 0) = true := decide_eq_true h
  clear h0 h1 h
  go_enter Try.func5, Try.ntmps5
  go_wp2_with (go_at_call 14; refine (awake_yes _).mono ?_; rintro e w' ⟨rfl, hb⟩)
  go_ret
  refine ⟨rfl, bel_end ?_ hb⟩
  repeat (with_reducible refine bel_alloc ?_)
  with_reducible exact Below.refl _ _
set_option maxRecDepth 100000 in
set_option maxHeartbeats 1000000 in
theorem out3 (r s t u : Int) (h0 : 0 ≤ r) (h1 : 0 ≤ s) (h2 : 0 ≤ t) (h : u < 0) (w : World) : Calls Try.prog 5 #[.agg #[.int .i64 r, .int .i64 s], .agg #[.int .i64 t, .int .i64 u]] w (Yes w) := by
  have d0 : decide (r < 0) = false := decide_eq_false (Int.not_lt.2 h0)
  have d1 : decide (s < 0) = false := decide_eq_false (Int.not_lt.2 h1)
  have d2 : decide (t < 0) = false := decide_eq_false (Int.not_lt.2 h2)
  have d3 : decide (u < 0) = true := decide_eq_true h
  clear h0 h1 h2 h
  go_enter Try.func5, Try.ntmps5
  go_wp2_with (go_at_call 14; refine (awake_yes _).mono ?_; rintro e w' ⟨rfl, hb⟩)
  go_ret
  refine ⟨rfl, bel_end ?_ hb⟩
  repeat (with_reducible refine bel_alloc ?_)
  with_reducible exact Below.refl _ _
set_option maxRecDepth 100000 in
set_option maxHeartbeats 1000000 in
theorem out4 (r s t u : Int) (h0 : 0 ≤ r) (h1 : 0 ≤ s) (h2 : 0 ≤ t) (h3 : 0 ≤ u) (h : 4194304 < r) (w : World) : Calls Try.prog 5 #[.agg #[.int .i64 r, .int .i64 s], .agg #[.int .i64 t, .int .i64 u]] w (Yes w) := by
  have d0 : decide (r < 0) = false := decide_eq_false (Int.not_lt.2 h0)
  have d1 : decide (s < 0) = false := decide_eq_false (Int.not_lt.2 h1)
  have d2 : decide (t < 0) = false := decide_eq_false (Int.not_lt.2 h2)
  have d3 : decide (u < 0) = false := decide_eq_false (Int.not_lt.2 h3)
  have d4 : decide (4194304 < r) = true := decide_eq_true h
  clear h0 h1 h2 h3 h
  go_enter Try.func5, Try.ntmps5
  go_wp2_with (go_at_call 14; refine (awake_yes _).mono ?_; rintro e w' ⟨rfl, hb⟩)
  go_ret
  refine ⟨rfl, bel_end ?_ hb⟩
  repeat (with_reducible refine bel_alloc ?_)
  with_reducible exact Below.refl _ _
set_option maxRecDepth 100000 in
set_option maxHeartbeats 1000000 in
theorem out5 (r s t u : Int) (h0 : 0 ≤ r) (h1 : 0 ≤ s) (h2 : 0 ≤ t) (h3 : 0 ≤ u) (h4 : r ≤ 4194304) (h : 4194304 < s) (w : World) : Calls Try.prog 5 #[.agg #[.int .i64 r, .int .i64 s], .agg #[.int .i64 t, .int .i64 u]] w (Yes w) := by
  have d0 : decide (r < 0) = false := decide_eq_false (Int.not_lt.2 h0)
  have d1 : decide (s < 0) = false := decide_eq_false (Int.not_lt.2 h1)
  have d2 : decide (t < 0) = false := decide_eq_false (Int.not_lt.2 h2)
  have d3 : decide (u < 0) = false := decide_eq_false (Int.not_lt.2 h3)
  have d4 : decide (4194304 < r) = false := decide_eq_false (Int.not_lt.2 h4)
  have d5 : decide (4194304 < s) = true := decide_eq_true h
  clear h0 h1 h2 h3 h4 h
  go_enter Try.func5, Try.ntmps5
  go_wp2_with (go_at_call 14; refine (awake_yes _).mono ?_; rintro e w' ⟨rfl, hb⟩)
  go_ret
  refine ⟨rfl, bel_end ?_ hb⟩
  repeat (with_reducible refine bel_alloc ?_)
  with_reducible exact Below.refl _ _
set_option maxRecDepth 100000 in
set_option maxHeartbeats 1000000 in
theorem out6 (r s t u : Int) (h0 : 0 ≤ r) (h1 : 0 ≤ s) (h2 : 0 ≤ t) (h3 : 0 ≤ u) (h4 : r ≤ 4194304) (h5 : s ≤ 4194304) (h : 1099511627776 < t) (w : World) : Calls Try.prog 5 #[.agg #[.int .i64 r, .int .i64 s], .agg #[.int .i64 t, .int .i64 u]] w (Yes w) := by
  have d0 : decide (r < 0) = false := decide_eq_false (Int.not_lt.2 h0)
  have d1 : decide (s < 0) = false := decide_eq_false (Int.not_lt.2 h1)
  have d2 : decide (t < 0) = false := decide_eq_false (Int.not_lt.2 h2)
  have d3 : decide (u < 0) = false := decide_eq_false (Int.not_lt.2 h3)
  have d4 : decide (4194304 < r) = false := decide_eq_false (Int.not_lt.2 h4)
  have d5 : decide (4194304 < s) = false := decide_eq_false (Int.not_lt.2 h5)
  have d6 : decide (1099511627776 < t) = true := decide_eq_true h
  clear h0 h1 h2 h3 h4 h5 h
  go_enter Try.func5, Try.ntmps5
  go_wp2_with (go_at_call 14; refine (awake_yes _).mono ?_; rintro e w' ⟨rfl, hb⟩)
  go_ret
  refine ⟨rfl, bel_end ?_ hb⟩
  repeat (with_reducible refine bel_alloc ?_)
  with_reducible exact Below.refl _ _
set_option maxRecDepth 100000 in
set_option maxHeartbeats 1000000 in
theorem out7 (r s t u : Int) (h0 : 0 ≤ r) (h1 : 0 ≤ s) (h2 : 0 ≤ t) (h3 : 0 ≤ u) (h4 : r ≤ 4194304) (h5 : s ≤ 4194304) (h6 : t ≤ 1099511627776) (h : 1099511627776 < u) (w : World) : Calls Try.prog 5 #[.agg #[.int .i64 r, .int .i64 s], .agg #[.int .i64 t, .int .i64 u]] w (Yes w) := by
  have d0 : decide (r < 0) = false := decide_eq_false (Int.not_lt.2 h0)
  have d1 : decide (s < 0) = false := decide_eq_false (Int.not_lt.2 h1)
  have d2 : decide (t < 0) = false := decide_eq_false (Int.not_lt.2 h2)
  have d3 : decide (u < 0) = false := decide_eq_false (Int.not_lt.2 h3)
  have d4 : decide (4194304 < r) = false := decide_eq_false (Int.not_lt.2 h4)
  have d5 : decide (4194304 < s) = false := decide_eq_false (Int.not_lt.2 h5)
  have d6 : decide (1099511627776 < t) = false := decide_eq_false (Int.not_lt.2 h6)
  have d7 : decide (1099511627776 < u) = true := decide_eq_true h
  clear h0 h1 h2 h3 h4 h5 h6 h
  go_enter Try.func5, Try.ntmps5
  go_wp2_with (go_at_call 14; refine (awake_yes _).mono ?_; rintro e w' ⟨rfl, hb⟩)
  go_ret
  refine ⟨rfl, bel_end ?_ hb⟩
  repeat (with_reducible refine bel_alloc ?_)
  with_reducible exact Below.refl _ _
set_option maxRecDepth 100000 in
set_option maxHeartbeats 4000000 in
theorem inside (r s t u : Int) (h0 : 0 ≤ r) (h1 : 0 ≤ s) (h2 : 0 ≤ t) (h3 : 0 ≤ u) (h4 : r ≤ 4194304) (h5 : s ≤ 4194304) (h6 : t ≤ 1099511627776) (h7 : u ≤ 1099511627776) (w : World) : Calls Try.prog 5 #[.agg #[.int .i64 r, .int .i64 s], .agg #[.int .i64 t, .int .i64 u]] w (Yes w) := by
  obtain ⟨r, rfl⟩ := Int.eq_ofNat_of_zero_le h0
  obtain ⟨s, rfl⟩ := Int.eq_ofNat_of_zero_le h1
  obtain ⟨t, rfl⟩ := Int.eq_ofNat_of_zero_le h2
  obtain ⟨u, rfl⟩ := Int.eq_ofNat_of_zero_le h3
  have d0 : decide ((r : Int) < 0) = false := decide_eq_false (by omega)
  have d1 : decide ((s : Int) < 0) = false := decide_eq_false (by omega)
  have d2 : decide ((t : Int) < 0) = false := decide_eq_false (by omega)
  have d3 : decide ((u : Int) < 0) = false := decide_eq_false (by omega)
  have d4 : decide (4194304 < (r : Int)) = false := decide_eq_false (by omega)
  have d5 : decide (4194304 < (s : Int)) = false := decide_eq_false (by omega)
  have d6 : decide (1099511627776 < (t : Int)) = false := decide_eq_false (by omega)
  have d7 : decide (1099511627776 < (u : Int)) = false := decide_eq_false (by omega)
  go_enter Try.func5, Try.ntmps5
  go_wp2_with fail
  refine wp_loop_rounds 3 ?_
  rw [rounds_succ]
  obtain ⟨a, b, c, d, x, a1, a2, b1, b2, c1, c2, d1, d2, x1, x2, p1, p2, p3, p4, m1, m2, m3, m4, m5⟩ := plain_false r s t u (by omega) (by omega) (by omega) (by omega)
  have P1 := Lib.hid (part_any (r : Int) (t : Int) false (by omega) (by omega))
  have P2 := Lib.hid (part_any (s : Int) (t : Int) false (by omega) (by omega))
  have P3 := Lib.hid (part_any ((r : Int) + (s : Int)) (t : Int) false (by omega) (by omega))
  have P4 := Lib.hid (part_any (r : Int) (u : Int) false (by omega) (by omega))
  have P5 := Lib.hid (part_any (r : Int) ((t : Int) + (u : Int)) false (by omega) (by omega))
  rw [Int.natCast_add] at c1 c2 x1 x2
  rw [a1, a2] at P1
  rw [b1, b2] at P2
  rw [c1, c2] at P3
  rw [d1, d2] at P4
  rw [x1, x2] at P5
  clear a1 a2 b1 b2 c1 c2 d1 d2 x1 x2
  have q1 : decide ((c : Int) < (a : Int) + (b : Int)) = false := by simp; omega
  have q2 : decide ((a : Int) + (b : Int) < (c : Int) - 1) = false := by simp; omega
  have q3 : decide ((x : Int) < (a : Int) + (d : Int)) = false := by simp; omega
  have q4 : decide ((a : Int) + (d : Int) < (x : Int) - 1) = false := by simp; omega
  have n1 : (a : Int) ≤ 8796093022208 := by omega
  have n2 : (b : Int) ≤ 8796093022208 := by omega
  have n3 : (c : Int) ≤ 8796093022208 := by omega
  have n4 : (d : Int) ≤ 8796093022208 := by omega
  have n5 : (x : Int) ≤ 8796093022208 := by omega
  clear p1 p2 p3 p4 m1 m2 m3 m4 m5
  go_wp2_with fail
  refine (P1.out _).mono ?_
  rintro e w1 ⟨rfl, b1⟩
  go_wp2_with fail
  refine (P2.out _).mono ?_
  rintro e w2 ⟨rfl, b2⟩
  go_wp2_with fail
  refine (P3.out _).mono ?_
  rintro e w3 ⟨rfl, b3⟩
  go_wp2_with fail
  refine (P4.out _).mono ?_
  rintro e w4 ⟨rfl, b4⟩
  go_wp2_with fail
  refine (P5.out _).mono ?_
  rintro e w5 ⟨rfl, b5⟩
  have bb0 := Lib.hid (bel_end (bel_end (bel_end (bel_end (bel_end (bel_alloc (bel_alloc (Below.refl _ _))) b1) b2) b3) b4) b5)
  clear b1 b2 b3 b4 b5 P1 P2 P3 P4 P5
  go_upto_region 16 with fail
  go_cut [122] from 105 to 121 (fun s wx => s = .bool false ∧ wx = w5)
  case first =>
    go_wp2_with fail
    go_meet
    exact ⟨rfl, rfl⟩
  case rest =>
  obtain ⟨rfl, e5⟩ := hcut
  subst e5
  go_upto_region 18 with fail
  go_cut [187] from 123 to 186 (fun s wx => s = .bool false ∧ wx = wc)
  case first =>
    dsimp only [List.append]
    go_wp2_with fail
    go_meet
    refine ⟨congrArg Value.bool ?_, rfl⟩
    simp <;> omega
  case rest =>
  obtain ⟨rfl, e6⟩ := hcut
  subst e6
  clear q1 q2 q3 q4 n1 n2 n3 n4 n5
  go_wp2_with fail
  rw [rounds_succ]
  obtain ⟨a, b, c, d, x, a1, a2, b1, b2, c1, c2, d1, d2, x1, x2, p1, p2, p3, p4, m1, m2, m3, m4, m5⟩ := plain_true r s t u (by omega) (by omega) (by omega) (by omega)
  have P1 := Lib.hid (part_any (r : Int) (t : Int) true (by omega) (by omega))
  have P2 := Lib.hid (part_any (s : Int) (t : Int) true (by omega) (by omega))
  have P3 := Lib.hid (part_any ((r : Int) + (s : Int)) (t : Int) true (by omega) (by omega))
  have P4 := Lib.hid (part_any (r : Int) (u : Int) true (by omega) (by omega))
  have P5 := Lib.hid (part_any (r : Int) ((t : Int) + (u : Int)) true (by omega) (by omega))
  rw [Int.natCast_add] at c1 c2 x1 x2
  rw [a1, a2] at P1
  rw [b1, b2] at P2
  rw [c1, c2] at P3
  rw [d1, d2] at P4
  rw [x1, x2] at P5
  clear a1 a2 b1 b2 c1 c2 d1 d2 x1 x2
  have q1 : decide ((a : Int) + (b : Int) < (c : Int)) = false := by simp; omega
  have q2 : decide ((c : Int) + 1 < (a : Int) + (b : Int)) = false := by simp; omega
  have q3 : decide ((a : Int) + (d : Int) < (x : Int)) = false := by simp; omega
  have q4 : decide ((x : Int) + 1 < (a : Int) + (d : Int)) = false := by simp; omega
  have n1 : (a : Int) ≤ 8796093022208 := by omega
  have n2 : (b : Int) ≤ 8796093022208 := by omega
  have n3 : (c : Int) ≤ 8796093022208 := by omega
  have n4 : (d : Int) ≤ 8796093022208 := by omega
  have n5 : (x : Int) ≤ 8796093022208 := by omega
  clear p1 p2 p3 p4 m1 m2 m3 m4 m5
  go_wp2_with fail
  refine (P1.out _).mono ?_
  rintro e w1 ⟨rfl, b1⟩
  go_wp2_with fail
  refine (P2.out _).mono ?_
  rintro e w2 ⟨rfl, b2⟩
  go_wp2_with fail
  refine (P3.out _).mono ?_
  rintro e w3 ⟨rfl, b3⟩
  go_wp2_with fail
  refine (P4.out _).mono ?_
  rintro e w4 ⟨rfl, b4⟩
  go_wp2_with fail
  refine (P5.out _).mono ?_
  rintro e w5 ⟨rfl, b5⟩
  have bb1 := Lib.hid (bel_end (bel_end (bel_end (bel_end (b1) b2) b3) b4) b5)
  clear b1 b2 b3 b4 b5 P1 P2 P3 P4 P5
  go_upto_region 16 with fail
  go_cut [122] from 105 to 121 (fun s wx => s = .bool false ∧ wx = w5)
  case first =>
    go_wp2_with fail
    go_meet
    exact ⟨rfl, rfl⟩
  case rest =>
  obtain ⟨rfl, e5⟩ := hcut
  subst e5
  go_upto_region 18 with fail
  go_cut [187] from 123 to 186 (fun s wx => s = .bool false ∧ wx = wc)
  case first =>
    dsimp only [List.append]
    go_wp2_with fail
    go_meet
    refine ⟨congrArg Value.bool ?_, rfl⟩
    simp <;> omega
  case rest =>
  obtain ⟨rfl, e6⟩ := hcut
  subst e6
  clear q1 q2 q3 q4 n1 n2 n3 n4 n5
  go_wp2_with fail
  rw [rounds_succ]
  go_wp2_with (go_at_call 14; refine (awake_yes _).mono ?_; rintro e w' ⟨rfl, hc⟩)
  go_ret
  refine ⟨rfl, bel_end (bel_end bb0.out bb1.out) hc⟩

theorem walk (r s t u : Int) (_ : (Lit.int .i64 r).wf = true) (_ : (Lit.int .i64 s).wf = true) (_ : (Lit.int .i64 t).wf = true) (_ : (Lit.int .i64 u).wf = true) (w : World) : Calls Try.prog 5 #[.agg #[.int .i64 r, .int .i64 s], .agg #[.int .i64 t, .int .i64 u]] w (Yes w) := by
  by_cases h0 : 0 ≤ r
  case neg => exact out0 r s t u   (by omega) w
  by_cases h1 : 0 ≤ s
  case neg => exact out1 r s t u  h0 (by omega) w
  by_cases h2 : 0 ≤ t
  case neg => exact out2 r s t u  h0 h1 (by omega) w
  by_cases h3 : 0 ≤ u
  case neg => exact out3 r s t u  h0 h1 h2 (by omega) w
  by_cases h4 : r ≤ 4194304
  case neg => exact out4 r s t u  h0 h1 h2 h3 (by omega) w
  by_cases h5 : s ≤ 4194304
  case neg => exact out5 r s t u  h0 h1 h2 h3 h4 (by omega) w
  by_cases h6 : t ≤ 1099511627776
  case neg => exact out6 r s t u  h0 h1 h2 h3 h4 h5 (by omega) w
  by_cases h7 : u ≤ 1099511627776
  case neg => exact out7 r s t u  h0 h1 h2 h3 h4 h5 h6 (by omega) w
  exact inside r s t u  h0 h1 h2 h3 h4 h5 h6 h7 w

set_option maxRecDepth 100000 in
theorem lifted (os : Os) (started : os.Started) (H : Type) (enc : TypeId × Value → H) :
    ReturnsInHanded {} Try.checked os 5 .any (Rows.ratioPartsSpec.pre6 enc Try.prog Try.f5 Rows.ratioPartsRow.domain false) (Rows.ratioPartsSpec.post enc Try.prog Try.f5 false true false false) := by
  refine returnsInHanded_of_change (C := Try.checked) own started (by kernel_rfl) Try.func5
    (ChangeSpec.witness6 (enc := enc) (C := Try.checked) false ⟨#[], #[.agg #[.int .i64 0, .int .i64 0], .agg #[.int .i64 0, .int .i64 0]], []⟩ 8 (by kernel_rfl) (by kernel_rfl) (by kernel_rfl) (by kernel_rfl)) ?_
  intro W base args ds gs before hval0 hW hcnd _
  have hval : ∀ (j : Nat) t v, Try.f5.params[j]? = some t → args[j]? = some v → Value.okWide Try.prog W .any base t v := hval0
  have hW' := hW
  obtain ⟨p, q, hA0, hV, _, hfz, hnd⟩ := hW'
  have hA : DataW.TrodAll enc Try.prog W 0 (fun _ => true) true Try.f5.params.toList args.toList ds p := hA0
  rw [Try.params5] at hA hval
  obtain ⟨v0, v1, d0, d1, p0, p1, rfl, _, _, h0, h1⟩ := trodAll_two hA
  obtain ⟨r, s, rfl, wr, ws⟩ := open_arr2 Try.underlying30 Try.underlying3 (by kernel_rfl) (by kernel_rfl) (hval 0 30 v0 rfl rfl) h0
  obtain ⟨t, u, rfl, wt, wu⟩ := open_arr2 Try.underlying30 Try.underlying3 (by kernel_rfl) (by kernel_rfl) (hval 1 30 v1 rfl rfl) h1
  refine (walk r s t u wr ws wt wu W).mono fun e W' h => ?_
  exact law_post (f := Try.f5) rfl rfl Try.underlying4 (by kernel_rfl) (fun ds hd => by
    match ds, hd with
    | [_, _], _ => rfl) hW h

theorem over : Rows.ratioPartsRow.holds Try.pinned (OpenSpec.ofChange Rows.ratioPartsSpec) :=
  OpenClaim.holds_of_wide 5 Try.f5 rfl rfl rfl rfl rfl rfl rfl ⟨rfl, rfl, rfl, rfl, rfl⟩ rfl rfl rfl rfl rfl (by kernel_rfl) Try.func5 (by kernel_rfl)
    (of_decide_eq_true (by kernel_rfl)) (by unfold Func.isWrapper; first | (rw [if_pos (by decide +kernel)]; kernel_rfl) | (rw [if_neg (by decide +kernel)]; exact ⟨rfl, rfl⟩))
    (fun os started H enc _ => lifted os started H enc)

/-- THE STATEMENT. -/
theorem proved : Rows.RatioPartsSaid := over
end Go.Proofs.Ytbjahjepgjaomaa.ratioParts
