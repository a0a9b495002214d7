/- RatioScales answers true at every two budgets, time and number. No condition. -/
import Derived.Test.YtbjahjepgjaomaaRatioAwake
import Derived.Test.YtbjahjepgjaomaaRatioSum
import Derived.Test.YtbjahjepgjaomaaQuotLaws
import Derived.WalkLawsBesides
import Derived.WalkSpells
import Derived.Outline
namespace Go.Proofs.Ytbjahjepgjaomaa.ratioScales
open Go.ChangeShapes Go.WideShapes Go.ChangeAt Go.RowKit Go.Joins

/-! ### the plain law -/
theorem bel_via {a w w1 w' : World} (h : Below a.heap.size a w) (hb : Below w1.heap.size w1 w') (hm : Below w.heap.size w w1) : Below a.heap.size a w' := bel_end (bel_end h hm) hb
theorem quot_scale (up : Bool) (n c k : Nat) (hk : 0 < k) : quot up (k * n) (k * c) = quot up n c := by
  unfold quot
  rw [Nat.mul_mod_mul_left, Nat.mul_div_mul_left _ _ hk]
  have e : 0 < k * (n % c) ↔ 0 < n % c := by
    constructor
    · intro h
      rcases Nat.eq_zero_or_pos (n % c) with h0 | h0
      · rw [h0] at h; simp at h
      · exact h0
    · intro h; exact Nat.mul_pos hk h
  simp only [e]
theorem plain (q r t k : Nat) (hq : q ≤ 1073741824) (hr : r ≤ 1073741824) (ht : 1 ≤ t) (hk : 1 ≤ k) :
    ∃ a d x y : Nat, divNum q 1048576 t true = a ∧ divErr q 1048576 t true = 0 ∧ divNum (k * q : Nat) 1048576 (k * t : Nat) true = a ∧ divErr (k * q : Nat) 1048576 (k * t : Nat) true = 0 ∧ divNum (k * q : Nat) 1048576 (k * t : Nat) false = d ∧ divErr (k * q : Nat) 1048576 (k * t : Nat) false = 0 ∧
      divNum q 1048576 t false = d ∧ divErr q 1048576 t false = 0 ∧ divNum r 1048576 t true = x ∧ divErr r 1048576 t true = 0 ∧ divNum (q + r : Nat) 1048576 t true = y ∧ divErr (q + r : Nat) 1048576 t true = 0 ∧ y ≤ a + x ∧ a + x ≤ y + 1 ∧ a ≤ 2251799813685248 ∧ x ≤ 2251799813685248 ∧ y ≤ 2251799813685248 := by
  have f (up : Bool) (n : Nat) (h : n ≤ 2147483648 * 1048576) : quot up n t ≤ 2251799813685248 := quot_fit up ht (Nat.le_trans h (by have : 2251799813685248 * 1 ≤ 2251799813685248 * t := Nat.mul_le_mul_left _ ht; omega))
  have m1 : q * 1048576 ≤ 2147483648 * 1048576 := Nat.mul_le_mul_right _ (by omega)
  have m2 : r * 1048576 ≤ 2147483648 * 1048576 := Nat.mul_le_mul_right _ (by omega)
  have m3 : (q + r) * 1048576 ≤ 2147483648 * 1048576 := Nat.mul_le_mul_right _ (by omega)
  have f1 := f true _ m1
  have f2 := f false _ m1
  have f3 := f true _ m2
  have f4 := f true _ m3
  have s1 := quot_scale true (q * 1048576) t k hk
  have s2 := quot_scale false (q * 1048576) t k hk
  rw [← Nat.mul_assoc] at s1 s2
  have l1 := quot_add_up (q * 1048576) (r * 1048576) t ht
  rw [← Nat.add_mul] at l1
  have hkt : 0 < k * t := Nat.mul_pos hk ht
  have r1 := divRes_nat (x := q) (y := 1048576) (c := t) (up := true) ht (Nat.le_trans f1 (by omega))
  have r2 := divRes_nat (x := k * q) (y := 1048576) (c := k * t) (up := true) hkt (by rw [s1]; exact Nat.le_trans f1 (by omega))
  have r3 := divRes_nat (x := k * q) (y := 1048576) (c := k * t) (up := false) hkt (by rw [s2]; exact Nat.le_trans f2 (by omega))
  have r4 := divRes_nat (x := q) (y := 1048576) (c := t) (up := false) ht (Nat.le_trans f2 (by omega))
  have r5 := divRes_nat (x := r) (y := 1048576) (c := t) (up := true) ht (Nat.le_trans f3 (by omega))
  have r6 := divRes_nat (x := q + r) (y := 1048576) (c := t) (up := true) ht (Nat.le_trans f4 (by omega))
  rw [s1] at r2
  rw [s2] at r3
  exact ⟨_, _, _, _, r1.1, r1.2, r2.1, r2.2, r3.1, r3.2, r4.1, r4.2, r5.1, r5.2, r6.1, r6.2, l1.1, l1.2, f1, f3, f4⟩
theorem rsum2 {a x : Int} (ha : 0 ≤ a) (hx : 0 ≤ x) (hs : a + x ≤ 9223372036854775807) : rsumNum [a, x] = a + x ∧ rsumErr [a, x] = 0 := by
  have h : someNeg [a, x] = false := by simp [someNeg]; omega
  have g : sumGo 0 [a, x] = some (a + x) := by
    unfold sumGo; rw [if_pos (by omega)]; unfold sumGo; rw [if_pos (by omega)]; simp [sumGo]
  unfold rsumNum rsumErr sumNum sumErr
  rw [if_neg (by rw [h]; decide), if_neg (by rw [h]; decide), g]
  exact ⟨rfl, rfl⟩
theorem rsum_at2 (a x : Int) (ha : 0 ≤ a) (hx : 0 ≤ x) (hs : a + x ≤ 9223372036854775807) (b : Nat) (w : World) (h0 : w.cell? ⟨b, 0, none⟩ = some (.int .i64 a)) (h1 : w.cell? ⟨b, 1, none⟩ = some (.int .i64 x)) :
    Calls Try.prog 19 #[.slice (some ⟨b, 0, none⟩) 2 2] w fun e w' => e = .returned (.tuple #[.int .i64 (a + x), .int .i64 0]) ∧ w = w' := by
  have h := rsum_any (.slice (some ⟨b, 0, none⟩) 2 2) [a, x] w (.inr ⟨b, 0, 2, rfl, cell_lt h0, by simp, fun j hj => by
    match j, hj with
    | 0, _ => exact h0
    | 1, _ => exact h1⟩) (by
    intro n hn
    simp at hn
    rcases hn with rfl | rfl
    · exact ⟨by omega, by omega⟩
    · exact ⟨by omega, by omega⟩) (by simp)
  rw [(rsum2 ha hx hs).1, (rsum2 ha hx hs).2] at h
  exact h
theorem mul_k {k q M : Nat} (hk : k ≤ 1000) (hq : q ≤ M) : k * q ≤ 1000 * M := Nat.mul_le_mul hk hq

/-! ### the walk -/
set_option maxRecDepth 100000 in
set_option maxHeartbeats 1000000 in
theorem out0 (q r t k : Int)  (h : q < 0) (w : World) : Calls Try.prog 8 #[.agg #[.int .i64 q, .int .i64 r], .int .i64 t, .int .i64 k] w (Yes w) := by
  have d0 : decide (q < 0) = true := decide_eq_true h
  clear h
  go_enter Try.func8, Try.ntmps8
  go_wp2_with (go_at_call 14; refine (awake_yes _).mono ?_; rintro e w' ⟨rfl, hb⟩)
  go_ret
  refine ⟨rfl, bel_end ?_ hb⟩
  repeat (with_reducible refine bel_alloc ?_)
  with_reducible exact Below.refl _ _
set_option maxRecDepth 100000 in
set_option maxHeartbeats 1000000 in
theorem out1 (q r t k : Int) (h0 : 0 ≤ q) (h : 1073741824 < q) (w : World) : Calls Try.prog 8 #[.agg #[.int .i64 q, .int .i64 r], .int .i64 t, .int .i64 k] w (Yes w) := by
  have d0 : decide (q < 0) = false := decide_eq_false (Int.not_lt.2 h0)
  have d1 : decide (1073741824 < q) = true := decide_eq_true h
  clear h0 h
  go_enter Try.func8, Try.ntmps8
  go_wp2_with (go_at_call 14; refine (awake_yes _).mono ?_; rintro e w' ⟨rfl, hb⟩)
  go_ret
  refine ⟨rfl, bel_end ?_ hb⟩
  repeat (with_reducible refine bel_alloc ?_)
  with_reducible exact Below.refl _ _
set_option maxRecDepth 100000 in
set_option maxHeartbeats 1000000 in
theorem out2 (q r t k : Int) (h0 : 0 ≤ q) (h1 : q ≤ 1073741824) (h : r < 0) (w : World) : Calls Try.prog 8 #[.agg #[.int .i64 q, .int .i64 r], .int .i64 t, .int .i64 k] w (Yes w) := by
  have d0 : decide (q < 0) = false := decide_eq_false (Int.not_lt.2 h0)
  have d1 : decide (1073741824 < q) = false := decide_eq_false (Int.not_lt.2 h1)
  have d2 : decide (r < 0) = true := decide_eq_true h
  clear h0 h1 h
  go_enter Try.func8, Try.ntmps8
  go_wp2_with (go_at_call 14; refine (awake_yes _).mono ?_; rintro e w' ⟨rfl, hb⟩)
  go_ret
  refine ⟨rfl, bel_end ?_ hb⟩
  repeat (with_reducible refine bel_alloc ?_)
  with_reducible exact Below.refl _ _
set_option maxRecDepth 100000 in
set_option maxHeartbeats 1000000 in
theorem out3 (q r t k : Int) (h0 : 0 ≤ q) (h1 : q ≤ 1073741824) (h2 : 0 ≤ r) (h : 1073741824 < r) (w : World) : Calls Try.prog 8 #[.agg #[.int .i64 q, .int .i64 r], .int .i64 t, .int .i64 k] w (Yes w) := by
  have d0 : decide (q < 0) = false := decide_eq_false (Int.not_lt.2 h0)
  have d1 : decide (1073741824 < q) = false := decide_eq_false (Int.not_lt.2 h1)
  have d2 : decide (r < 0) = false := decide_eq_false (Int.not_lt.2 h2)
  have d3 : decide (1073741824 < r) = true := decide_eq_true h
  clear h0 h1 h2 h
  go_enter Try.func8, Try.ntmps8
  go_wp2_with (go_at_call 14; refine (awake_yes _).mono ?_; rintro e w' ⟨rfl, hb⟩)
  go_ret
  refine ⟨rfl, bel_end ?_ hb⟩
  repeat (with_reducible refine bel_alloc ?_)
  with_reducible exact Below.refl _ _
set_option maxRecDepth 100000 in
set_option maxHeartbeats 1000000 in
theorem out4 (q r t k : Int) (h0 : 0 ≤ q) (h1 : q ≤ 1073741824) (h2 : 0 ≤ r) (h3 : r ≤ 1073741824) (h : t < 1) (w : World) : Calls Try.prog 8 #[.agg #[.int .i64 q, .int .i64 r], .int .i64 t, .int .i64 k] w (Yes w) := by
  have d0 : decide (q < 0) = false := decide_eq_false (Int.not_lt.2 h0)
  have d1 : decide (1073741824 < q) = false := decide_eq_false (Int.not_lt.2 h1)
  have d2 : decide (r < 0) = false := decide_eq_false (Int.not_lt.2 h2)
  have d3 : decide (1073741824 < r) = false := decide_eq_false (Int.not_lt.2 h3)
  have d4 : decide (t < 1) = true := decide_eq_true h
  clear h0 h1 h2 h3 h
  go_enter Try.func8, Try.ntmps8
  go_wp2_with (go_at_call 14; refine (awake_yes _).mono ?_; rintro e w' ⟨rfl, hb⟩)
  go_ret
  refine ⟨rfl, bel_end ?_ hb⟩
  repeat (with_reducible refine bel_alloc ?_)
  with_reducible exact Below.refl _ _
set_option maxRecDepth 100000 in
set_option maxHeartbeats 1000000 in
theorem out5 (q r t k : Int) (h0 : 0 ≤ q) (h1 : q ≤ 1073741824) (h2 : 0 ≤ r) (h3 : r ≤ 1073741824) (h4 : 1 ≤ t) (h : 1073741824 < t) (w : World) : Calls Try.prog 8 #[.agg #[.int .i64 q, .int .i64 r], .int .i64 t, .int .i64 k] w (Yes w) := by
  have d0 : decide (q < 0) = false := decide_eq_false (Int.not_lt.2 h0)
  have d1 : decide (1073741824 < q) = false := decide_eq_false (Int.not_lt.2 h1)
  have d2 : decide (r < 0) = false := decide_eq_false (Int.not_lt.2 h2)
  have d3 : decide (1073741824 < r) = false := decide_eq_false (Int.not_lt.2 h3)
  have d4 : decide (t < 1) = false := decide_eq_false (Int.not_lt.2 h4)
  have d5 : decide (1073741824 < t) = true := decide_eq_true h
  clear h0 h1 h2 h3 h4 h
  go_enter Try.func8, Try.ntmps8
  go_wp2_with (go_at_call 14; refine (awake_yes _).mono ?_; rintro e w' ⟨rfl, hb⟩)
  go_ret
  refine ⟨rfl, bel_end ?_ hb⟩
  repeat (with_reducible refine bel_alloc ?_)
  with_reducible exact Below.refl _ _
set_option maxRecDepth 100000 in
set_option maxHeartbeats 1000000 in
theorem out6 (q r t k : Int) (h0 : 0 ≤ q) (h1 : q ≤ 1073741824) (h2 : 0 ≤ r) (h3 : r ≤ 1073741824) (h4 : 1 ≤ t) (h5 : t ≤ 1073741824) (h : k < 1) (w : World) : Calls Try.prog 8 #[.agg #[.int .i64 q, .int .i64 r], .int .i64 t, .int .i64 k] w (Yes w) := by
  have d0 : decide (q < 0) = false := decide_eq_false (Int.not_lt.2 h0)
  have d1 : decide (1073741824 < q) = false := decide_eq_false (Int.not_lt.2 h1)
  have d2 : decide (r < 0) = false := decide_eq_false (Int.not_lt.2 h2)
  have d3 : decide (1073741824 < r) = false := decide_eq_false (Int.not_lt.2 h3)
  have d4 : decide (t < 1) = false := decide_eq_false (Int.not_lt.2 h4)
  have d5 : decide (1073741824 < t) = false := decide_eq_false (Int.not_lt.2 h5)
  have d6 : decide (k < 1) = true := decide_eq_true h
  clear h0 h1 h2 h3 h4 h5 h
  go_enter Try.func8, Try.ntmps8
  go_wp2_with (go_at_call 14; refine (awake_yes _).mono ?_; rintro e w' ⟨rfl, hb⟩)
  go_ret
  refine ⟨rfl, bel_end ?_ hb⟩
  repeat (with_reducible refine bel_alloc ?_)
  with_reducible exact Below.refl _ _
set_option maxRecDepth 100000 in
set_option maxHeartbeats 1000000 in
theorem out7 (q r t k : Int) (h0 : 0 ≤ q) (h1 : q ≤ 1073741824) (h2 : 0 ≤ r) (h3 : r ≤ 1073741824) (h4 : 1 ≤ t) (h5 : t ≤ 1073741824) (h6 : 1 ≤ k) (h : 1000 < k) (w : World) : Calls Try.prog 8 #[.agg #[.int .i64 q, .int .i64 r], .int .i64 t, .int .i64 k] w (Yes w) := by
  have d0 : decide (q < 0) = false := decide_eq_false (Int.not_lt.2 h0)
  have d1 : decide (1073741824 < q) = false := decide_eq_false (Int.not_lt.2 h1)
  have d2 : decide (r < 0) = false := decide_eq_false (Int.not_lt.2 h2)
  have d3 : decide (1073741824 < r) = false := decide_eq_false (Int.not_lt.2 h3)
  have d4 : decide (t < 1) = false := decide_eq_false (Int.not_lt.2 h4)
  have d5 : decide (1073741824 < t) = false := decide_eq_false (Int.not_lt.2 h5)
  have d6 : decide (k < 1) = false := decide_eq_false (Int.not_lt.2 h6)
  have d7 : decide (1000 < k) = true := decide_eq_true h
  clear h0 h1 h2 h3 h4 h5 h6 h
  go_enter Try.func8, Try.ntmps8
  go_wp2_with (go_at_call 14; refine (awake_yes _).mono ?_; rintro e w' ⟨rfl, hb⟩)
  go_ret
  refine ⟨rfl, bel_end ?_ hb⟩
  repeat (with_reducible refine bel_alloc ?_)
  with_reducible exact Below.refl _ _
set_option maxRecDepth 100000 in
set_option maxHeartbeats 4000000 in
theorem inside (q r t k : Int) (h0 : 0 ≤ q) (h1 : q ≤ 1073741824) (h2 : 0 ≤ r) (h3 : r ≤ 1073741824) (h4 : 1 ≤ t) (h5 : t ≤ 1073741824) (h6 : 1 ≤ k) (h7 : k ≤ 1000) (w : World) : Calls Try.prog 8 #[.agg #[.int .i64 q, .int .i64 r], .int .i64 t, .int .i64 k] w (Yes w) := by
  obtain ⟨q, rfl⟩ := Int.eq_ofNat_of_zero_le h0
  obtain ⟨r, rfl⟩ := Int.eq_ofNat_of_zero_le h2
  obtain ⟨t, rfl⟩ := Int.eq_ofNat_of_zero_le (show 0 ≤ t by omega)
  obtain ⟨k, rfl⟩ := Int.eq_ofNat_of_zero_le (show 0 ≤ k by omega)
  obtain ⟨a, d, x, y, a1, a2, b1, b2, c1, c2, d1, d2, x1, x2, y1, y2, p1, p2, p3, p4, p5⟩ := plain q r t k (by omega) (by omega) (by omega) (by omega)
  have g1 : k * q ≤ 1000 * 1073741824 := mul_k (by omega) (by omega)
  have g2 : k * t ≤ 1000 * 1073741824 := mul_k (by omega) (by omega)
  have e1 : ((k * q : Nat) : Int) = (k : Int) * (q : Int) := Int.natCast_mul _ _
  have e2 : ((k * t : Nat) : Int) = (k : Int) * (t : Int) := Int.natCast_mul _ _
  rw [Int.natCast_add] at y1 y2
  rw [e1, e2] at b1 b2 c1 c2
  have j1 : (k : Int) * (q : Int) ≤ 1073741824000 := by rw [← e1]; omega
  have j2 : (k : Int) * (t : Int) ≤ 1073741824000 := by rw [← e2]; omega
  have j3 : 0 ≤ (k : Int) * (q : Int) := by rw [← e1]; omega
  have j4 : 0 ≤ (k : Int) * (t : Int) := by rw [← e2]; omega
  clear g1 g2 e1 e2
  have U1 := Lib.hid (up_any (q : Int) (t : Int) (by omega) (by omega))
  have U2 := Lib.hid (up_any ((k : Int) * (q : Int)) ((k : Int) * (t : Int)) (by omega) (by omega))
  have D1 := Lib.hid (down_any ((k : Int) * (q : Int)) ((k : Int) * (t : Int)) (by omega) (by omega))
  have D2 := Lib.hid (down_any (q : Int) (t : Int) (by omega) (by omega))
  have U3 := Lib.hid (up_any (r : Int) (t : Int) (by omega) (by omega))
  have U4 := Lib.hid (up_any ((q : Int) + (r : Int)) (t : Int) (by omega) (by omega))
  rw [a1, a2] at U1
  rw [b1, b2] at U2
  rw [c1, c2] at D1
  rw [d1, d2] at D2
  rw [x1, x2] at U3
  rw [y1, y2] at U4
  clear a1 a2 b1 b2 c1 c2 d1 d2 x1 x2 y1 y2
  have i1 : (y : Int) ≤ (a : Int) + (x : Int) := by omega
  have i2 : (a : Int) + (x : Int) ≤ (y : Int) + 1 := by omega
  have i3 : (a : Int) ≤ 2251799813685248 := by omega
  have i4 : (x : Int) ≤ 2251799813685248 := by omega
  have i5 : (y : Int) ≤ 2251799813685248 := by omega
  have S := Lib.hid (rsum_at2 (a : Int) (x : Int) (by omega) (by omega) (by omega))
  clear p1 p2 p3 p4 p5
  go_enter Try.func8, Try.ntmps8
  go_wp2_with fail
  refine (U1.out _).mono ?_
  rintro e w1 ⟨rfl, b1⟩
  have bb1 : Below w.heap.size w w1 := by
    refine bel_end ?_ b1
    repeat (first | with_reducible refine bel_alloc ?_ | with_reducible refine bel_drew ?_)
    exact Below.refl _ w
  have BB1 := Lib.hid bb1
  clear bb1
  have Rm1 := Lib.hid b1
  have lm1 : w.heap.size < w1.heap.size := by
    have h := Rm1.out.size
    simp only [World.size_alloc] at h
    omega
  have cm10 := Rm1.out.cell (p := ⟨w.heap.size, 0, none⟩) (by simp)
  have cm11 := Rm1.out.cell (p := ⟨w.heap.size, 1, none⟩) (by simp)
  clear b1
  go_wp2_with fail
  refine (U2.out _).mono ?_
  rintro e w2 ⟨rfl, b2⟩
  have bb2 : Below w.heap.size w w2 := by
    refine bel_end ?_ b2
    repeat (first | with_reducible refine bel_alloc ?_ | with_reducible refine bel_drew ?_)
    exact BB1.out
  have BB2 := Lib.hid bb2
  clear bb2
  clear BB1
  have rm := bel_via Rm1.out b2 (by
    repeat (first | with_reducible refine bel_alloc ?_ | with_reducible refine bel_drew ?_)
    with_reducible exact Below.refl _ _)
  have Rm2 := Lib.hid rm
  clear rm Rm1 lm1 cm10 cm11
  have lm2 : w.heap.size < w2.heap.size := by
    have h := Rm2.out.size
    simp only [World.size_alloc] at h
    omega
  have cm20 := Rm2.out.cell (p := ⟨w.heap.size, 0, none⟩) (by simp)
  have cm21 := Rm2.out.cell (p := ⟨w.heap.size, 1, none⟩) (by simp)
  clear b2
  go_wp2_with fail
  refine (D1.out _).mono ?_
  rintro e w3 ⟨rfl, b3⟩
  have bb3 : Below w.heap.size w w3 := by
    refine bel_end ?_ b3
    repeat (first | with_reducible refine bel_alloc ?_ | with_reducible refine bel_drew ?_)
    exact BB2.out
  have BB3 := Lib.hid bb3
  clear bb3
  clear BB2
  have rm := bel_via Rm2.out b3 (by
    repeat (first | with_reducible refine bel_alloc ?_ | with_reducible refine bel_drew ?_)
    with_reducible exact Below.refl _ _)
  have Rm3 := Lib.hid rm
  clear rm Rm2 lm2 cm20 cm21
  have lm3 : w.heap.size < w3.heap.size := by
    have h := Rm3.out.size
    simp only [World.size_alloc] at h
    omega
  have cm30 := Rm3.out.cell (p := ⟨w.heap.size, 0, none⟩) (by simp)
  have cm31 := Rm3.out.cell (p := ⟨w.heap.size, 1, none⟩) (by simp)
  clear b3
  go_wp2_with fail
  refine (D2.out _).mono ?_
  rintro e w4 ⟨rfl, b4⟩
  have bb4 : Below w.heap.size w w4 := by
    refine bel_end ?_ b4
    repeat (first | with_reducible refine bel_alloc ?_ | with_reducible refine bel_drew ?_)
    exact BB3.out
  have BB4 := Lib.hid bb4
  clear bb4
  clear BB3
  have rm := bel_via Rm3.out b4 (by
    repeat (first | with_reducible refine bel_alloc ?_ | with_reducible refine bel_drew ?_)
    with_reducible exact Below.refl _ _)
  have Rm4 := Lib.hid rm
  clear rm Rm3 lm3 cm30 cm31
  have lm4 : w.heap.size < w4.heap.size := by
    have h := Rm4.out.size
    simp only [World.size_alloc] at h
    omega
  have cm40 := Rm4.out.cell (p := ⟨w.heap.size, 0, none⟩) (by simp)
  have cm41 := Rm4.out.cell (p := ⟨w.heap.size, 1, none⟩) (by simp)
  clear b4
  go_wp2_with fail
  refine (U3.out _).mono ?_
  rintro e w5 ⟨rfl, b5⟩
  have bb5 : Below w.heap.size w w5 := by
    refine bel_end ?_ b5
    repeat (first | with_reducible refine bel_alloc ?_ | with_reducible refine bel_drew ?_)
    exact BB4.out
  have BB5 := Lib.hid bb5
  clear bb5
  clear BB4
  have rm := bel_via Rm4.out b5 (by
    repeat (first | with_reducible refine bel_alloc ?_ | with_reducible refine bel_drew ?_)
    with_reducible exact Below.refl _ _)
  have Rm5 := Lib.hid rm
  clear rm Rm4 lm4 cm40 cm41
  have lm5 : w.heap.size < w5.heap.size := by
    have h := Rm5.out.size
    simp only [World.size_alloc] at h
    omega
  have cm50 := Rm5.out.cell (p := ⟨w.heap.size, 0, none⟩) (by simp)
  have cm51 := Rm5.out.cell (p := ⟨w.heap.size, 1, none⟩) (by simp)
  clear b5
  go_wp2_with fail
  refine (U4.out _).mono ?_
  rintro e w6 ⟨rfl, b6⟩
  have bb6 : Below w.heap.size w w6 := by
    refine bel_end ?_ b6
    repeat (first | with_reducible refine bel_alloc ?_ | with_reducible refine bel_drew ?_)
    exact BB5.out
  have BB6 := Lib.hid bb6
  clear bb6
  clear BB5
  have rm := bel_via Rm5.out b6 (by
    repeat (first | with_reducible refine bel_alloc ?_ | with_reducible refine bel_drew ?_)
    with_reducible exact Below.refl _ _)
  have Rm6 := Lib.hid rm
  clear rm Rm5 lm5 cm50 cm51
  have lm6 : w.heap.size < w6.heap.size := by
    have h := Rm6.out.size
    simp only [World.size_alloc] at h
    omega
  have cm60 := Rm6.out.cell (p := ⟨w.heap.size, 0, none⟩) (by simp)
  have cm61 := Rm6.out.cell (p := ⟨w.heap.size, 1, none⟩) (by simp)
  clear b6
  go_wp2_with fail
  refine (S.out w6.heap.size _ (by go_simp) (by go_simp)).mono ?_
  rintro e w7 ⟨rfl, rfl⟩
  go_wp2_with (go_at_call 14; refine (awake_yes _).mono ?_; rintro e w' ⟨rfl, hb⟩)
  go_ret
  refine ⟨rfl, bel_end ?_ hb⟩
  repeat (first | with_reducible refine bel_alloc ?_ | with_reducible refine bel_drew ?_)
  exact BB6.out
theorem walk (q r t k : Int) (_ : (Lit.int .i64 q).wf = true) (_ : (Lit.int .i64 r).wf = true) (_ : (Lit.int .i64 t).wf = true) (_ : (Lit.int .i64 k).wf = true) (w : World) : Calls Try.prog 8 #[.agg #[.int .i64 q, .int .i64 r], .int .i64 t, .int .i64 k] w (Yes w) := by
  by_cases h0 : 0 ≤ q
  case neg => exact out0 q r t k   (by omega) w
  by_cases h1 : q ≤ 1073741824
  case neg => exact out1 q r t k  h0 (by omega) w
  by_cases h2 : 0 ≤ r
  case neg => exact out2 q r t k  h0 h1 (by omega) w
  by_cases h3 : r ≤ 1073741824
  case neg => exact out3 q r t k  h0 h1 h2 (by omega) w
  by_cases h4 : 1 ≤ t
  case neg => exact out4 q r t k  h0 h1 h2 h3 (by omega) w
  by_cases h5 : t ≤ 1073741824
  case neg => exact out5 q r t k  h0 h1 h2 h3 h4 (by omega) w
  by_cases h6 : 1 ≤ k
  case neg => exact out6 q r t k  h0 h1 h2 h3 h4 h5 (by omega) w
  by_cases h7 : k ≤ 1000
  case neg => exact out7 q r t k  h0 h1 h2 h3 h4 h5 h6 (by omega) w
  exact inside q r t k  h0 h1 h2 h3 h4 h5 h6 h7 w

set_option maxRecDepth 100000 in
theorem lifted (os : Os) (started : os.Started) (H : Type) (enc : TypeId × Value → H) :
    ReturnsInHanded {} Try.checked os 8 .any (Rows.ratioScalesSpec.pre6 enc Try.prog Try.f8 Rows.ratioScalesRow.domain false) (Rows.ratioScalesSpec.post enc Try.prog Try.f8 false true false false) := by
  refine returnsInHanded_of_change (C := Try.checked) own started (by kernel_rfl) Try.func8
    (ChangeSpec.witness6 (enc := enc) (C := Try.checked) false ⟨#[], #[.agg #[.int .i64 0, .int .i64 0], .int .i64 0, .int .i64 0], []⟩ 8 (by kernel_rfl) (by kernel_rfl) (by kernel_rfl) (by kernel_rfl)) ?_
  intro W base args ds gs before hval0 hW hcnd _
  have hval : ∀ (j : Nat) t v, Try.f8.params[j]? = some t → args[j]? = some v → Value.okWide Try.prog W .any base t v := hval0
  have hW' := hW
  obtain ⟨p, q, hA0, hV, _, hfz, hnd⟩ := hW'
  have hA : DataW.TrodAll enc Try.prog W 0 (fun _ => true) true Try.f8.params.toList args.toList ds p := hA0
  rw [Try.params8] at hA hval
  obtain ⟨v0, v1, v2, d0, d1, d2, p0, p1, p2, rfl, _, _, h0, h1, h2⟩ := trodAll_three hA
  obtain ⟨q, r, rfl, wq, wr⟩ := open_arr2 Try.underlying30 Try.underlying3 (by kernel_rfl) (by kernel_rfl) (hval 0 30 v0 rfl rfl) h0
  obtain ⟨t, rfl, _, _, wt⟩ := open_int Try.underlying3 (hval 1 3 v1 rfl rfl) h1
  obtain ⟨k, rfl, _, _, wk⟩ := open_int Try.underlying3 (hval 2 3 v2 rfl rfl) h2
  refine (walk q r t k wq wr wt wk W).mono fun e W' h => ?_
  exact law_post (f := Try.f8) rfl rfl Try.underlying4 (by kernel_rfl) (fun ds hd => by
    match ds, hd with
    | [_, _, _], _ => rfl) hW h

theorem over : Rows.ratioScalesRow.holds Try.pinned (OpenSpec.ofChange Rows.ratioScalesSpec) :=
  OpenClaim.holds_of_wide 8 Try.f8 rfl rfl rfl rfl rfl rfl rfl ⟨rfl, rfl, rfl, rfl, rfl⟩ rfl rfl rfl rfl rfl (by kernel_rfl) Try.func8 (by kernel_rfl)
    (of_decide_eq_true (by kernel_rfl)) (by unfold Func.isWrapper; first | (rw [if_pos (by decide +kernel)]; kernel_rfl) | (rw [if_neg (by decide +kernel)]; exact ⟨rfl, rfl⟩))
    (fun os started H enc _ => lifted os started H enc)

/-- THE STATEMENT. -/
theorem proved : Rows.RatioScalesSaid := over
end Go.Proofs.Ytbjahjepgjaomaa.ratioScales
