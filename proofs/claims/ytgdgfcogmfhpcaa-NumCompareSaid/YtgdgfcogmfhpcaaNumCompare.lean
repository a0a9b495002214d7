/- NumCompare answers true at every three numbers, and every two wide numbers. No condition. -/
import Derived.Test.YtgdgfcogmfhpcaaNumAwake
import Derived.Test.YtgdgfcogmfhpcaaNumAdd
import Derived.Test.YtgdgfcogmfhpcaaNumLess
import Derived.Test.YtgdgfcogmfhpcaaQuotLaws
import Derived.WalkLawsBesides
import Derived.WalkSpells
import Derived.Outline
import Derived.Deep.RegionHeld3
import Derived.Deep.QuietTactic
import Derived.BigQuiet
import Derived.Deep.CutBlock
import Derived.Deep.DeepCutAuto
namespace Go.Proofs.Ytgdgfcogmfhpcaa.numCompare
open Go.ChangeShapes Go.WideShapes Go.ChangeAt Go.RowKit Go.Joins

/-! ### the plain law -/
theorem bel_via {a w w1 w' : World} (h : Below a.heap.size a w) (hb : Below w1.heap.size w1 w') (hm : Below w.heap.size w w1) : Below a.heap.size a w' := bel_end (bel_end h hm) hb
theorem uniq {B q r q' r' : Nat} (hr : r < B) (hr' : r' < B) (h : q * B + r = q' * B + r') : q = q' ∧ r = r' := by
  have h1 : (q * B + r) % B = r := by rw [Nat.mul_comm, Nat.mul_add_mod, Nat.mod_eq_of_lt hr]
  have h2 : (q' * B + r') % B = r' := by rw [Nat.mul_comm, Nat.mul_add_mod, Nat.mod_eq_of_lt hr']
  have e : r = r' := by rw [← h1, ← h2, h]
  subst e
  exact ⟨Nat.eq_of_mul_eq_mul_right (by omega) (Nat.add_right_cancel h), rfl⟩
theorem uniq3 {B o h l o' h' l' : Nat} (hh : h < B) (hl : l < B) (hh' : h' < B) (hl' : l' < B) (e : o * (B * B) + h * B + l = o' * (B * B) + h' * B + l') : o = o' ∧ h = h' ∧ l = l' := by
  have e1 : (o * B + h) * B + l = (o' * B + h') * B + l' := by rw [Nat.add_mul, Nat.add_mul, Nat.mul_assoc, Nat.mul_assoc]; exact e
  obtain ⟨a, b⟩ := uniq hl hl' e1
  obtain ⟨c, d⟩ := uniq hh hh' a
  exact ⟨c, d, b⟩
/-- a sum of two wide numbers does not hang on the order. -/
theorem add_both (h l k m : Nat) (hl : l < 18446744073709551616) (hm : m < 18446744073709551616) : ∃ u v e : Int,
    (∀ w, Calls Try.prog 26 #[.agg #[.int .u64 h, .int .u64 l], .agg #[.int .u64 k, .int .u64 m]] w (Gives (.tuple #[.agg #[.int .u64 u, .int .u64 v], .int .i64 e]) w)) ∧
    (∀ w, Calls Try.prog 26 #[.agg #[.int .u64 k, .int .u64 m], .agg #[.int .u64 h, .int .u64 l]] w (Gives (.tuple #[.agg #[.int .u64 u, .int .u64 v], .int .i64 e]) w)) := by
  obtain ⟨hi, lo, ov, s1, a1, a2, c1⟩ := add_all h l k m hl hm
  obtain ⟨hi', lo', ov', s2, b1, b2, c2⟩ := add_all k m h l hm hl
  rw [Nat.add_comm] at s2
  obtain ⟨e1, e2, e3⟩ := uniq3 a1 a2 b1 b2 (s1.symm.trans s2)
  subst e1 e2 e3
  by_cases h0 : ov = 0
  · simp only [if_pos h0] at c1 c2
    exact ⟨_, _, _, c1, c2⟩
  · simp only [if_neg h0] at c1 c2
    exact ⟨_, _, _, c1, c2⟩
theorem divs (x y z : Nat) (hx : x ≤ 1048576) (hy : y ≤ 1099511627776) (hz : 1 ≤ z) : ∃ m n o u : Nat,
    divNum x y z false = m ∧ divErr x y z false = 0 ∧ divNum (x + 1 : Nat) y z false = n ∧ divErr (x + 1 : Nat) y z false = 0 ∧ divNum x y (z + 1 : Nat) false = o ∧ divErr x y (z + 1 : Nat) false = 0 ∧ divNum x y z true = u ∧ divErr x y z true = 0 ∧
    m ≤ n ∧ o ≤ m ∧ m ≤ u ∧ u ≤ m + 1 ∧ m ≤ 1152922604118474752 := by
  have p1 : x * y ≤ 1048577 * 1099511627776 := Nat.mul_le_mul (by omega) hy
  have p2 : (x + 1) * y ≤ 1048577 * 1099511627776 := Nat.mul_le_mul (by omega) hy
  have f (up : Bool) (n c : Nat) (hc : 1 ≤ c) (h : n ≤ 1048577 * 1099511627776) : quot up n c ≤ 1152922604118474752 := quot_fit up hc (Nat.le_trans h (by have : 1152922604118474752 * 1 ≤ 1152922604118474752 * c := Nat.mul_le_mul_left _ hc; omega))
  have f1 := f false _ z hz p1
  have f2 := f false _ z hz p2
  have f3 := f false _ (z + 1) (by omega) p1
  have f4 := f true _ z hz p1
  have r1 := divRes_nat (x := x) (y := y) (c := z) (up := false) hz (Nat.le_trans f1 (by omega))
  have r2 := divRes_nat (x := x + 1) (y := y) (c := z) (up := false) hz (Nat.le_trans f2 (by omega))
  have r3 := divRes_nat (x := x) (y := y) (c := z + 1) (up := false) (by omega) (Nat.le_trans f3 (by omega))
  have r4 := divRes_nat (x := x) (y := y) (c := z) (up := true) hz (Nat.le_trans f4 (by omega))
  have b := quot_both (x * y) z
  exact ⟨_, _, _, _, r1.1, r1.2, r2.1, r2.2, r3.1, r3.2, r4.1, r4.2, quot_mono false hz (Nat.mul_le_mul_right _ (by omega)), quot_anti false hz (by omega), b.1, b.2, f1⟩
theorem less_nat (a b c d : Nat) (ha : a ≤ 9223372036854775807) (hb : b ≤ 9223372036854775807) (hc : c ≤ 9223372036854775807) (hd : d ≤ 9223372036854775807) (w : World) : Calls Try.prog 24 #[.int .i64 a, .int .i64 b, .int .i64 c, .int .i64 d] w (Gives (.tuple #[.bool (decide (a * b < c * d)), .int .i64 0]) w) :=
  less_ok a b c d (by omega) (by omega) (by omega) (by omega) (by omega) (by omega) (by omega) (by omega) w
theorem three (x y z : Nat) : (0 < y ∧ x < z ∧ decide (x * y < y * z) = true ∧ decide (y * z < x * y) = false) ∨ (y = 0 ∧ decide (x * y < y * z) = false) ∨ (0 < y ∧ z ≤ x ∧ decide (x * y < y * z) = false) := by
  by_cases hy : y = 0
  · exact .inr (.inl ⟨hy, decide_eq_false (by rw [hy]; simp)⟩)
  · by_cases hx : x < z
    · have h1 : y * x < y * z := Nat.mul_lt_mul_of_pos_left hx (by omega)
      exact .inl ⟨by omega, hx, decide_eq_true (by rw [Nat.mul_comm x y]; exact h1), decide_eq_false (by rw [Nat.mul_comm x y]; omega)⟩
    · have h1 : y * z ≤ y * x := Nat.mul_le_mul_left _ (by omega)
      exact .inr (.inr ⟨by omega, by omega, decide_eq_false (by rw [Nat.mul_comm x y]; omega)⟩)

theorem less_gives (h l k m : Nat) (hl : l < 18446744073709551616) (hm : m < 18446744073709551616) (w : World) : Calls Try.prog 27 #[.agg #[.int .u64 h, .int .u64 l], .agg #[.int .u64 k, .int .u64 m]] w (Gives (.bool (decide (h * 18446744073709551616 + l < k * 18446744073709551616 + m))) w) := by
  refine (wide_less h l k m hl hm w).mono ?_
  rintro e w' ⟨rfl, rfl⟩
  exact ⟨rfl, bel_alloc (bel_alloc (Below.refl _ _))⟩

/-! ### the walk -/
set_option maxRecDepth 100000 in
set_option maxHeartbeats 8000000 in
theorem low0 (x y z h l k m : Int)  (hh : x < 0) (w : World) : Calls Try.prog 8 #[.agg #[.int .i64 x, .int .i64 y, .int .i64 z], .agg #[.int .u64 h, .int .u64 l], .agg #[.int .u64 k, .int .u64 m]] w (Yes w) := by
  have dx0 : decide (x < 0) = true := decide_eq_true hh
  clear  hh
  go_enter Try.func8, Try.ntmps8
  go_wp2_with fail
  refine wp_loop_rounds 1 ?_
  rw [rounds_succ]
  go_wp2_with (go_at_call 12; refine (awake_yes _).mono ?_; rintro e w' ⟨rfl, hb⟩)
  go_ret
  refine ⟨rfl, bel_end ?_ hb⟩
  repeat (first | with_reducible refine bel_alloc ?_ | with_reducible refine bel_drew ?_)
  with_reducible exact Below.refl _ _
set_option maxRecDepth 100000 in
set_option maxHeartbeats 8000000 in
theorem high0 (x y z h l k m : Int)  (x0 : 0 ≤ x) (hh : 1099511627776 < x) (w : World) : Calls Try.prog 8 #[.agg #[.int .i64 x, .int .i64 y, .int .i64 z], .agg #[.int .u64 h, .int .u64 l], .agg #[.int .u64 k, .int .u64 m]] w (Yes w) := by
  have dx0 : decide (x < 0) = false := decide_eq_false (Int.not_lt.2 x0)
  have dx1 : decide (1099511627776 < x) = true := decide_eq_true hh
  clear  x0 hh
  go_enter Try.func8, Try.ntmps8
  go_wp2_with fail
  refine wp_loop_rounds 1 ?_
  rw [rounds_succ]
  go_wp2_with (go_at_call 12; refine (awake_yes _).mono ?_; rintro e w' ⟨rfl, hb⟩)
  go_ret
  refine ⟨rfl, bel_end ?_ hb⟩
  repeat (first | with_reducible refine bel_alloc ?_ | with_reducible refine bel_drew ?_)
  with_reducible exact Below.refl _ _
set_option maxRecDepth 100000 in
set_option maxHeartbeats 8000000 in
theorem low1 (x y z h l k m : Int) (x0 : 0 ≤ x) (x1 : x ≤ 1099511627776) (hh : y < 0) (w : World) : Calls Try.prog 8 #[.agg #[.int .i64 x, .int .i64 y, .int .i64 z], .agg #[.int .u64 h, .int .u64 l], .agg #[.int .u64 k, .int .u64 m]] w (Yes w) := by
  have dx0 : decide (x < 0) = false := decide_eq_false (Int.not_lt.2 x0)
  have dx1 : decide (1099511627776 < x) = false := decide_eq_false (Int.not_lt.2 x1)
  have dy0 : decide (y < 0) = true := decide_eq_true hh
  clear x0 x1 hh
  go_enter Try.func8, Try.ntmps8
  go_wp2_with fail
  refine wp_loop_rounds 2 ?_
  rw [rounds_succ]
  go_wp2_with (go_at_call 12; refine (awake_yes _).mono ?_; rintro e w' ⟨rfl, hb⟩)
  rw [rounds_succ]
  go_wp2_with (go_at_call 12; refine (awake_yes _).mono ?_; rintro e w' ⟨rfl, hb⟩)
  go_ret
  refine ⟨rfl, bel_end ?_ hb⟩
  repeat (first | with_reducible refine bel_alloc ?_ | with_reducible refine bel_drew ?_)
  with_reducible exact Below.refl _ _
set_option maxRecDepth 100000 in
set_option maxHeartbeats 8000000 in
theorem high1 (x y z h l k m : Int) (x0 : 0 ≤ x) (x1 : x ≤ 1099511627776) (y0 : 0 ≤ y) (hh : 1099511627776 < y) (w : World) : Calls Try.prog 8 #[.agg #[.int .i64 x, .int .i64 y, .int .i64 z], .agg #[.int .u64 h, .int .u64 l], .agg #[.int .u64 k, .int .u64 m]] w (Yes w) := by
  have dx0 : decide (x < 0) = false := decide_eq_false (Int.not_lt.2 x0)
  have dx1 : decide (1099511627776 < x) = false := decide_eq_false (Int.not_lt.2 x1)
  have dy0 : decide (y < 0) = false := decide_eq_false (Int.not_lt.2 y0)
  have dy1 : decide (1099511627776 < y) = true := decide_eq_true hh
  clear x0 x1 y0 hh
  go_enter Try.func8, Try.ntmps8
  go_wp2_with fail
  refine wp_loop_rounds 2 ?_
  rw [rounds_succ]
  go_wp2_with (go_at_call 12; refine (awake_yes _).mono ?_; rintro e w' ⟨rfl, hb⟩)
  rw [rounds_succ]
  go_wp2_with (go_at_call 12; refine (awake_yes _).mono ?_; rintro e w' ⟨rfl, hb⟩)
  go_ret
  refine ⟨rfl, bel_end ?_ hb⟩
  repeat (first | with_reducible refine bel_alloc ?_ | with_reducible refine bel_drew ?_)
  with_reducible exact Below.refl _ _
set_option maxRecDepth 100000 in
set_option maxHeartbeats 8000000 in
theorem low2 (x y z h l k m : Int) (x0 : 0 ≤ x) (x1 : x ≤ 1099511627776) (y0 : 0 ≤ y) (y1 : y ≤ 1099511627776) (hh : z < 0) (w : World) : Calls Try.prog 8 #[.agg #[.int .i64 x, .int .i64 y, .int .i64 z], .agg #[.int .u64 h, .int .u64 l], .agg #[.int .u64 k, .int .u64 m]] w (Yes w) := by
  have dx0 : decide (x < 0) = false := decide_eq_false (Int.not_lt.2 x0)
  have dx1 : decide (1099511627776 < x) = false := decide_eq_false (Int.not_lt.2 x1)
  have dy0 : decide (y < 0) = false := decide_eq_false (Int.not_lt.2 y0)
  have dy1 : decide (1099511627776 < y) = false := decide_eq_false (Int.not_lt.2 y1)
  have dz0 : decide (z < 0) = true := decide_eq_true hh
  clear x0 x1 y0 y1 hh
  go_enter Try.func8, Try.ntmps8
  go_wp2_with fail
  refine wp_loop_rounds 3 ?_
  rw [rounds_succ]
  go_wp2_with (go_at_call 12; refine (awake_yes _).mono ?_; rintro e w' ⟨rfl, hb⟩)
  rw [rounds_succ]
  go_wp2_with (go_at_call 12; refine (awake_yes _).mono ?_; rintro e w' ⟨rfl, hb⟩)
  rw [rounds_succ]
  go_wp2_with (go_at_call 12; refine (awake_yes _).mono ?_; rintro e w' ⟨rfl, hb⟩)
  go_ret
  refine ⟨rfl, bel_end ?_ hb⟩
  repeat (first | with_reducible refine bel_alloc ?_ | with_reducible refine bel_drew ?_)
  with_reducible exact Below.refl _ _
set_option maxRecDepth 100000 in
set_option maxHeartbeats 8000000 in
theorem high2 (x y z h l k m : Int) (x0 : 0 ≤ x) (x1 : x ≤ 1099511627776) (y0 : 0 ≤ y) (y1 : y ≤ 1099511627776) (z0 : 0 ≤ z) (hh : 1099511627776 < z) (w : World) : Calls Try.prog 8 #[.agg #[.int .i64 x, .int .i64 y, .int .i64 z], .agg #[.int .u64 h, .int .u64 l], .agg #[.int .u64 k, .int .u64 m]] w (Yes w) := by
  have dx0 : decide (x < 0) = false := decide_eq_false (Int.not_lt.2 x0)
  have dx1 : decide (1099511627776 < x) = false := decide_eq_false (Int.not_lt.2 x1)
  have dy0 : decide (y < 0) = false := decide_eq_false (Int.not_lt.2 y0)
  have dy1 : decide (1099511627776 < y) = false := decide_eq_false (Int.not_lt.2 y1)
  have dz0 : decide (z < 0) = false := decide_eq_false (Int.not_lt.2 z0)
  have dz1 : decide (1099511627776 < z) = true := decide_eq_true hh
  clear x0 x1 y0 y1 z0 hh
  go_enter Try.func8, Try.ntmps8
  go_wp2_with fail
  refine wp_loop_rounds 3 ?_
  rw [rounds_succ]
  go_wp2_with (go_at_call 12; refine (awake_yes _).mono ?_; rintro e w' ⟨rfl, hb⟩)
  rw [rounds_succ]
  go_wp2_with (go_at_call 12; refine (awake_yes _).mono ?_; rintro e w' ⟨rfl, hb⟩)
  rw [rounds_succ]
  go_wp2_with (go_at_call 12; refine (awake_yes _).mono ?_; rintro e w' ⟨rfl, hb⟩)
  go_ret
  refine ⟨rfl, bel_end ?_ hb⟩
  repeat (first | with_reducible refine bel_alloc ?_ | with_reducible refine bel_drew ?_)
  with_reducible exact Below.refl _ _
set_option maxRecDepth 100000 in
set_option maxHeartbeats 40000000 in
theorem inside (x y z h l k m : Nat) (hx : x ≤ 1099511627776) (hy : y ≤ 1099511627776) (hz : z ≤ 1099511627776) (hl : l < 18446744073709551616) (hm : m < 18446744073709551616) (w : World) : Calls Try.prog 8 #[.agg #[.int .i64 x, .int .i64 y, .int .i64 z], .agg #[.int .u64 h, .int .u64 l], .agg #[.int .u64 k, .int .u64 m]] w (Yes w) := by
  have dx0 : decide ((x : Int) < 0) = false := decide_eq_false (by omega)
  have dx1 : decide (1099511627776 < (x : Int)) = false := decide_eq_false (by omega)
  have dy0 : decide ((y : Int) < 0) = false := decide_eq_false (by omega)
  have dy1 : decide (1099511627776 < (y : Int)) = false := decide_eq_false (by omega)
  have dz0 : decide ((z : Int) < 0) = false := decide_eq_false (by omega)
  have dz1 : decide (1099511627776 < (z : Int)) = false := decide_eq_false (by omega)
  have L1 := Lib.hid (less_nat x y y z (by omega) (by omega) (by omega) (by omega))
  have L2 := Lib.hid (less_nat y z x y (by omega) (by omega) (by omega) (by omega))
  have L3 := Lib.hid (less_nat x z z x (by omega) (by omega) (by omega) (by omega))
  have TH := Lib.hid (three x y z)
  have e3 : decide (x * z < z * x) = false := decide_eq_false (by rw [Nat.mul_comm]; omega)
  rw [e3] at L3
  obtain ⟨r1, hr1⟩ : ∃ r, decide (x * y < y * z) = r := ⟨_, rfl⟩
  obtain ⟨r2, hr2⟩ : ∃ r, decide (y * z < x * y) = r := ⟨_, rfl⟩
  rw [hr1] at L1 TH
  rw [hr2] at L2 TH
  obtain ⟨u, v, er, a1, a2⟩ := add_both h l k m hl hm
  have A1 := Lib.hid a1
  have A2 := Lib.hid a2
  have P1 := Lib.hid (less_gives h l k m hl hm)
  have P2 := Lib.hid (less_gives k m h l hm hl)
  have HX := Lib.hid hx
  have HY := Lib.hid hy
  have HZ := Lib.hid hz
  clear e3 hr1 hr2 a1 a2 hx hy hz
  go_enter Try.func8, Try.ntmps8
  go_wp2_with fail
  refine wp_loop_rounds 4 ?_
  rw [rounds_succ]
  go_wp2_with fail
  rw [rounds_succ]
  go_wp2_with fail
  rw [rounds_succ]
  go_wp2_with fail
  rw [rounds_succ]
  clear dx0 dx1 dy0 dy1 dz0 dz1
  go_wp2_with fail
  refine (L1.out _).mono ?_
  rintro e w1 ⟨rfl, b1⟩
  have bb1 : Below w.heap.size w w1 := by
    refine bel_end ?_ b1
    repeat (first | with_reducible refine bel_alloc ?_ | with_reducible refine bel_drew ?_)
    exact Below.refl _ w
  have BB1 := Lib.hid bb1
  clear bb1
  have Rq1 := Lib.hid b1
  have lq1 : w.heap.size < w1.heap.size := by
    have h := Rq1.out.size
    try simp only [World.size_alloc] at h
    omega
  have cq10 := Rq1.out.cell (p := ⟨w.heap.size, 0, none⟩) (by first | (simp; done) | (dsimp only; omega) | (simp; omega))
  have cq11 := Rq1.out.cell (p := ⟨w.heap.size, 1, none⟩) (by first | (simp; done) | (dsimp only; omega) | (simp; omega))
  have cq12 := Rq1.out.cell (p := ⟨w.heap.size, 2, none⟩) (by first | (simp; done) | (dsimp only; omega) | (simp; omega))
  have Ra1 := Lib.hid b1
  have la1 : w.heap.size + 1 < w1.heap.size := by
    have h := Ra1.out.size
    try simp only [World.size_alloc] at h
    omega
  have ca10 := Ra1.out.cell (p := ⟨w.heap.size + 1, 0, none⟩) (by first | (simp; done) | (dsimp only; omega) | (simp; omega))
  have ca11 := Ra1.out.cell (p := ⟨w.heap.size + 1, 1, none⟩) (by first | (simp; done) | (dsimp only; omega) | (simp; omega))
  have Rb1 := Lib.hid b1
  have lb1 : w.heap.size + 2 < w1.heap.size := by
    have h := Rb1.out.size
    try simp only [World.size_alloc] at h
    omega
  have cb10 := Rb1.out.cell (p := ⟨w.heap.size + 2, 0, none⟩) (by first | (simp; done) | (dsimp only; omega) | (simp; omega))
  have cb11 := Rb1.out.cell (p := ⟨w.heap.size + 2, 1, none⟩) (by first | (simp; done) | (dsimp only; omega) | (simp; omega))
  clear b1
  go_wp2_with fail
  refine (L2.out _).mono ?_
  rintro e w2 ⟨rfl, b2⟩
  have bb2 : Below w.heap.size w w2 := by
    refine bel_end ?_ b2
    repeat (first | with_reducible refine bel_alloc ?_ | with_reducible refine bel_drew ?_)
    exact BB1.out
  have BB2 := Lib.hid bb2
  clear bb2
  clear BB1
  have rq := bel_via Rq1.out b2 (by
    repeat (first | with_reducible refine bel_alloc ?_ | with_reducible refine bel_drew ?_)
    with_reducible exact Below.refl _ _)
  have Rq2 := Lib.hid rq
  clear rq Rq1 lq1 cq10 cq11 cq12
  have lq2 : w.heap.size < w2.heap.size := by
    have h := Rq2.out.size
    try simp only [World.size_alloc] at h
    omega
  have cq20 := Rq2.out.cell (p := ⟨w.heap.size, 0, none⟩) (by first | (simp; done) | (dsimp only; omega) | (simp; omega))
  have cq21 := Rq2.out.cell (p := ⟨w.heap.size, 1, none⟩) (by first | (simp; done) | (dsimp only; omega) | (simp; omega))
  have cq22 := Rq2.out.cell (p := ⟨w.heap.size, 2, none⟩) (by first | (simp; done) | (dsimp only; omega) | (simp; omega))
  have ra := bel_via Ra1.out b2 (by
    repeat (first | with_reducible refine bel_alloc ?_ | with_reducible refine bel_drew ?_)
    with_reducible exact Below.refl _ _)
  have Ra2 := Lib.hid ra
  clear ra Ra1 la1 ca10 ca11
  have la2 : w.heap.size + 1 < w2.heap.size := by
    have h := Ra2.out.size
    try simp only [World.size_alloc] at h
    omega
  have ca20 := Ra2.out.cell (p := ⟨w.heap.size + 1, 0, none⟩) (by first | (simp; done) | (dsimp only; omega) | (simp; omega))
  have ca21 := Ra2.out.cell (p := ⟨w.heap.size + 1, 1, none⟩) (by first | (simp; done) | (dsimp only; omega) | (simp; omega))
  have rb := bel_via Rb1.out b2 (by
    repeat (first | with_reducible refine bel_alloc ?_ | with_reducible refine bel_drew ?_)
    with_reducible exact Below.refl _ _)
  have Rb2 := Lib.hid rb
  clear rb Rb1 lb1 cb10 cb11
  have lb2 : w.heap.size + 2 < w2.heap.size := by
    have h := Rb2.out.size
    try simp only [World.size_alloc] at h
    omega
  have cb20 := Rb2.out.cell (p := ⟨w.heap.size + 2, 0, none⟩) (by first | (simp; done) | (dsimp only; omega) | (simp; omega))
  have cb21 := Rb2.out.cell (p := ⟨w.heap.size + 2, 1, none⟩) (by first | (simp; done) | (dsimp only; omega) | (simp; omega))
  clear b2
  go_wp2_with fail
  refine (L3.out _).mono ?_
  rintro e w3 ⟨rfl, b3⟩
  have bb3 : Below w.heap.size w w3 := by
    refine bel_end ?_ b3
    repeat (first | with_reducible refine bel_alloc ?_ | with_reducible refine bel_drew ?_)
    exact BB2.out
  have BB3 := Lib.hid bb3
  clear bb3
  clear BB2
  have rq := bel_via Rq2.out b3 (by
    repeat (first | with_reducible refine bel_alloc ?_ | with_reducible refine bel_drew ?_)
    with_reducible exact Below.refl _ _)
  have Rq3 := Lib.hid rq
  clear rq Rq2 lq2 cq20 cq21 cq22
  have lq3 : w.heap.size < w3.heap.size := by
    have h := Rq3.out.size
    try simp only [World.size_alloc] at h
    omega
  have cq30 := Rq3.out.cell (p := ⟨w.heap.size, 0, none⟩) (by first | (simp; done) | (dsimp only; omega) | (simp; omega))
  have cq31 := Rq3.out.cell (p := ⟨w.heap.size, 1, none⟩) (by first | (simp; done) | (dsimp only; omega) | (simp; omega))
  have cq32 := Rq3.out.cell (p := ⟨w.heap.size, 2, none⟩) (by first | (simp; done) | (dsimp only; omega) | (simp; omega))
  have ra := bel_via Ra2.out b3 (by
    repeat (first | with_reducible refine bel_alloc ?_ | with_reducible refine bel_drew ?_)
    with_reducible exact Below.refl _ _)
  have Ra3 := Lib.hid ra
  clear ra Ra2 la2 ca20 ca21
  have la3 : w.heap.size + 1 < w3.heap.size := by
    have h := Ra3.out.size
    try simp only [World.size_alloc] at h
    omega
  have ca30 := Ra3.out.cell (p := ⟨w.heap.size + 1, 0, none⟩) (by first | (simp; done) | (dsimp only; omega) | (simp; omega))
  have ca31 := Ra3.out.cell (p := ⟨w.heap.size + 1, 1, none⟩) (by first | (simp; done) | (dsimp only; omega) | (simp; omega))
  have rb := bel_via Rb2.out b3 (by
    repeat (first | with_reducible refine bel_alloc ?_ | with_reducible refine bel_drew ?_)
    with_reducible exact Below.refl _ _)
  have Rb3 := Lib.hid rb
  clear rb Rb2 lb2 cb20 cb21
  have lb3 : w.heap.size + 2 < w3.heap.size := by
    have h := Rb3.out.size
    try simp only [World.size_alloc] at h
    omega
  have cb30 := Rb3.out.cell (p := ⟨w.heap.size + 2, 0, none⟩) (by first | (simp; done) | (dsimp only; omega) | (simp; omega))
  have cb31 := Rb3.out.cell (p := ⟨w.heap.size + 2, 1, none⟩) (by first | (simp; done) | (dsimp only; omega) | (simp; omega))
  clear b3
  go_upto_region 9 with fail
  go_cut [8, 10, 109] from 26 to 108 (fun s8 s10 s wx => s = .bool false ∧ w3 = wx)
  case first =>
    rcases TH.out with ⟨t1, t2, t3, t4⟩ | ⟨t1, t3⟩ | ⟨t1, t2, t3⟩
    · subst t3 t4
      have d1 : decide (0 < y) = true := decide_eq_true t1
      have d2 : decide (x < z) = true := decide_eq_true t2
      clear t1 t2
      go_wp2_with fail
      go_meet
      exact ⟨by first | rfl | simp [d1] | simp [d1, d2], rfl⟩
    · subst t3
      have d1 : decide (0 < y) = false := decide_eq_false (by omega)
      clear t1
      go_wp2_with fail
      go_meet
      exact ⟨by first | rfl | simp [d1] | simp [d1, d2], rfl⟩
    · subst t3
      have d1 : decide (0 < y) = true := decide_eq_true t1
      have d2 : decide (x < z) = false := decide_eq_false (by omega)
      clear t1 t2
      go_wp2_with fail
      go_meet
      exact ⟨by first | rfl | simp [d1] | simp [d1, d2], rfl⟩
  case rest =>
  obtain ⟨rfl, ew⟩ := hcut
  subst ew
  clear L1 L2 L3 TH
  go_wp2_with fail
  refine (A1.out _).mono ?_
  rintro e w4 ⟨rfl, b4⟩
  have bb4 : Below w.heap.size w w4 := by
    refine bel_end ?_ b4
    repeat (first | with_reducible refine bel_alloc ?_ | with_reducible refine bel_drew ?_)
    exact BB3.out
  have BB4 := Lib.hid bb4
  clear bb4
  have rq := bel_via Rq3.out b4 (by
    repeat (first | with_reducible refine bel_alloc ?_ | with_reducible refine bel_drew ?_)
    with_reducible exact Below.refl _ _)
  have Rq4 := Lib.hid rq
  clear rq Rq3 lq3 cq30 cq31 cq32
  have lq4 : w.heap.size < w4.heap.size := by
    have h := Rq4.out.size
    try simp only [World.size_alloc] at h
    omega
  have cq40 := Rq4.out.cell (p := ⟨w.heap.size, 0, none⟩) (by first | (simp; done) | (dsimp only; omega) | (simp; omega))
  have cq41 := Rq4.out.cell (p := ⟨w.heap.size, 1, none⟩) (by first | (simp; done) | (dsimp only; omega) | (simp; omega))
  have cq42 := Rq4.out.cell (p := ⟨w.heap.size, 2, none⟩) (by first | (simp; done) | (dsimp only; omega) | (simp; omega))
  have ra := bel_via Ra3.out b4 (by
    repeat (first | with_reducible refine bel_alloc ?_ | with_reducible refine bel_drew ?_)
    with_reducible exact Below.refl _ _)
  have Ra4 := Lib.hid ra
  clear ra Ra3 la3 ca30 ca31
  have la4 : w.heap.size + 1 < w4.heap.size := by
    have h := Ra4.out.size
    try simp only [World.size_alloc] at h
    omega
  have ca40 := Ra4.out.cell (p := ⟨w.heap.size + 1, 0, none⟩) (by first | (simp; done) | (dsimp only; omega) | (simp; omega))
  have ca41 := Ra4.out.cell (p := ⟨w.heap.size + 1, 1, none⟩) (by first | (simp; done) | (dsimp only; omega) | (simp; omega))
  have rb := bel_via Rb3.out b4 (by
    repeat (first | with_reducible refine bel_alloc ?_ | with_reducible refine bel_drew ?_)
    with_reducible exact Below.refl _ _)
  have Rb4 := Lib.hid rb
  clear rb Rb3 lb3 cb30 cb31
  have lb4 : w.heap.size + 2 < w4.heap.size := by
    have h := Rb4.out.size
    try simp only [World.size_alloc] at h
    omega
  have cb40 := Rb4.out.cell (p := ⟨w.heap.size + 2, 0, none⟩) (by first | (simp; done) | (dsimp only; omega) | (simp; omega))
  have cb41 := Rb4.out.cell (p := ⟨w.heap.size + 2, 1, none⟩) (by first | (simp; done) | (dsimp only; omega) | (simp; omega))
  clear b4
  go_wp2_with fail
  refine (A2.out _).mono ?_
  rintro e w5 ⟨rfl, b5⟩
  have bb5 : Below w.heap.size w w5 := by
    refine bel_end ?_ b5
    repeat (first | with_reducible refine bel_alloc ?_ | with_reducible refine bel_drew ?_)
    exact BB4.out
  have BB5 := Lib.hid bb5
  clear bb5
  clear BB4
  have rq := bel_via Rq4.out b5 (by
    repeat (first | with_reducible refine bel_alloc ?_ | with_reducible refine bel_drew ?_)
    with_reducible exact Below.refl _ _)
  have Rq5 := Lib.hid rq
  clear rq Rq4 lq4 cq40 cq41 cq42
  have lq5 : w.heap.size < w5.heap.size := by
    have h := Rq5.out.size
    try simp only [World.size_alloc] at h
    omega
  have cq50 := Rq5.out.cell (p := ⟨w.heap.size, 0, none⟩) (by first | (simp; done) | (dsimp only; omega) | (simp; omega))
  have cq51 := Rq5.out.cell (p := ⟨w.heap.size, 1, none⟩) (by first | (simp; done) | (dsimp only; omega) | (simp; omega))
  have cq52 := Rq5.out.cell (p := ⟨w.heap.size, 2, none⟩) (by first | (simp; done) | (dsimp only; omega) | (simp; omega))
  have ra := bel_via Ra4.out b5 (by
    repeat (first | with_reducible refine bel_alloc ?_ | with_reducible refine bel_drew ?_)
    with_reducible exact Below.refl _ _)
  have Ra5 := Lib.hid ra
  clear ra Ra4 la4 ca40 ca41
  have la5 : w.heap.size + 1 < w5.heap.size := by
    have h := Ra5.out.size
    try simp only [World.size_alloc] at h
    omega
  have ca50 := Ra5.out.cell (p := ⟨w.heap.size + 1, 0, none⟩) (by first | (simp; done) | (dsimp only; omega) | (simp; omega))
  have ca51 := Ra5.out.cell (p := ⟨w.heap.size + 1, 1, none⟩) (by first | (simp; done) | (dsimp only; omega) | (simp; omega))
  have rb := bel_via Rb4.out b5 (by
    repeat (first | with_reducible refine bel_alloc ?_ | with_reducible refine bel_drew ?_)
    with_reducible exact Below.refl _ _)
  have Rb5 := Lib.hid rb
  clear rb Rb4 lb4 cb40 cb41
  have lb5 : w.heap.size + 2 < w5.heap.size := by
    have h := Rb5.out.size
    try simp only [World.size_alloc] at h
    omega
  have cb50 := Rb5.out.cell (p := ⟨w.heap.size + 2, 0, none⟩) (by first | (simp; done) | (dsimp only; omega) | (simp; omega))
  have cb51 := Rb5.out.cell (p := ⟨w.heap.size + 2, 1, none⟩) (by first | (simp; done) | (dsimp only; omega) | (simp; omega))
  have Rc5 := Lib.hid b5
  have lc5 : w4.heap.size < w5.heap.size := by
    have h := Rc5.out.size
    try simp only [World.size_alloc] at h
    omega
  have cc50 := Rc5.out.cell (p := ⟨w4.heap.size, 0, none⟩) (by first | (simp; done) | (dsimp only; omega) | (simp; omega))
  have cc51 := Rc5.out.cell (p := ⟨w4.heap.size, 1, none⟩) (by first | (simp; done) | (dsimp only; omega) | (simp; omega))
  clear b5
  go_upto_region 13 with fail
  go_cut [155] from 26 to 154 (fun s wx => s = .bool false ∧ Below (w5.alloc (.cells #[.int .u64 u, .int .u64 v] 43)).heap.size (w5.alloc (.cells #[.int .u64 u, .int .u64 v] 43)) wx)
  case first =>
    have BH0 := (Below.refl (w5.alloc (.cells #[.int .u64 u, .int .u64 v] 43)).heap.size (w5.alloc (.cells #[.int .u64 u, .int .u64 v] 43)))
    have ya0 : w5.cell? ⟨w.heap.size + 1, 0, none⟩ = some (.int .u64 h) := ca50.trans (by go_simp)
    have ya1 : w5.cell? ⟨w.heap.size + 1, 1, none⟩ = some (.int .u64 l) := ca51.trans (by go_simp)
    have yb0 : w5.cell? ⟨w.heap.size + 1 + 1, 0, none⟩ = some (.int .u64 k) := cb50.trans (by go_simp)
    have yb1 : w5.cell? ⟨w.heap.size + 1 + 1, 1, none⟩ = some (.int .u64 m) := cb51.trans (by go_simp)
    have yc0 : w5.cell? ⟨w4.heap.size, 0, none⟩ = some (.int .u64 u) := cc50.trans (by go_simp)
    have yc1 : w5.cell? ⟨w4.heap.size, 1, none⟩ = some (.int .u64 v) := cc51.trans (by go_simp)
    have lb5' : w.heap.size + 1 + 1 < w5.heap.size := lb5
    clear ca50 ca51 cb50 cb51 cc50 cc51 cq50 cq51 cq52 lb5
    have HK := Lib.hid (And.intro hl hm)
    clear hl hm
    have hl := HK.out.1
    have hm := HK.out.2
    rcases Nat.lt_trichotomy h k with hk | hk | hk
    · have f1 : decide (h * 18446744073709551616 + l < k * 18446744073709551616 + m) = true := decide_eq_true (by omega)
      have f2 : decide (k * 18446744073709551616 + m < h * 18446744073709551616 + l) = false := decide_eq_false (by omega)
      have g1 : ((h : Int) == (k : Int)) = false := by simp; omega
      have g2 : (h == k) = false := by simp; omega
      have g3 : decide (h = k) = false := decide_eq_false (by omega)
      rw [f1] at P1
      rw [f2] at P2
      clear f1 f2 HK hl hm hk
      refine wp_region_held_drew (S := (fun w' => w'.cell? ⟨w.heap.size + 1, 0, none⟩ = some (.int .u64 h) ∧ w'.cell? ⟨w.heap.size + 1, 1, none⟩ = some (.int .u64 l) ∧ w'.cell? ⟨w.heap.size + 1 + 1, 0, none⟩ = some (.int .u64 k) ∧ w'.cell? ⟨w.heap.size + 1 + 1, 1, none⟩ = some (.int .u64 m) ∧ w'.cell? ⟨w4.heap.size, 0, none⟩ = some (.int .u64 u) ∧ w'.cell? ⟨w4.heap.size, 1, none⟩ = some (.int .u64 v) ∧ w'.cell? ⟨w5.heap.size, 0, none⟩ = some (.int .u64 u) ∧ w'.cell? ⟨w5.heap.size, 1, none⟩ = some (.int .u64 v) ∧ Below (w5.alloc (.cells #[.int .u64 u, .int .u64 v] 43)).heap.size (w5.alloc (.cells #[.int .u64 u, .int .u64 v] 43)) w')) (by kernel_rfl) ?_ (fun hHeld => ?_)
      · exact ⟨by go_simp, by go_simp, by go_simp, by go_simp, by go_simp, by go_simp, by go_simp, by go_simp, bel_drew BH0⟩
      refine wpAnyH_take (i := 0) (oi := ?o0) (v := ?v0) ?hi0 ?hs0 ?hf0 ?hr0 ?hQ0 ?hy0 ?hS0 ?rest0
      case hi0 =>
        conv => lhs; whnf; arg 1; whnf
      case hs0 => kernel_rfl
      case hf0 => kernel_rfl
      case hr0 => kernel_rfl
      case hQ0 => exact fun _ _ _ h => h
      case hS0 => assumption
      case hy0 =>
        refine Or.inl ⟨by rfl, ?_⟩
        first | (intro w hSw; (try dsimp only at hSw); go_simp; done) | (intro w hSw; (try dsimp only at hSw); go_simp; with_reducible rfl)
      (try simp only [Act.put, List.setIfInBounds_toArray, List.set_cons_zero, List.set_cons_succ])
      refine wpAnyH_take (i := 1) (oi := ?o1) (v := ?v1) ?hi1 ?hs1 ?hf1 ?hr1 ?hQ1 ?hy1 ?hS1 ?rest1
      case hi1 =>
        conv => lhs; whnf; arg 1; whnf
      case hs1 => kernel_rfl
      case hf1 => kernel_rfl
      case hr1 => kernel_rfl
      case hQ1 => exact fun _ _ _ h => h
      case hS1 => assumption
      case hy1 =>
        refine Or.inl ⟨by rfl, ?_⟩
        first | (intro w hSw; (try dsimp only at hSw); go_simp; done) | (intro w hSw; (try dsimp only at hSw); go_simp; with_reducible rfl)
      (try simp only [Act.put, List.setIfInBounds_toArray, List.set_cons_zero, List.set_cons_succ])
      refine wpAnyH_take (i := 2) (oi := ?o2) (v := ?v2) ?hi2 ?hs2 ?hf2 ?hr2 ?hQ2 ?hy2 ?hS2 ?rest2
      case hi2 =>
        conv => lhs; whnf; arg 1; whnf
      case hs2 => kernel_rfl
      case hf2 => kernel_rfl
      case hr2 => kernel_rfl
      case hQ2 => exact fun _ _ _ h => h
      case hS2 => assumption
      case hy2 =>
        refine Or.inl ⟨by rfl, ?_⟩
        first | (intro w hSw; (try dsimp only at hSw); go_simp; done) | (intro w hSw; (try dsimp only at hSw); go_simp; with_reducible rfl)
      (try simp only [Act.put, List.setIfInBounds_toArray, List.set_cons_zero, List.set_cons_succ])
      refine wpAnyH_take (i := 3) (oi := ?o3) (v := ?v3) ?hi3 ?hs3 ?hf3 ?hr3 ?hQ3 ?hy3 ?hS3 ?rest3
      case hi3 =>
        conv => lhs; whnf; arg 1; whnf
      case hs3 => kernel_rfl
      case hf3 => kernel_rfl
      case hr3 => kernel_rfl
      case hQ3 => exact fun _ _ _ h => h
      case hS3 => assumption
      case hy3 =>
        refine Or.inl ⟨by rfl, ?_⟩
        first | (intro w hSw; (try dsimp only at hSw); go_simp; done) | (intro w hSw; (try dsimp only at hSw); go_simp; with_reducible rfl)
      (try simp only [Act.put, List.setIfInBounds_toArray, List.set_cons_zero, List.set_cons_succ])
      refine wpAnyH_take (i := 4) (oi := ?o4) (v := ?v4) ?hi4 ?hs4 ?hf4 ?hr4 ?hQ4 ?hy4 ?hS4 ?rest4
      case hi4 =>
        conv => lhs; whnf; arg 1; whnf
      case hs4 => kernel_rfl
      case hf4 => kernel_rfl
      case hr4 => kernel_rfl
      case hQ4 => exact fun _ _ _ h => h
      case hS4 => assumption
      case hy4 =>
        refine Or.inl ⟨by rfl, ?_⟩
        first | (intro w hSw; (try dsimp only at hSw); go_simp; done) | (intro w hSw; (try dsimp only at hSw); go_simp; with_reducible rfl)
      (try simp only [Act.put, List.setIfInBounds_toArray, List.set_cons_zero, List.set_cons_succ])
      refine wpAnyH_take (i := 5) (oi := ?o5) (v := ?v5) ?hi5 ?hs5 ?hf5 ?hr5 ?hQ5 ?hy5 ?hS5 ?rest5
      case hi5 =>
        conv => lhs; whnf; arg 1; whnf
      case hs5 => kernel_rfl
      case hf5 => kernel_rfl
      case hr5 => kernel_rfl
      case hQ5 => exact fun _ _ _ h => h
      case hS5 => assumption
      case hy5 =>
        refine Or.inl ⟨by rfl, ?_⟩
        first | (intro w hSw; (try dsimp only at hSw); go_simp; done) | (intro w hSw; (try dsimp only at hSw); go_simp; with_reducible rfl)
      (try simp only [Act.put, List.setIfInBounds_toArray, List.set_cons_zero, List.set_cons_succ])
      refine wpAnyH_take (i := 6) (oi := ?o6) (v := ?v6) ?hi6 ?hs6 ?hf6 ?hr6 ?hQ6 ?hy6 ?hS6 ?rest6
      case hi6 =>
        conv => lhs; whnf; arg 1; whnf
      case hs6 => kernel_rfl
      case hf6 => kernel_rfl
      case hr6 => kernel_rfl
      case hQ6 => exact fun _ _ _ h => h
      case hS6 => assumption
      case hy6 =>
        refine Or.inl ⟨by rfl, ?_⟩
        first | (intro w hSw; (try dsimp only at hSw); go_simp; done) | (intro w hSw; (try dsimp only at hSw); go_simp; with_reducible rfl)
      (try simp only [Act.put, List.setIfInBounds_toArray, List.set_cons_zero, List.set_cons_succ])
      refine wpAnyH_take (i := 7) (oi := ?o7) (v := ?v7) ?hi7 ?hs7 ?hf7 ?hr7 ?hQ7 ?hy7 ?hS7 ?rest7
      case hi7 =>
        conv => lhs; whnf; arg 1; whnf
      case hs7 => kernel_rfl
      case hf7 => kernel_rfl
      case hr7 => kernel_rfl
      case hQ7 => exact fun _ _ _ h => h
      case hS7 => assumption
      case hy7 =>
        refine Or.inl ⟨by rfl, ?_⟩
        first | (intro w hSw; (try dsimp only at hSw); go_simp; done) | (intro w hSw; (try dsimp only at hSw); go_simp; with_reducible rfl)
      (try simp only [Act.put, List.setIfInBounds_toArray, List.set_cons_zero, List.set_cons_succ])
      refine wpAnyH_take (i := 8) (oi := ?o8) (v := ?v8) ?hi8 ?hs8 ?hf8 ?hr8 ?hQ8 ?hy8 ?hS8 ?rest8
      case hi8 =>
        conv => lhs; whnf; arg 1; whnf
      case hs8 => kernel_rfl
      case hf8 => kernel_rfl
      case hr8 => kernel_rfl
      case hQ8 => exact fun _ _ _ h => h
      case hS8 => assumption
      case hy8 =>
        refine Or.inl ⟨by rfl, ?_⟩
        first | (intro w hSw; (try dsimp only at hSw); go_simp; done) | (intro w hSw; (try dsimp only at hSw); go_simp; with_reducible rfl)
      (try simp only [Act.put, List.setIfInBounds_toArray, List.set_cons_zero, List.set_cons_succ])
      refine wpAnyH_take (i := 9) (oi := ?o9) (v := ?v9) ?hi9 ?hs9 ?hf9 ?hr9 ?hQ9 ?hy9 ?hS9 ?rest9
      case hi9 =>
        conv => lhs; whnf; arg 1; whnf
      case hs9 => kernel_rfl
      case hf9 => kernel_rfl
      case hr9 => kernel_rfl
      case hQ9 => exact fun _ _ _ h => h
      case hS9 => assumption
      case hy9 =>
        refine Or.inl ⟨by rfl, ?_⟩
        first | (intro w hSw; (try dsimp only at hSw); go_simp; done) | (intro w hSw; (try dsimp only at hSw); go_simp; with_reducible rfl)
      (try simp only [Act.put, List.setIfInBounds_toArray, List.set_cons_zero, List.set_cons_succ])
      refine wpAnyH_take (i := 10) (oi := ?o10) (v := ?v10) ?hi10 ?hs10 ?hf10 ?hr10 ?hQ10 ?hy10 ?hS10 ?rest10
      case hi10 =>
        conv => lhs; whnf; arg 1; whnf
      case hs10 => kernel_rfl
      case hf10 => kernel_rfl
      case hr10 => kernel_rfl
      case hQ10 => exact fun _ _ _ h => h
      case hS10 => assumption
      case hy10 =>
        refine Or.inl ⟨by rfl, ?_⟩
        first | (intro w hSw; (try dsimp only at hSw); go_simp; done) | (intro w hSw; (try dsimp only at hSw); go_simp; with_reducible rfl)
      (try simp only [Act.put, List.setIfInBounds_toArray, List.set_cons_zero, List.set_cons_succ])
      have hH := hHeld
      obtain ⟨xa0, xa1, xb0, xb1, xc0, xc1, xd0, xd1, XB⟩ := hH
      refine wpAnyH_ready (rs := [11]) (by kernel_rfl) (by simp) ?_
      refine AllReadyH.cons (o := ?o11) ?hi11 (fun K hK => ?rest11) AllReadyH.nil
      case hi11 =>
        conv => lhs; whnf; arg 1; whnf
      go_simp
      refine (P1.out _).mono ?_
      rintro e w9 ⟨rfl, b9⟩
      go_wp2_with fail
      refine hK.out _ _ ?_ (fun hHeld => ?_)
      · exact ⟨(b9.cell (p := ⟨w.heap.size + 1, 0, none⟩) (Nat.lt_of_lt_of_le (by first | (simp; done) | (simp; omega)) XB.size)).trans xa0, (b9.cell (p := ⟨w.heap.size + 1, 1, none⟩) (Nat.lt_of_lt_of_le (by first | (simp; done) | (simp; omega)) XB.size)).trans xa1, (b9.cell (p := ⟨w.heap.size + 1 + 1, 0, none⟩) (Nat.lt_of_lt_of_le (by first | (simp; done) | (simp; omega)) XB.size)).trans xb0, (b9.cell (p := ⟨w.heap.size + 1 + 1, 1, none⟩) (Nat.lt_of_lt_of_le (by first | (simp; done) | (simp; omega)) XB.size)).trans xb1, (b9.cell (p := ⟨w4.heap.size, 0, none⟩) (Nat.lt_of_lt_of_le (by first | (simp; done) | (simp; omega)) XB.size)).trans xc0, (b9.cell (p := ⟨w4.heap.size, 1, none⟩) (Nat.lt_of_lt_of_le (by first | (simp; done) | (simp; omega)) XB.size)).trans xc1, (b9.cell (p := ⟨w5.heap.size, 0, none⟩) (Nat.lt_of_lt_of_le (by first | (simp; done) | (simp; omega)) XB.size)).trans xd0, (b9.cell (p := ⟨w5.heap.size, 1, none⟩) (Nat.lt_of_lt_of_le (by first | (simp; done) | (simp; omega)) XB.size)).trans xd1, bel_end XB b9⟩
      clear hK K xa0 xa1 xb0 xb1 xc0 xc1 xd0 xd1 XB b9
      (try simp only [Act.put, List.setIfInBounds_toArray, List.set_cons_zero, List.set_cons_succ])
      refine wpAnyH_take (i := 12) (oi := ?o12) (v := ?v12) ?hi12 ?hs12 ?hf12 ?hr12 ?hQ12 ?hy12 ?hS12 ?rest12
      case hi12 =>
        conv => lhs; whnf; arg 1; whnf
      case hs12 => kernel_rfl
      case hf12 => kernel_rfl
      case hr12 => kernel_rfl
      case hQ12 => exact fun _ _ _ h => h
      case hS12 => assumption
      case hy12 =>
        refine Or.inl ⟨by rfl, ?_⟩
        first | (intro w hSw; (try dsimp only at hSw); go_simp; done) | (intro w hSw; (try dsimp only at hSw); go_simp; with_reducible rfl)
      (try simp only [Act.put, List.setIfInBounds_toArray, List.set_cons_zero, List.set_cons_succ])
      refine wpAnyH_take (i := 13) (oi := ?o13) (v := ?v13) ?hi13 ?hs13 ?hf13 ?hr13 ?hQ13 ?hy13 ?hS13 ?rest13
      case hi13 =>
        conv => lhs; whnf; arg 1; whnf
      case hs13 => kernel_rfl
      case hf13 => kernel_rfl
      case hr13 => kernel_rfl
      case hQ13 => exact fun _ _ _ h => h
      case hS13 => assumption
      case hy13 =>
        refine Or.inl ⟨by rfl, ?_⟩
        first | (intro w hSw; (try dsimp only at hSw); go_simp; done) | (intro w hSw; (try dsimp only at hSw); go_simp; with_reducible rfl)
      (try simp only [Act.put, List.setIfInBounds_toArray, List.set_cons_zero, List.set_cons_succ])
      refine wpAnyH_take (i := 14) (oi := ?o14) (v := ?v14) ?hi14 ?hs14 ?hf14 ?hr14 ?hQ14 ?hy14 ?hS14 ?rest14
      case hi14 =>
        conv => lhs; whnf; arg 1; whnf
      case hs14 => kernel_rfl
      case hf14 => kernel_rfl
      case hr14 => kernel_rfl
      case hQ14 => exact fun _ _ _ h => h
      case hS14 => assumption
      case hy14 =>
        refine Or.inl ⟨by rfl, ?_⟩
        first | (intro w hSw; (try dsimp only at hSw); go_simp; done) | (intro w hSw; (try dsimp only at hSw); go_simp; with_reducible rfl)
      (try simp only [Act.put, List.setIfInBounds_toArray, List.set_cons_zero, List.set_cons_succ])
      have hH := hHeld
      obtain ⟨xa0, xa1, xb0, xb1, xc0, xc1, xd0, xd1, XB⟩ := hH
      refine wpAnyH_ready (rs := [15]) (by kernel_rfl) (by simp) ?_
      refine AllReadyH.cons (o := ?o15) ?hi15 (fun K hK => ?rest15) AllReadyH.nil
      case hi15 =>
        conv => lhs; whnf; arg 1; whnf
      go_simp
      refine (P2.out _).mono ?_
      rintro e w9 ⟨rfl, b9⟩
      go_wp2_with fail
      refine hK.out _ _ ?_ (fun hHeld => ?_)
      · exact ⟨(b9.cell (p := ⟨w.heap.size + 1, 0, none⟩) (Nat.lt_of_lt_of_le (by first | (simp; done) | (simp; omega)) XB.size)).trans xa0, (b9.cell (p := ⟨w.heap.size + 1, 1, none⟩) (Nat.lt_of_lt_of_le (by first | (simp; done) | (simp; omega)) XB.size)).trans xa1, (b9.cell (p := ⟨w.heap.size + 1 + 1, 0, none⟩) (Nat.lt_of_lt_of_le (by first | (simp; done) | (simp; omega)) XB.size)).trans xb0, (b9.cell (p := ⟨w.heap.size + 1 + 1, 1, none⟩) (Nat.lt_of_lt_of_le (by first | (simp; done) | (simp; omega)) XB.size)).trans xb1, (b9.cell (p := ⟨w4.heap.size, 0, none⟩) (Nat.lt_of_lt_of_le (by first | (simp; done) | (simp; omega)) XB.size)).trans xc0, (b9.cell (p := ⟨w4.heap.size, 1, none⟩) (Nat.lt_of_lt_of_le (by first | (simp; done) | (simp; omega)) XB.size)).trans xc1, (b9.cell (p := ⟨w5.heap.size, 0, none⟩) (Nat.lt_of_lt_of_le (by first | (simp; done) | (simp; omega)) XB.size)).trans xd0, (b9.cell (p := ⟨w5.heap.size, 1, none⟩) (Nat.lt_of_lt_of_le (by first | (simp; done) | (simp; omega)) XB.size)).trans xd1, bel_end XB b9⟩
      clear hK K xa0 xa1 xb0 xb1 xc0 xc1 xd0 xd1 XB b9
      (try simp only [Act.put, List.setIfInBounds_toArray, List.set_cons_zero, List.set_cons_succ])
      refine wpAnyH_take (i := 16) (oi := ?o16) (v := ?v16) ?hi16 ?hs16 ?hf16 ?hr16 ?hQ16 ?hy16 ?hS16 ?rest16
      case hi16 =>
        conv => lhs; whnf; arg 1; whnf
      case hs16 => kernel_rfl
      case hf16 => kernel_rfl
      case hr16 => kernel_rfl
      case hQ16 => exact fun _ _ _ h => h
      case hS16 => assumption
      case hy16 =>
        refine Or.inl ⟨by rfl, ?_⟩
        first | (intro w hSw; (try dsimp only at hSw); go_simp; done) | (intro w hSw; (try dsimp only at hSw); go_simp; with_reducible rfl)
      (try simp only [Act.put, List.setIfInBounds_toArray, List.set_cons_zero, List.set_cons_succ])
      refine wpAnyH_take (i := 17) (oi := ?o17) (v := ?v17) ?hi17 ?hs17 ?hf17 ?hr17 ?hQ17 ?hy17 ?hS17 ?rest17
      case hi17 =>
        conv => lhs; whnf; arg 1; whnf
      case hs17 => kernel_rfl
      case hf17 => kernel_rfl
      case hr17 => kernel_rfl
      case hQ17 => exact fun _ _ _ h => h
      case hS17 => assumption
      case hy17 =>
        refine Or.inl ⟨by rfl, ?_⟩
        first | (intro w hSw; (try dsimp only at hSw); go_simp; done) | (intro w hSw; (try dsimp only at hSw); go_simp; with_reducible rfl)
      (try simp only [Act.put, List.setIfInBounds_toArray, List.set_cons_zero, List.set_cons_succ])
      refine wpAnyH_take (i := 18) (oi := ?o18) (v := ?v18) ?hi18 ?hs18 ?hf18 ?hr18 ?hQ18 ?hy18 ?hS18 ?rest18
      case hi18 =>
        conv => lhs; whnf; arg 1; whnf
      case hs18 => kernel_rfl
      case hf18 => kernel_rfl
      case hr18 => kernel_rfl
      case hQ18 => exact fun _ _ _ h => h
      case hS18 => assumption
      case hy18 =>
        refine Or.inl ⟨by rfl, ?_⟩
        first | (intro w hSw; (try dsimp only at hSw); go_simp; done) | (intro w hSw; (try dsimp only at hSw); go_simp; with_reducible rfl)
      (try simp only [Act.put, List.setIfInBounds_toArray, List.set_cons_zero, List.set_cons_succ])
      refine wpAnyH_take (i := 19) (oi := ?o19) (v := ?v19) ?hi19 ?hs19 ?hf19 ?hr19 ?hQ19 ?hy19 ?hS19 ?rest19
      case hi19 =>
        conv => lhs; whnf; arg 1; whnf
      case hs19 => kernel_rfl
      case hf19 => kernel_rfl
      case hr19 => kernel_rfl
      case hQ19 => exact fun _ _ _ h => h
      case hS19 => assumption
      case hy19 =>
        refine Or.inl ⟨by rfl, ?_⟩
        first | (intro w hSw; (try dsimp only at hSw); go_simp; done) | (intro w hSw; (try dsimp only at hSw); go_simp; with_reducible rfl)
      (try simp only [Act.put, List.setIfInBounds_toArray, List.set_cons_zero, List.set_cons_succ])
      refine wpAnyH_take (i := 20) (oi := ?o20) (v := ?v20) ?hi20 ?hs20 ?hf20 ?hr20 ?hQ20 ?hy20 ?hS20 ?rest20
      case hi20 =>
        conv => lhs; whnf; arg 1; whnf
      case hs20 => kernel_rfl
      case hf20 => kernel_rfl
      case hr20 => kernel_rfl
      case hQ20 => exact fun _ _ _ h => h
      case hS20 => assumption
      case hy20 =>
        refine Or.inl ⟨by rfl, ?_⟩
        first | (intro w hSw; (try dsimp only at hSw); go_simp; done) | (intro w hSw; (try dsimp only at hSw); go_simp; with_reducible rfl)
      (try simp only [Act.put, List.setIfInBounds_toArray, List.set_cons_zero, List.set_cons_succ])
      refine wpAnyH_take (i := 21) (oi := ?o21) (v := ?v21) ?hi21 ?hs21 ?hf21 ?hr21 ?hQ21 ?hy21 ?hS21 ?rest21
      case hi21 =>
        conv => lhs; whnf; arg 1; whnf
      case hs21 => kernel_rfl
      case hf21 => kernel_rfl
      case hr21 => kernel_rfl
      case hQ21 => exact fun _ _ _ h => h
      case hS21 => assumption
      case hy21 =>
        refine Or.inl ⟨by rfl, ?_⟩
        first | (intro w hSw; (try dsimp only at hSw); go_simp; done) | (intro w hSw; (try dsimp only at hSw); go_simp; with_reducible rfl)
      (try simp only [Act.put, List.setIfInBounds_toArray, List.set_cons_zero, List.set_cons_succ])
      refine wpAnyH_take (i := 22) (oi := ?o22) (v := ?v22) ?hi22 ?hs22 ?hf22 ?hr22 ?hQ22 ?hy22 ?hS22 ?rest22
      case hi22 =>
        conv => lhs; whnf; arg 1; whnf
      case hs22 => kernel_rfl
      case hf22 => kernel_rfl
      case hr22 => kernel_rfl
      case hQ22 => exact fun _ _ _ h => h
      case hS22 => assumption
      case hy22 =>
        refine Or.inl ⟨by rfl, ?_⟩
        first | (intro w hSw; (try dsimp only at hSw); go_simp; done) | (intro w hSw; (try dsimp only at hSw); go_simp; with_reducible rfl)
      (try simp only [Act.put, List.setIfInBounds_toArray, List.set_cons_zero, List.set_cons_succ])
      refine wpAnyH_take (i := 23) (oi := ?o23) (v := ?v23) ?hi23 ?hs23 ?hf23 ?hr23 ?hQ23 ?hy23 ?hS23 ?rest23
      case hi23 =>
        conv => lhs; whnf; arg 1; whnf
      case hs23 => kernel_rfl
      case hf23 => kernel_rfl
      case hr23 => kernel_rfl
      case hQ23 => exact fun _ _ _ h => h
      case hS23 => assumption
      case hy23 =>
        refine Or.inl ⟨by rfl, ?_⟩
        first | (intro w hSw; (try dsimp only at hSw); go_simp; done) | (intro w hSw; (try dsimp only at hSw); go_simp; with_reducible rfl)
      (try simp only [Act.put, List.setIfInBounds_toArray, List.set_cons_zero, List.set_cons_succ])
      have hH := hHeld
      obtain ⟨xa0, xa1, xb0, xb1, xc0, xc1, xd0, xd1, XB⟩ := hH
      refine wpAnyH_ready (rs := [24]) (by kernel_rfl) (by simp) ?_
      refine AllReadyH.cons (o := ?o24) ?hi24 (fun K hK => ?rest24) AllReadyH.nil
      case hi24 =>
        conv => lhs; whnf; arg 1; whnf
      go_simp
      refine (P1.out _).mono ?_
      rintro e w9 ⟨rfl, b9⟩
      go_wp2_with fail
      refine hK.out _ _ ?_ (fun hHeld => ?_)
      · exact ⟨(b9.cell (p := ⟨w.heap.size + 1, 0, none⟩) (Nat.lt_of_lt_of_le (by first | (simp; done) | (simp; omega)) XB.size)).trans xa0, (b9.cell (p := ⟨w.heap.size + 1, 1, none⟩) (Nat.lt_of_lt_of_le (by first | (simp; done) | (simp; omega)) XB.size)).trans xa1, (b9.cell (p := ⟨w.heap.size + 1 + 1, 0, none⟩) (Nat.lt_of_lt_of_le (by first | (simp; done) | (simp; omega)) XB.size)).trans xb0, (b9.cell (p := ⟨w.heap.size + 1 + 1, 1, none⟩) (Nat.lt_of_lt_of_le (by first | (simp; done) | (simp; omega)) XB.size)).trans xb1, (b9.cell (p := ⟨w4.heap.size, 0, none⟩) (Nat.lt_of_lt_of_le (by first | (simp; done) | (simp; omega)) XB.size)).trans xc0, (b9.cell (p := ⟨w4.heap.size, 1, none⟩) (Nat.lt_of_lt_of_le (by first | (simp; done) | (simp; omega)) XB.size)).trans xc1, (b9.cell (p := ⟨w5.heap.size, 0, none⟩) (Nat.lt_of_lt_of_le (by first | (simp; done) | (simp; omega)) XB.size)).trans xd0, (b9.cell (p := ⟨w5.heap.size, 1, none⟩) (Nat.lt_of_lt_of_le (by first | (simp; done) | (simp; omega)) XB.size)).trans xd1, bel_end XB b9⟩
      clear hK K xa0 xa1 xb0 xb1 xc0 xc1 xd0 xd1 XB b9
      (try simp only [Act.put, List.setIfInBounds_toArray, List.set_cons_zero, List.set_cons_succ])
      refine wpAnyH_take (i := 25) (oi := ?o25) (v := ?v25) ?hi25 ?hs25 ?hf25 ?hr25 ?hQ25 ?hy25 ?hS25 ?rest25
      case hi25 =>
        conv => lhs; whnf; arg 1; whnf
      case hs25 => kernel_rfl
      case hf25 => kernel_rfl
      case hr25 => kernel_rfl
      case hQ25 => exact fun _ _ _ h => h
      case hS25 => assumption
      case hy25 =>
        refine Or.inl ⟨by rfl, ?_⟩
        first | (intro w hSw; (try dsimp only at hSw); go_simp; done) | (intro w hSw; (try dsimp only at hSw); go_simp; with_reducible rfl)
      (try simp only [Act.put, List.setIfInBounds_toArray, List.set_cons_zero, List.set_cons_succ])
      refine wpAnyH_take (i := 26) (oi := ?o26) (v := ?v26) ?hi26 ?hs26 ?hf26 ?hr26 ?hQ26 ?hy26 ?hS26 ?rest26
      case hi26 =>
        conv => lhs; whnf; arg 1; whnf
      case hs26 => kernel_rfl
      case hf26 => kernel_rfl
      case hr26 => kernel_rfl
      case hQ26 => exact fun _ _ _ h => h
      case hS26 => assumption
      case hy26 =>
        refine Or.inl ⟨by rfl, ?_⟩
        first | (intro w hSw; (try dsimp only at hSw); go_simp; done) | (intro w hSw; (try dsimp only at hSw); go_simp; with_reducible rfl)
      (try simp only [Act.put, List.setIfInBounds_toArray, List.set_cons_zero, List.set_cons_succ])
      refine wpAnyH_take (i := 27) (oi := ?o27) (v := undef) ?hi27 ?hs27 ?hf27 ?hr27 ?hQ27 ?hy27 ?hS27 ?rest27
      case hi27 =>
        conv => lhs; whnf; arg 1; whnf
      case hs27 => kernel_rfl
      case hf27 => kernel_rfl
      case hr27 => kernel_rfl
      case hQ27 => exact fun _ _ _ h => h
      case hS27 => assumption
      case hy27 =>
        exact Or.inr ⟨by rfl, rfl⟩
      (try simp only [Act.put, List.setIfInBounds_toArray, List.set_cons_zero, List.set_cons_succ])
      refine wpAnyH_take (i := 28) (oi := ?o28) (v := undef) ?hi28 ?hs28 ?hf28 ?hr28 ?hQ28 ?hy28 ?hS28 ?rest28
      case hi28 =>
        conv => lhs; whnf; arg 1; whnf
      case hs28 => kernel_rfl
      case hf28 => kernel_rfl
      case hr28 => kernel_rfl
      case hQ28 => exact fun _ _ _ h => h
      case hS28 => assumption
      case hy28 =>
        exact Or.inr ⟨by rfl, rfl⟩
      (try simp only [Act.put, List.setIfInBounds_toArray, List.set_cons_zero, List.set_cons_succ])
      refine wpAnyH_take (i := 29) (oi := ?o29) (v := undef) ?hi29 ?hs29 ?hf29 ?hr29 ?hQ29 ?hy29 ?hS29 ?rest29
      case hi29 =>
        conv => lhs; whnf; arg 1; whnf
      case hs29 => kernel_rfl
      case hf29 => kernel_rfl
      case hr29 => kernel_rfl
      case hQ29 => exact fun _ _ _ h => h
      case hS29 => assumption
      case hy29 =>
        exact Or.inr ⟨by rfl, rfl⟩
      (try simp only [Act.put, List.setIfInBounds_toArray, List.set_cons_zero, List.set_cons_succ])
      refine wpAnyH_take (i := 30) (oi := ?o30) (v := undef) ?hi30 ?hs30 ?hf30 ?hr30 ?hQ30 ?hy30 ?hS30 ?rest30
      case hi30 =>
        conv => lhs; whnf; arg 1; whnf
      case hs30 => kernel_rfl
      case hf30 => kernel_rfl
      case hr30 => kernel_rfl
      case hQ30 => exact fun _ _ _ h => h
      case hS30 => assumption
      case hy30 =>
        exact Or.inr ⟨by rfl, rfl⟩
      (try simp only [Act.put, List.setIfInBounds_toArray, List.set_cons_zero, List.set_cons_succ])
      refine wpAnyH_take (i := 31) (oi := ?o31) (v := ?v31) ?hi31 ?hs31 ?hf31 ?hr31 ?hQ31 ?hy31 ?hS31 ?rest31
      case hi31 =>
        conv => lhs; whnf; arg 1; whnf
      case hs31 => kernel_rfl
      case hf31 => kernel_rfl
      case hr31 => kernel_rfl
      case hQ31 => exact fun _ _ _ h => h
      case hS31 => assumption
      case hy31 =>
        refine Or.inl ⟨by rfl, ?_⟩
        first | (intro w hSw; (try dsimp only at hSw); go_simp; done) | (intro w hSw; (try dsimp only at hSw); go_simp; with_reducible rfl)
      (try simp only [Act.put, List.setIfInBounds_toArray, List.set_cons_zero, List.set_cons_succ])
      refine wpAnyH_take (i := 32) (oi := ?o32) (v := ?v32) ?hi32 ?hs32 ?hf32 ?hr32 ?hQ32 ?hy32 ?hS32 ?rest32
      case hi32 =>
        conv => lhs; whnf; arg 1; whnf
      case hs32 => kernel_rfl
      case hf32 => kernel_rfl
      case hr32 => kernel_rfl
      case hQ32 => exact fun _ _ _ h => h
      case hS32 => assumption
      case hy32 =>
        refine Or.inl ⟨by rfl, ?_⟩
        first | (intro w hSw; (try dsimp only at hSw); go_simp; done) | (intro w hSw; (try dsimp only at hSw); go_simp; with_reducible rfl)
      (try simp only [Act.put, List.setIfInBounds_toArray, List.set_cons_zero, List.set_cons_succ])
      refine wpAnyH_take (i := 33) (oi := ?o33) (v := ?v33) ?hi33 ?hs33 ?hf33 ?hr33 ?hQ33 ?hy33 ?hS33 ?rest33
      case hi33 =>
        conv => lhs; whnf; arg 1; whnf
      case hs33 => kernel_rfl
      case hf33 => kernel_rfl
      case hr33 => kernel_rfl
      case hQ33 => exact fun _ _ _ h => h
      case hS33 => assumption
      case hy33 =>
        refine Or.inl ⟨by rfl, ?_⟩
        first | (intro w hSw; (try dsimp only at hSw); go_simp; done) | (intro w hSw; (try dsimp only at hSw); go_simp; with_reducible rfl)
      (try simp only [Act.put, List.setIfInBounds_toArray, List.set_cons_zero, List.set_cons_succ])
      refine wpAnyH_done (by kernel_rfl) ?_ _
      obtain ⟨xa0, xa1, xb0, xb1, xc0, xc1, xd0, xd1, XB⟩ := hHeld
      go_wp2_with fail
      go_meet
      exact ⟨by first | rfl | simp_all, XB⟩
    · rcases Nat.lt_trichotomy l m with hq | hq | hq
      · have f1 : decide (h * 18446744073709551616 + l < k * 18446744073709551616 + m) = true := decide_eq_true (by omega)
        have f2 : decide (k * 18446744073709551616 + m < h * 18446744073709551616 + l) = false := decide_eq_false (by omega)
        have g1 : ((h : Int) == (k : Int)) = true := by simp; omega
        have g2 : (h == k) = true := by simp; omega
        have g3 : decide (h = k) = true := decide_eq_true (by omega)
        have k1 : ((l : Int) == (m : Int)) = false := by simp; omega
        have k2 : (l == m) = false := by simp; omega
        have k3 : decide (l = m) = false := decide_eq_false (by omega)
        rw [f1] at P1
        rw [f2] at P2
        clear f1 f2 HK hl hm hk hq
        refine wp_region_held_drew (S := (fun w' => w'.cell? ⟨w.heap.size + 1, 0, none⟩ = some (.int .u64 h) ∧ w'.cell? ⟨w.heap.size + 1, 1, none⟩ = some (.int .u64 l) ∧ w'.cell? ⟨w.heap.size + 1 + 1, 0, none⟩ = some (.int .u64 k) ∧ w'.cell? ⟨w.heap.size + 1 + 1, 1, none⟩ = some (.int .u64 m) ∧ w'.cell? ⟨w4.heap.size, 0, none⟩ = some (.int .u64 u) ∧ w'.cell? ⟨w4.heap.size, 1, none⟩ = some (.int .u64 v) ∧ w'.cell? ⟨w5.heap.size, 0, none⟩ = some (.int .u64 u) ∧ w'.cell? ⟨w5.heap.size, 1, none⟩ = some (.int .u64 v) ∧ Below (w5.alloc (.cells #[.int .u64 u, .int .u64 v] 43)).heap.size (w5.alloc (.cells #[.int .u64 u, .int .u64 v] 43)) w')) (by kernel_rfl) ?_ (fun hHeld => ?_)
        · exact ⟨by go_simp, by go_simp, by go_simp, by go_simp, by go_simp, by go_simp, by go_simp, by go_simp, bel_drew BH0⟩
        refine wpAnyH_take (i := 0) (oi := ?o34) (v := ?v34) ?hi34 ?hs34 ?hf34 ?hr34 ?hQ34 ?hy34 ?hS34 ?rest34
        case hi34 =>
          conv => lhs; whnf; arg 1; whnf
        case hs34 => kernel_rfl
        case hf34 => kernel_rfl
        case hr34 => kernel_rfl
        case hQ34 => exact fun _ _ _ h => h
        case hS34 => assumption
        case hy34 =>
          refine Or.inl ⟨by rfl, ?_⟩
          first | (intro w hSw; (try dsimp only at hSw); go_simp; done) | (intro w hSw; (try dsimp only at hSw); go_simp; with_reducible rfl)
        (try simp only [Act.put, List.setIfInBounds_toArray, List.set_cons_zero, List.set_cons_succ])
        refine wpAnyH_take (i := 1) (oi := ?o35) (v := ?v35) ?hi35 ?hs35 ?hf35 ?hr35 ?hQ35 ?hy35 ?hS35 ?rest35
        case hi35 =>
          conv => lhs; whnf; arg 1; whnf
        case hs35 => kernel_rfl
        case hf35 => kernel_rfl
        case hr35 => kernel_rfl
        case hQ35 => exact fun _ _ _ h => h
        case hS35 => assumption
        case hy35 =>
          refine Or.inl ⟨by rfl, ?_⟩
          first | (intro w hSw; (try dsimp only at hSw); go_simp; done) | (intro w hSw; (try dsimp only at hSw); go_simp; with_reducible rfl)
        (try simp only [Act.put, List.setIfInBounds_toArray, List.set_cons_zero, List.set_cons_succ])
        refine wpAnyH_take (i := 2) (oi := ?o36) (v := ?v36) ?hi36 ?hs36 ?hf36 ?hr36 ?hQ36 ?hy36 ?hS36 ?rest36
        case hi36 =>
          conv => lhs; whnf; arg 1; whnf
        case hs36 => kernel_rfl
        case hf36 => kernel_rfl
        case hr36 => kernel_rfl
        case hQ36 => exact fun _ _ _ h => h
        case hS36 => assumption
        case hy36 =>
          refine Or.inl ⟨by rfl, ?_⟩
          first | (intro w hSw; (try dsimp only at hSw); go_simp; done) | (intro w hSw; (try dsimp only at hSw); go_simp; with_reducible rfl)
        (try simp only [Act.put, List.setIfInBounds_toArray, List.set_cons_zero, List.set_cons_succ])
        refine wpAnyH_take (i := 3) (oi := ?o37) (v := ?v37) ?hi37 ?hs37 ?hf37 ?hr37 ?hQ37 ?hy37 ?hS37 ?rest37
        case hi37 =>
          conv => lhs; whnf; arg 1; whnf
        case hs37 => kernel_rfl
        case hf37 => kernel_rfl
        case hr37 => kernel_rfl
        case hQ37 => exact fun _ _ _ h => h
        case hS37 => assumption
        case hy37 =>
          refine Or.inl ⟨by rfl, ?_⟩
          first | (intro w hSw; (try dsimp only at hSw); go_simp; done) | (intro w hSw; (try dsimp only at hSw); go_simp; with_reducible rfl)
        (try simp only [Act.put, List.setIfInBounds_toArray, List.set_cons_zero, List.set_cons_succ])
        refine wpAnyH_take (i := 4) (oi := ?o38) (v := ?v38) ?hi38 ?hs38 ?hf38 ?hr38 ?hQ38 ?hy38 ?hS38 ?rest38
        case hi38 =>
          conv => lhs; whnf; arg 1; whnf
        case hs38 => kernel_rfl
        case hf38 => kernel_rfl
        case hr38 => kernel_rfl
        case hQ38 => exact fun _ _ _ h => h
        case hS38 => assumption
        case hy38 =>
          refine Or.inl ⟨by rfl, ?_⟩
          first | (intro w hSw; (try dsimp only at hSw); go_simp; done) | (intro w hSw; (try dsimp only at hSw); go_simp; with_reducible rfl)
        (try simp only [Act.put, List.setIfInBounds_toArray, List.set_cons_zero, List.set_cons_succ])
        refine wpAnyH_take (i := 5) (oi := ?o39) (v := ?v39) ?hi39 ?hs39 ?hf39 ?hr39 ?hQ39 ?hy39 ?hS39 ?rest39
        case hi39 =>
          conv => lhs; whnf; arg 1; whnf
        case hs39 => kernel_rfl
        case hf39 => kernel_rfl
        case hr39 => kernel_rfl
        case hQ39 => exact fun _ _ _ h => h
        case hS39 => assumption
        case hy39 =>
          refine Or.inl ⟨by rfl, ?_⟩
          first | (intro w hSw; (try dsimp only at hSw); go_simp; done) | (intro w hSw; (try dsimp only at hSw); go_simp; with_reducible rfl)
        (try simp only [Act.put, List.setIfInBounds_toArray, List.set_cons_zero, List.set_cons_succ])
        refine wpAnyH_take (i := 6) (oi := ?o40) (v := ?v40) ?hi40 ?hs40 ?hf40 ?hr40 ?hQ40 ?hy40 ?hS40 ?rest40
        case hi40 =>
          conv => lhs; whnf; arg 1; whnf
        case hs40 => kernel_rfl
        case hf40 => kernel_rfl
        case hr40 => kernel_rfl
        case hQ40 => exact fun _ _ _ h => h
        case hS40 => assumption
        case hy40 =>
          refine Or.inl ⟨by rfl, ?_⟩
          first | (intro w hSw; (try dsimp only at hSw); go_simp; done) | (intro w hSw; (try dsimp only at hSw); go_simp; with_reducible rfl)
        (try simp only [Act.put, List.setIfInBounds_toArray, List.set_cons_zero, List.set_cons_succ])
        refine wpAnyH_take (i := 7) (oi := ?o41) (v := ?v41) ?hi41 ?hs41 ?hf41 ?hr41 ?hQ41 ?hy41 ?hS41 ?rest41
        case hi41 =>
          conv => lhs; whnf; arg 1; whnf
        case hs41 => kernel_rfl
        case hf41 => kernel_rfl
        case hr41 => kernel_rfl
        case hQ41 => exact fun _ _ _ h => h
        case hS41 => assumption
        case hy41 =>
          refine Or.inl ⟨by rfl, ?_⟩
          first | (intro w hSw; (try dsimp only at hSw); go_simp; done) | (intro w hSw; (try dsimp only at hSw); go_simp; with_reducible rfl)
        (try simp only [Act.put, List.setIfInBounds_toArray, List.set_cons_zero, List.set_cons_succ])
        refine wpAnyH_take (i := 8) (oi := ?o42) (v := ?v42) ?hi42 ?hs42 ?hf42 ?hr42 ?hQ42 ?hy42 ?hS42 ?rest42
        case hi42 =>
          conv => lhs; whnf; arg 1; whnf
        case hs42 => kernel_rfl
        case hf42 => kernel_rfl
        case hr42 => kernel_rfl
        case hQ42 => exact fun _ _ _ h => h
        case hS42 => assumption
        case hy42 =>
          refine Or.inl ⟨by rfl, ?_⟩
          first | (intro w hSw; (try dsimp only at hSw); go_simp; done) | (intro w hSw; (try dsimp only at hSw); go_simp; with_reducible rfl)
        (try simp only [Act.put, List.setIfInBounds_toArray, List.set_cons_zero, List.set_cons_succ])
        refine wpAnyH_take (i := 9) (oi := ?o43) (v := ?v43) ?hi43 ?hs43 ?hf43 ?hr43 ?hQ43 ?hy43 ?hS43 ?rest43
        case hi43 =>
          conv => lhs; whnf; arg 1; whnf
        case hs43 => kernel_rfl
        case hf43 => kernel_rfl
        case hr43 => kernel_rfl
        case hQ43 => exact fun _ _ _ h => h
        case hS43 => assumption
        case hy43 =>
          refine Or.inl ⟨by rfl, ?_⟩
          first | (intro w hSw; (try dsimp only at hSw); go_simp; done) | (intro w hSw; (try dsimp only at hSw); go_simp; with_reducible rfl)
        (try simp only [Act.put, List.setIfInBounds_toArray, List.set_cons_zero, List.set_cons_succ])
        refine wpAnyH_take (i := 10) (oi := ?o44) (v := ?v44) ?hi44 ?hs44 ?hf44 ?hr44 ?hQ44 ?hy44 ?hS44 ?rest44
        case hi44 =>
          conv => lhs; whnf; arg 1; whnf
        case hs44 => kernel_rfl
        case hf44 => kernel_rfl
        case hr44 => kernel_rfl
        case hQ44 => exact fun _ _ _ h => h
        case hS44 => assumption
        case hy44 =>
          refine Or.inl ⟨by rfl, ?_⟩
          first | (intro w hSw; (try dsimp only at hSw); go_simp; done) | (intro w hSw; (try dsimp only at hSw); go_simp; with_reducible rfl)
        (try simp only [Act.put, List.setIfInBounds_toArray, List.set_cons_zero, List.set_cons_succ])
        have hH := hHeld
        obtain ⟨xa0, xa1, xb0, xb1, xc0, xc1, xd0, xd1, XB⟩ := hH
        refine wpAnyH_ready (rs := [11]) (by kernel_rfl) (by simp) ?_
        refine AllReadyH.cons (o := ?o45) ?hi45 (fun K hK => ?rest45) AllReadyH.nil
        case hi45 =>
          conv => lhs; whnf; arg 1; whnf
        go_simp
        refine (P1.out _).mono ?_
        rintro e w9 ⟨rfl, b9⟩
        go_wp2_with fail
        refine hK.out _ _ ?_ (fun hHeld => ?_)
        · exact ⟨(b9.cell (p := ⟨w.heap.size + 1, 0, none⟩) (Nat.lt_of_lt_of_le (by first | (simp; done) | (simp; omega)) XB.size)).trans xa0, (b9.cell (p := ⟨w.heap.size + 1, 1, none⟩) (Nat.lt_of_lt_of_le (by first | (simp; done) | (simp; omega)) XB.size)).trans xa1, (b9.cell (p := ⟨w.heap.size + 1 + 1, 0, none⟩) (Nat.lt_of_lt_of_le (by first | (simp; done) | (simp; omega)) XB.size)).trans xb0, (b9.cell (p := ⟨w.heap.size + 1 + 1, 1, none⟩) (Nat.lt_of_lt_of_le (by first | (simp; done) | (simp; omega)) XB.size)).trans xb1, (b9.cell (p := ⟨w4.heap.size, 0, none⟩) (Nat.lt_of_lt_of_le (by first | (simp; done) | (simp; omega)) XB.size)).trans xc0, (b9.cell (p := ⟨w4.heap.size, 1, none⟩) (Nat.lt_of_lt_of_le (by first | (simp; done) | (simp; omega)) XB.size)).trans xc1, (b9.cell (p := ⟨w5.heap.size, 0, none⟩) (Nat.lt_of_lt_of_le (by first | (simp; done) | (simp; omega)) XB.size)).trans xd0, (b9.cell (p := ⟨w5.heap.size, 1, none⟩) (Nat.lt_of_lt_of_le (by first | (simp; done) | (simp; omega)) XB.size)).trans xd1, bel_end XB b9⟩
        clear hK K xa0 xa1 xb0 xb1 xc0 xc1 xd0 xd1 XB b9
        (try simp only [Act.put, List.setIfInBounds_toArray, List.set_cons_zero, List.set_cons_succ])
        refine wpAnyH_take (i := 12) (oi := ?o46) (v := ?v46) ?hi46 ?hs46 ?hf46 ?hr46 ?hQ46 ?hy46 ?hS46 ?rest46
        case hi46 =>
          conv => lhs; whnf; arg 1; whnf
        case hs46 => kernel_rfl
        case hf46 => kernel_rfl
        case hr46 => kernel_rfl
        case hQ46 => exact fun _ _ _ h => h
        case hS46 => assumption
        case hy46 =>
          refine Or.inl ⟨by rfl, ?_⟩
          first | (intro w hSw; (try dsimp only at hSw); go_simp; done) | (intro w hSw; (try dsimp only at hSw); go_simp; with_reducible rfl)
        (try simp only [Act.put, List.setIfInBounds_toArray, List.set_cons_zero, List.set_cons_succ])
        refine wpAnyH_take (i := 13) (oi := ?o47) (v := ?v47) ?hi47 ?hs47 ?hf47 ?hr47 ?hQ47 ?hy47 ?hS47 ?rest47
        case hi47 =>
          conv => lhs; whnf; arg 1; whnf
        case hs47 => kernel_rfl
        case hf47 => kernel_rfl
        case hr47 => kernel_rfl
        case hQ47 => exact fun _ _ _ h => h
        case hS47 => assumption
        case hy47 =>
          refine Or.inl ⟨by rfl, ?_⟩
          first | (intro w hSw; (try dsimp only at hSw); go_simp; done) | (intro w hSw; (try dsimp only at hSw); go_simp; with_reducible rfl)
        (try simp only [Act.put, List.setIfInBounds_toArray, List.set_cons_zero, List.set_cons_succ])
        refine wpAnyH_take (i := 14) (oi := ?o48) (v := ?v48) ?hi48 ?hs48 ?hf48 ?hr48 ?hQ48 ?hy48 ?hS48 ?rest48
        case hi48 =>
          conv => lhs; whnf; arg 1; whnf
        case hs48 => kernel_rfl
        case hf48 => kernel_rfl
        case hr48 => kernel_rfl
        case hQ48 => exact fun _ _ _ h => h
        case hS48 => assumption
        case hy48 =>
          refine Or.inl ⟨by rfl, ?_⟩
          first | (intro w hSw; (try dsimp only at hSw); go_simp; done) | (intro w hSw; (try dsimp only at hSw); go_simp; with_reducible rfl)
        (try simp only [Act.put, List.setIfInBounds_toArray, List.set_cons_zero, List.set_cons_succ])
        have hH := hHeld
        obtain ⟨xa0, xa1, xb0, xb1, xc0, xc1, xd0, xd1, XB⟩ := hH
        refine wpAnyH_ready (rs := [15]) (by kernel_rfl) (by simp) ?_
        refine AllReadyH.cons (o := ?o49) ?hi49 (fun K hK => ?rest49) AllReadyH.nil
        case hi49 =>
          conv => lhs; whnf; arg 1; whnf
        go_simp
        refine (P2.out _).mono ?_
        rintro e w9 ⟨rfl, b9⟩
        go_wp2_with fail
        refine hK.out _ _ ?_ (fun hHeld => ?_)
        · exact ⟨(b9.cell (p := ⟨w.heap.size + 1, 0, none⟩) (Nat.lt_of_lt_of_le (by first | (simp; done) | (simp; omega)) XB.size)).trans xa0, (b9.cell (p := ⟨w.heap.size + 1, 1, none⟩) (Nat.lt_of_lt_of_le (by first | (simp; done) | (simp; omega)) XB.size)).trans xa1, (b9.cell (p := ⟨w.heap.size + 1 + 1, 0, none⟩) (Nat.lt_of_lt_of_le (by first | (simp; done) | (simp; omega)) XB.size)).trans xb0, (b9.cell (p := ⟨w.heap.size + 1 + 1, 1, none⟩) (Nat.lt_of_lt_of_le (by first | (simp; done) | (simp; omega)) XB.size)).trans xb1, (b9.cell (p := ⟨w4.heap.size, 0, none⟩) (Nat.lt_of_lt_of_le (by first | (simp; done) | (simp; omega)) XB.size)).trans xc0, (b9.cell (p := ⟨w4.heap.size, 1, none⟩) (Nat.lt_of_lt_of_le (by first | (simp; done) | (simp; omega)) XB.size)).trans xc1, (b9.cell (p := ⟨w5.heap.size, 0, none⟩) (Nat.lt_of_lt_of_le (by first | (simp; done) | (simp; omega)) XB.size)).trans xd0, (b9.cell (p := ⟨w5.heap.size, 1, none⟩) (Nat.lt_of_lt_of_le (by first | (simp; done) | (simp; omega)) XB.size)).trans xd1, bel_end XB b9⟩
        clear hK K xa0 xa1 xb0 xb1 xc0 xc1 xd0 xd1 XB b9
        (try simp only [Act.put, List.setIfInBounds_toArray, List.set_cons_zero, List.set_cons_succ])
        refine wpAnyH_take (i := 16) (oi := ?o50) (v := ?v50) ?hi50 ?hs50 ?hf50 ?hr50 ?hQ50 ?hy50 ?hS50 ?rest50
        case hi50 =>
          conv => lhs; whnf; arg 1; whnf
        case hs50 => kernel_rfl
        case hf50 => kernel_rfl
        case hr50 => kernel_rfl
        case hQ50 => exact fun _ _ _ h => h
        case hS50 => assumption
        case hy50 =>
          refine Or.inl ⟨by rfl, ?_⟩
          first | (intro w hSw; (try dsimp only at hSw); go_simp; done) | (intro w hSw; (try dsimp only at hSw); go_simp; with_reducible rfl)
        (try simp only [Act.put, List.setIfInBounds_toArray, List.set_cons_zero, List.set_cons_succ])
        refine wpAnyH_take (i := 17) (oi := ?o51) (v := ?v51) ?hi51 ?hs51 ?hf51 ?hr51 ?hQ51 ?hy51 ?hS51 ?rest51
        case hi51 =>
          conv => lhs; whnf; arg 1; whnf
        case hs51 => kernel_rfl
        case hf51 => kernel_rfl
        case hr51 => kernel_rfl
        case hQ51 => exact fun _ _ _ h => h
        case hS51 => assumption
        case hy51 =>
          refine Or.inl ⟨by rfl, ?_⟩
          first | (intro w hSw; (try dsimp only at hSw); go_simp; done) | (intro w hSw; (try dsimp only at hSw); go_simp; with_reducible rfl)
        (try simp only [Act.put, List.setIfInBounds_toArray, List.set_cons_zero, List.set_cons_succ])
        refine wpAnyH_take (i := 18) (oi := ?o52) (v := ?v52) ?hi52 ?hs52 ?hf52 ?hr52 ?hQ52 ?hy52 ?hS52 ?rest52
        case hi52 =>
          conv => lhs; whnf; arg 1; whnf
        case hs52 => kernel_rfl
        case hf52 => kernel_rfl
        case hr52 => kernel_rfl
        case hQ52 => exact fun _ _ _ h => h
        case hS52 => assumption
        case hy52 =>
          refine Or.inl ⟨by rfl, ?_⟩
          first | (intro w hSw; (try dsimp only at hSw); go_simp; done) | (intro w hSw; (try dsimp only at hSw); go_simp; with_reducible rfl)
        (try simp only [Act.put, List.setIfInBounds_toArray, List.set_cons_zero, List.set_cons_succ])
        refine wpAnyH_take (i := 19) (oi := ?o53) (v := ?v53) ?hi53 ?hs53 ?hf53 ?hr53 ?hQ53 ?hy53 ?hS53 ?rest53
        case hi53 =>
          conv => lhs; whnf; arg 1; whnf
        case hs53 => kernel_rfl
        case hf53 => kernel_rfl
        case hr53 => kernel_rfl
        case hQ53 => exact fun _ _ _ h => h
        case hS53 => assumption
        case hy53 =>
          refine Or.inl ⟨by rfl, ?_⟩
          first | (intro w hSw; (try dsimp only at hSw); go_simp; done) | (intro w hSw; (try dsimp only at hSw); go_simp; with_reducible rfl)
        (try simp only [Act.put, List.setIfInBounds_toArray, List.set_cons_zero, List.set_cons_succ])
        refine wpAnyH_take (i := 20) (oi := ?o54) (v := ?v54) ?hi54 ?hs54 ?hf54 ?hr54 ?hQ54 ?hy54 ?hS54 ?rest54
        case hi54 =>
          conv => lhs; whnf; arg 1; whnf
        case hs54 => kernel_rfl
        case hf54 => kernel_rfl
        case hr54 => kernel_rfl
        case hQ54 => exact fun _ _ _ h => h
        case hS54 => assumption
        case hy54 =>
          refine Or.inl ⟨by rfl, ?_⟩
          first | (intro w hSw; (try dsimp only at hSw); go_simp; done) | (intro w hSw; (try dsimp only at hSw); go_simp; with_reducible rfl)
        (try simp only [Act.put, List.setIfInBounds_toArray, List.set_cons_zero, List.set_cons_succ])
        refine wpAnyH_take (i := 21) (oi := ?o55) (v := ?v55) ?hi55 ?hs55 ?hf55 ?hr55 ?hQ55 ?hy55 ?hS55 ?rest55
        case hi55 =>
          conv => lhs; whnf; arg 1; whnf
        case hs55 => kernel_rfl
        case hf55 => kernel_rfl
        case hr55 => kernel_rfl
        case hQ55 => exact fun _ _ _ h => h
        case hS55 => assumption
        case hy55 =>
          refine Or.inl ⟨by rfl, ?_⟩
          first | (intro w hSw; (try dsimp only at hSw); go_simp; done) | (intro w hSw; (try dsimp only at hSw); go_simp; with_reducible rfl)
        (try simp only [Act.put, List.setIfInBounds_toArray, List.set_cons_zero, List.set_cons_succ])
        refine wpAnyH_take (i := 22) (oi := ?o56) (v := ?v56) ?hi56 ?hs56 ?hf56 ?hr56 ?hQ56 ?hy56 ?hS56 ?rest56
        case hi56 =>
          conv => lhs; whnf; arg 1; whnf
        case hs56 => kernel_rfl
        case hf56 => kernel_rfl
        case hr56 => kernel_rfl
        case hQ56 => exact fun _ _ _ h => h
        case hS56 => assumption
        case hy56 =>
          refine Or.inl ⟨by rfl, ?_⟩
          first | (intro w hSw; (try dsimp only at hSw); go_simp; done) | (intro w hSw; (try dsimp only at hSw); go_simp; with_reducible rfl)
        (try simp only [Act.put, List.setIfInBounds_toArray, List.set_cons_zero, List.set_cons_succ])
        refine wpAnyH_take (i := 23) (oi := ?o57) (v := ?v57) ?hi57 ?hs57 ?hf57 ?hr57 ?hQ57 ?hy57 ?hS57 ?rest57
        case hi57 =>
          conv => lhs; whnf; arg 1; whnf
        case hs57 => kernel_rfl
        case hf57 => kernel_rfl
        case hr57 => kernel_rfl
        case hQ57 => exact fun _ _ _ h => h
        case hS57 => assumption
        case hy57 =>
          refine Or.inl ⟨by rfl, ?_⟩
          first | (intro w hSw; (try dsimp only at hSw); go_simp; done) | (intro w hSw; (try dsimp only at hSw); go_simp; with_reducible rfl)
        (try simp only [Act.put, List.setIfInBounds_toArray, List.set_cons_zero, List.set_cons_succ])
        have hH := hHeld
        obtain ⟨xa0, xa1, xb0, xb1, xc0, xc1, xd0, xd1, XB⟩ := hH
        refine wpAnyH_ready (rs := [24]) (by kernel_rfl) (by simp) ?_
        refine AllReadyH.cons (o := ?o58) ?hi58 (fun K hK => ?rest58) AllReadyH.nil
        case hi58 =>
          conv => lhs; whnf; arg 1; whnf
        go_simp
        refine (P1.out _).mono ?_
        rintro e w9 ⟨rfl, b9⟩
        go_wp2_with fail
        refine hK.out _ _ ?_ (fun hHeld => ?_)
        · exact ⟨(b9.cell (p := ⟨w.heap.size + 1, 0, none⟩) (Nat.lt_of_lt_of_le (by first | (simp; done) | (simp; omega)) XB.size)).trans xa0, (b9.cell (p := ⟨w.heap.size + 1, 1, none⟩) (Nat.lt_of_lt_of_le (by first | (simp; done) | (simp; omega)) XB.size)).trans xa1, (b9.cell (p := ⟨w.heap.size + 1 + 1, 0, none⟩) (Nat.lt_of_lt_of_le (by first | (simp; done) | (simp; omega)) XB.size)).trans xb0, (b9.cell (p := ⟨w.heap.size + 1 + 1, 1, none⟩) (Nat.lt_of_lt_of_le (by first | (simp; done) | (simp; omega)) XB.size)).trans xb1, (b9.cell (p := ⟨w4.heap.size, 0, none⟩) (Nat.lt_of_lt_of_le (by first | (simp; done) | (simp; omega)) XB.size)).trans xc0, (b9.cell (p := ⟨w4.heap.size, 1, none⟩) (Nat.lt_of_lt_of_le (by first | (simp; done) | (simp; omega)) XB.size)).trans xc1, (b9.cell (p := ⟨w5.heap.size, 0, none⟩) (Nat.lt_of_lt_of_le (by first | (simp; done) | (simp; omega)) XB.size)).trans xd0, (b9.cell (p := ⟨w5.heap.size, 1, none⟩) (Nat.lt_of_lt_of_le (by first | (simp; done) | (simp; omega)) XB.size)).trans xd1, bel_end XB b9⟩
        clear hK K xa0 xa1 xb0 xb1 xc0 xc1 xd0 xd1 XB b9
        (try simp only [Act.put, List.setIfInBounds_toArray, List.set_cons_zero, List.set_cons_succ])
        refine wpAnyH_take (i := 25) (oi := ?o59) (v := ?v59) ?hi59 ?hs59 ?hf59 ?hr59 ?hQ59 ?hy59 ?hS59 ?rest59
        case hi59 =>
          conv => lhs; whnf; arg 1; whnf
        case hs59 => kernel_rfl
        case hf59 => kernel_rfl
        case hr59 => kernel_rfl
        case hQ59 => exact fun _ _ _ h => h
        case hS59 => assumption
        case hy59 =>
          refine Or.inl ⟨by rfl, ?_⟩
          first | (intro w hSw; (try dsimp only at hSw); go_simp; done) | (intro w hSw; (try dsimp only at hSw); go_simp; with_reducible rfl)
        (try simp only [Act.put, List.setIfInBounds_toArray, List.set_cons_zero, List.set_cons_succ])
        refine wpAnyH_take (i := 26) (oi := ?o60) (v := ?v60) ?hi60 ?hs60 ?hf60 ?hr60 ?hQ60 ?hy60 ?hS60 ?rest60
        case hi60 =>
          conv => lhs; whnf; arg 1; whnf
        case hs60 => kernel_rfl
        case hf60 => kernel_rfl
        case hr60 => kernel_rfl
        case hQ60 => exact fun _ _ _ h => h
        case hS60 => assumption
        case hy60 =>
          refine Or.inl ⟨by rfl, ?_⟩
          first | (intro w hSw; (try dsimp only at hSw); go_simp; done) | (intro w hSw; (try dsimp only at hSw); go_simp; with_reducible rfl)
        (try simp only [Act.put, List.setIfInBounds_toArray, List.set_cons_zero, List.set_cons_succ])
        refine wpAnyH_take (i := 27) (oi := ?o61) (v := undef) ?hi61 ?hs61 ?hf61 ?hr61 ?hQ61 ?hy61 ?hS61 ?rest61
        case hi61 =>
          conv => lhs; whnf; arg 1; whnf
        case hs61 => kernel_rfl
        case hf61 => kernel_rfl
        case hr61 => kernel_rfl
        case hQ61 => exact fun _ _ _ h => h
        case hS61 => assumption
        case hy61 =>
          exact Or.inr ⟨by rfl, rfl⟩
        (try simp only [Act.put, List.setIfInBounds_toArray, List.set_cons_zero, List.set_cons_succ])
        refine wpAnyH_take (i := 28) (oi := ?o62) (v := undef) ?hi62 ?hs62 ?hf62 ?hr62 ?hQ62 ?hy62 ?hS62 ?rest62
        case hi62 =>
          conv => lhs; whnf; arg 1; whnf
        case hs62 => kernel_rfl
        case hf62 => kernel_rfl
        case hr62 => kernel_rfl
        case hQ62 => exact fun _ _ _ h => h
        case hS62 => assumption
        case hy62 =>
          exact Or.inr ⟨by rfl, rfl⟩
        (try simp only [Act.put, List.setIfInBounds_toArray, List.set_cons_zero, List.set_cons_succ])
        refine wpAnyH_take (i := 29) (oi := ?o63) (v := undef) ?hi63 ?hs63 ?hf63 ?hr63 ?hQ63 ?hy63 ?hS63 ?rest63
        case hi63 =>
          conv => lhs; whnf; arg 1; whnf
        case hs63 => kernel_rfl
        case hf63 => kernel_rfl
        case hr63 => kernel_rfl
        case hQ63 => exact fun _ _ _ h => h
        case hS63 => assumption
        case hy63 =>
          exact Or.inr ⟨by rfl, rfl⟩
        (try simp only [Act.put, List.setIfInBounds_toArray, List.set_cons_zero, List.set_cons_succ])
        refine wpAnyH_take (i := 30) (oi := ?o64) (v := undef) ?hi64 ?hs64 ?hf64 ?hr64 ?hQ64 ?hy64 ?hS64 ?rest64
        case hi64 =>
          conv => lhs; whnf; arg 1; whnf
        case hs64 => kernel_rfl
        case hf64 => kernel_rfl
        case hr64 => kernel_rfl
        case hQ64 => exact fun _ _ _ h => h
        case hS64 => assumption
        case hy64 =>
          exact Or.inr ⟨by rfl, rfl⟩
        (try simp only [Act.put, List.setIfInBounds_toArray, List.set_cons_zero, List.set_cons_succ])
        refine wpAnyH_take (i := 31) (oi := ?o65) (v := ?v65) ?hi65 ?hs65 ?hf65 ?hr65 ?hQ65 ?hy65 ?hS65 ?rest65
        case hi65 =>
          conv => lhs; whnf; arg 1; whnf
        case hs65 => kernel_rfl
        case hf65 => kernel_rfl
        case hr65 => kernel_rfl
        case hQ65 => exact fun _ _ _ h => h
        case hS65 => assumption
        case hy65 =>
          refine Or.inl ⟨by rfl, ?_⟩
          first | (intro w hSw; (try dsimp only at hSw); go_simp; done) | (intro w hSw; (try dsimp only at hSw); go_simp; with_reducible rfl)
        (try simp only [Act.put, List.setIfInBounds_toArray, List.set_cons_zero, List.set_cons_succ])
        refine wpAnyH_take (i := 32) (oi := ?o66) (v := ?v66) ?hi66 ?hs66 ?hf66 ?hr66 ?hQ66 ?hy66 ?hS66 ?rest66
        case hi66 =>
          conv => lhs; whnf; arg 1; whnf
        case hs66 => kernel_rfl
        case hf66 => kernel_rfl
        case hr66 => kernel_rfl
        case hQ66 => exact fun _ _ _ h => h
        case hS66 => assumption
        case hy66 =>
          refine Or.inl ⟨by rfl, ?_⟩
          first | (intro w hSw; (try dsimp only at hSw); go_simp; done) | (intro w hSw; (try dsimp only at hSw); go_simp; with_reducible rfl)
        (try simp only [Act.put, List.setIfInBounds_toArray, List.set_cons_zero, List.set_cons_succ])
        refine wpAnyH_take (i := 33) (oi := ?o67) (v := ?v67) ?hi67 ?hs67 ?hf67 ?hr67 ?hQ67 ?hy67 ?hS67 ?rest67
        case hi67 =>
          conv => lhs; whnf; arg 1; whnf
        case hs67 => kernel_rfl
        case hf67 => kernel_rfl
        case hr67 => kernel_rfl
        case hQ67 => exact fun _ _ _ h => h
        case hS67 => assumption
        case hy67 =>
          refine Or.inl ⟨by rfl, ?_⟩
          first | (intro w hSw; (try dsimp only at hSw); go_simp; done) | (intro w hSw; (try dsimp only at hSw); go_simp; with_reducible rfl)
        (try simp only [Act.put, List.setIfInBounds_toArray, List.set_cons_zero, List.set_cons_succ])
        refine wpAnyH_done (by kernel_rfl) ?_ _
        obtain ⟨xa0, xa1, xb0, xb1, xc0, xc1, xd0, xd1, XB⟩ := hHeld
        go_wp2_with fail
        go_meet
        exact ⟨by first | rfl | simp_all, XB⟩
      · have f1 : decide (h * 18446744073709551616 + l < k * 18446744073709551616 + m) = false := decide_eq_false (by omega)
        have f2 : decide (k * 18446744073709551616 + m < h * 18446744073709551616 + l) = false := decide_eq_false (by omega)
        have g1 : ((h : Int) == (k : Int)) = true := by simp; omega
        have g2 : (h == k) = true := by simp; omega
        have g3 : decide (h = k) = true := decide_eq_true (by omega)
        have k1 : ((l : Int) == (m : Int)) = true := by simp; omega
        have k2 : (l == m) = true := by simp; omega
        have k3 : decide (l = m) = true := decide_eq_true (by omega)
        rw [f1] at P1
        rw [f2] at P2
        clear f1 f2 HK hl hm hk hq
        refine wp_region_held_drew (S := (fun w' => w'.cell? ⟨w.heap.size + 1, 0, none⟩ = some (.int .u64 h) ∧ w'.cell? ⟨w.heap.size + 1, 1, none⟩ = some (.int .u64 l) ∧ w'.cell? ⟨w.heap.size + 1 + 1, 0, none⟩ = some (.int .u64 k) ∧ w'.cell? ⟨w.heap.size + 1 + 1, 1, none⟩ = some (.int .u64 m) ∧ w'.cell? ⟨w4.heap.size, 0, none⟩ = some (.int .u64 u) ∧ w'.cell? ⟨w4.heap.size, 1, none⟩ = some (.int .u64 v) ∧ w'.cell? ⟨w5.heap.size, 0, none⟩ = some (.int .u64 u) ∧ w'.cell? ⟨w5.heap.size, 1, none⟩ = some (.int .u64 v) ∧ Below (w5.alloc (.cells #[.int .u64 u, .int .u64 v] 43)).heap.size (w5.alloc (.cells #[.int .u64 u, .int .u64 v] 43)) w')) (by kernel_rfl) ?_ (fun hHeld => ?_)
        · exact ⟨by go_simp, by go_simp, by go_simp, by go_simp, by go_simp, by go_simp, by go_simp, by go_simp, bel_drew BH0⟩
        refine wpAnyH_take (i := 0) (oi := ?o68) (v := ?v68) ?hi68 ?hs68 ?hf68 ?hr68 ?hQ68 ?hy68 ?hS68 ?rest68
        case hi68 =>
          conv => lhs; whnf; arg 1; whnf
        case hs68 => kernel_rfl
        case hf68 => kernel_rfl
        case hr68 => kernel_rfl
        case hQ68 => exact fun _ _ _ h => h
        case hS68 => assumption
        case hy68 =>
          refine Or.inl ⟨by rfl, ?_⟩
          first | (intro w hSw; (try dsimp only at hSw); go_simp; done) | (intro w hSw; (try dsimp only at hSw); go_simp; with_reducible rfl)
        (try simp only [Act.put, List.setIfInBounds_toArray, List.set_cons_zero, List.set_cons_succ])
        refine wpAnyH_take (i := 1) (oi := ?o69) (v := ?v69) ?hi69 ?hs69 ?hf69 ?hr69 ?hQ69 ?hy69 ?hS69 ?rest69
        case hi69 =>
          conv => lhs; whnf; arg 1; whnf
        case hs69 => kernel_rfl
        case hf69 => kernel_rfl
        case hr69 => kernel_rfl
        case hQ69 => exact fun _ _ _ h => h
        case hS69 => assumption
        case hy69 =>
          refine Or.inl ⟨by rfl, ?_⟩
          first | (intro w hSw; (try dsimp only at hSw); go_simp; done) | (intro w hSw; (try dsimp only at hSw); go_simp; with_reducible rfl)
        (try simp only [Act.put, List.setIfInBounds_toArray, List.set_cons_zero, List.set_cons_succ])
        refine wpAnyH_take (i := 2) (oi := ?o70) (v := ?v70) ?hi70 ?hs70 ?hf70 ?hr70 ?hQ70 ?hy70 ?hS70 ?rest70
        case hi70 =>
          conv => lhs; whnf; arg 1; whnf
        case hs70 => kernel_rfl
        case hf70 => kernel_rfl
        case hr70 => kernel_rfl
        case hQ70 => exact fun _ _ _ h => h
        case hS70 => assumption
        case hy70 =>
          refine Or.inl ⟨by rfl, ?_⟩
          first | (intro w hSw; (try dsimp only at hSw); go_simp; done) | (intro w hSw; (try dsimp only at hSw); go_simp; with_reducible rfl)
        (try simp only [Act.put, List.setIfInBounds_toArray, List.set_cons_zero, List.set_cons_succ])
        refine wpAnyH_take (i := 3) (oi := ?o71) (v := ?v71) ?hi71 ?hs71 ?hf71 ?hr71 ?hQ71 ?hy71 ?hS71 ?rest71
        case hi71 =>
          conv => lhs; whnf; arg 1; whnf
        case hs71 => kernel_rfl
        case hf71 => kernel_rfl
        case hr71 => kernel_rfl
        case hQ71 => exact fun _ _ _ h => h
        case hS71 => assumption
        case hy71 =>
          refine Or.inl ⟨by rfl, ?_⟩
          first | (intro w hSw; (try dsimp only at hSw); go_simp; done) | (intro w hSw; (try dsimp only at hSw); go_simp; with_reducible rfl)
        (try simp only [Act.put, List.setIfInBounds_toArray, List.set_cons_zero, List.set_cons_succ])
        refine wpAnyH_take (i := 4) (oi := ?o72) (v := ?v72) ?hi72 ?hs72 ?hf72 ?hr72 ?hQ72 ?hy72 ?hS72 ?rest72
        case hi72 =>
          conv => lhs; whnf; arg 1; whnf
        case hs72 => kernel_rfl
        case hf72 => kernel_rfl
        case hr72 => kernel_rfl
        case hQ72 => exact fun _ _ _ h => h
        case hS72 => assumption
        case hy72 =>
          refine Or.inl ⟨by rfl, ?_⟩
          first | (intro w hSw; (try dsimp only at hSw); go_simp; done) | (intro w hSw; (try dsimp only at hSw); go_simp; with_reducible rfl)
        (try simp only [Act.put, List.setIfInBounds_toArray, List.set_cons_zero, List.set_cons_succ])
        refine wpAnyH_take (i := 5) (oi := ?o73) (v := ?v73) ?hi73 ?hs73 ?hf73 ?hr73 ?hQ73 ?hy73 ?hS73 ?rest73
        case hi73 =>
          conv => lhs; whnf; arg 1; whnf
        case hs73 => kernel_rfl
        case hf73 => kernel_rfl
        case hr73 => kernel_rfl
        case hQ73 => exact fun _ _ _ h => h
        case hS73 => assumption
        case hy73 =>
          refine Or.inl ⟨by rfl, ?_⟩
          first | (intro w hSw; (try dsimp only at hSw); go_simp; done) | (intro w hSw; (try dsimp only at hSw); go_simp; with_reducible rfl)
        (try simp only [Act.put, List.setIfInBounds_toArray, List.set_cons_zero, List.set_cons_succ])
        refine wpAnyH_take (i := 6) (oi := ?o74) (v := ?v74) ?hi74 ?hs74 ?hf74 ?hr74 ?hQ74 ?hy74 ?hS74 ?rest74
        case hi74 =>
          conv => lhs; whnf; arg 1; whnf
        case hs74 => kernel_rfl
        case hf74 => kernel_rfl
        case hr74 => kernel_rfl
        case hQ74 => exact fun _ _ _ h => h
        case hS74 => assumption
        case hy74 =>
          refine Or.inl ⟨by rfl, ?_⟩
          first | (intro w hSw; (try dsimp only at hSw); go_simp; done) | (intro w hSw; (try dsimp only at hSw); go_simp; with_reducible rfl)
        (try simp only [Act.put, List.setIfInBounds_toArray, List.set_cons_zero, List.set_cons_succ])
        refine wpAnyH_take (i := 7) (oi := ?o75) (v := ?v75) ?hi75 ?hs75 ?hf75 ?hr75 ?hQ75 ?hy75 ?hS75 ?rest75
        case hi75 =>
          conv => lhs; whnf; arg 1; whnf
        case hs75 => kernel_rfl
        case hf75 => kernel_rfl
        case hr75 => kernel_rfl
        case hQ75 => exact fun _ _ _ h => h
        case hS75 => assumption
        case hy75 =>
          refine Or.inl ⟨by rfl, ?_⟩
          first | (intro w hSw; (try dsimp only at hSw); go_simp; done) | (intro w hSw; (try dsimp only at hSw); go_simp; with_reducible rfl)
        (try simp only [Act.put, List.setIfInBounds_toArray, List.set_cons_zero, List.set_cons_succ])
        refine wpAnyH_take (i := 8) (oi := ?o76) (v := ?v76) ?hi76 ?hs76 ?hf76 ?hr76 ?hQ76 ?hy76 ?hS76 ?rest76
        case hi76 =>
          conv => lhs; whnf; arg 1; whnf
        case hs76 => kernel_rfl
        case hf76 => kernel_rfl
        case hr76 => kernel_rfl
        case hQ76 => exact fun _ _ _ h => h
        case hS76 => assumption
        case hy76 =>
          refine Or.inl ⟨by rfl, ?_⟩
          first | (intro w hSw; (try dsimp only at hSw); go_simp; done) | (intro w hSw; (try dsimp only at hSw); go_simp; with_reducible rfl)
        (try simp only [Act.put, List.setIfInBounds_toArray, List.set_cons_zero, List.set_cons_succ])
        refine wpAnyH_take (i := 9) (oi := ?o77) (v := ?v77) ?hi77 ?hs77 ?hf77 ?hr77 ?hQ77 ?hy77 ?hS77 ?rest77
        case hi77 =>
          conv => lhs; whnf; arg 1; whnf
        case hs77 => kernel_rfl
        case hf77 => kernel_rfl
        case hr77 => kernel_rfl
        case hQ77 => exact fun _ _ _ h => h
        case hS77 => assumption
        case hy77 =>
          refine Or.inl ⟨by rfl, ?_⟩
          first | (intro w hSw; (try dsimp only at hSw); go_simp; done) | (intro w hSw; (try dsimp only at hSw); go_simp; with_reducible rfl)
        (try simp only [Act.put, List.setIfInBounds_toArray, List.set_cons_zero, List.set_cons_succ])
        refine wpAnyH_take (i := 10) (oi := ?o78) (v := ?v78) ?hi78 ?hs78 ?hf78 ?hr78 ?hQ78 ?hy78 ?hS78 ?rest78
        case hi78 =>
          conv => lhs; whnf; arg 1; whnf
        case hs78 => kernel_rfl
        case hf78 => kernel_rfl
        case hr78 => kernel_rfl
        case hQ78 => exact fun _ _ _ h => h
        case hS78 => assumption
        case hy78 =>
          refine Or.inl ⟨by rfl, ?_⟩
          first | (intro w hSw; (try dsimp only at hSw); go_simp; done) | (intro w hSw; (try dsimp only at hSw); go_simp; with_reducible rfl)
        (try simp only [Act.put, List.setIfInBounds_toArray, List.set_cons_zero, List.set_cons_succ])
        have hH := hHeld
        obtain ⟨xa0, xa1, xb0, xb1, xc0, xc1, xd0, xd1, XB⟩ := hH
        refine wpAnyH_ready (rs := [11]) (by kernel_rfl) (by simp) ?_
        refine AllReadyH.cons (o := ?o79) ?hi79 (fun K hK => ?rest79) AllReadyH.nil
        case hi79 =>
          conv => lhs; whnf; arg 1; whnf
        go_simp
        refine (P1.out _).mono ?_
        rintro e w9 ⟨rfl, b9⟩
        go_wp2_with fail
        refine hK.out _ _ ?_ (fun hHeld => ?_)
        · exact ⟨(b9.cell (p := ⟨w.heap.size + 1, 0, none⟩) (Nat.lt_of_lt_of_le (by first | (simp; done) | (simp; omega)) XB.size)).trans xa0, (b9.cell (p := ⟨w.heap.size + 1, 1, none⟩) (Nat.lt_of_lt_of_le (by first | (simp; done) | (simp; omega)) XB.size)).trans xa1, (b9.cell (p := ⟨w.heap.size + 1 + 1, 0, none⟩) (Nat.lt_of_lt_of_le (by first | (simp; done) | (simp; omega)) XB.size)).trans xb0, (b9.cell (p := ⟨w.heap.size + 1 + 1, 1, none⟩) (Nat.lt_of_lt_of_le (by first | (simp; done) | (simp; omega)) XB.size)).trans xb1, (b9.cell (p := ⟨w4.heap.size, 0, none⟩) (Nat.lt_of_lt_of_le (by first | (simp; done) | (simp; omega)) XB.size)).trans xc0, (b9.cell (p := ⟨w4.heap.size, 1, none⟩) (Nat.lt_of_lt_of_le (by first | (simp; done) | (simp; omega)) XB.size)).trans xc1, (b9.cell (p := ⟨w5.heap.size, 0, none⟩) (Nat.lt_of_lt_of_le (by first | (simp; done) | (simp; omega)) XB.size)).trans xd0, (b9.cell (p := ⟨w5.heap.size, 1, none⟩) (Nat.lt_of_lt_of_le (by first | (simp; done) | (simp; omega)) XB.size)).trans xd1, bel_end XB b9⟩
        clear hK K xa0 xa1 xb0 xb1 xc0 xc1 xd0 xd1 XB b9
        (try simp only [Act.put, List.setIfInBounds_toArray, List.set_cons_zero, List.set_cons_succ])
        refine wpAnyH_take (i := 12) (oi := ?o80) (v := ?v80) ?hi80 ?hs80 ?hf80 ?hr80 ?hQ80 ?hy80 ?hS80 ?rest80
        case hi80 =>
          conv => lhs; whnf; arg 1; whnf
        case hs80 => kernel_rfl
        case hf80 => kernel_rfl
        case hr80 => kernel_rfl
        case hQ80 => exact fun _ _ _ h => h
        case hS80 => assumption
        case hy80 =>
          refine Or.inl ⟨by rfl, ?_⟩
          first | (intro w hSw; (try dsimp only at hSw); go_simp; done) | (intro w hSw; (try dsimp only at hSw); go_simp; with_reducible rfl)
        (try simp only [Act.put, List.setIfInBounds_toArray, List.set_cons_zero, List.set_cons_succ])
        refine wpAnyH_take (i := 13) (oi := ?o81) (v := undef) ?hi81 ?hs81 ?hf81 ?hr81 ?hQ81 ?hy81 ?hS81 ?rest81
        case hi81 =>
          conv => lhs; whnf; arg 1; whnf
        case hs81 => kernel_rfl
        case hf81 => kernel_rfl
        case hr81 => kernel_rfl
        case hQ81 => exact fun _ _ _ h => h
        case hS81 => assumption
        case hy81 =>
          exact Or.inr ⟨by rfl, rfl⟩
        (try simp only [Act.put, List.setIfInBounds_toArray, List.set_cons_zero, List.set_cons_succ])
        refine wpAnyH_take (i := 14) (oi := ?o82) (v := undef) ?hi82 ?hs82 ?hf82 ?hr82 ?hQ82 ?hy82 ?hS82 ?rest82
        case hi82 =>
          conv => lhs; whnf; arg 1; whnf
        case hs82 => kernel_rfl
        case hf82 => kernel_rfl
        case hr82 => kernel_rfl
        case hQ82 => exact fun _ _ _ h => h
        case hS82 => assumption
        case hy82 =>
          exact Or.inr ⟨by rfl, rfl⟩
        (try simp only [Act.put, List.setIfInBounds_toArray, List.set_cons_zero, List.set_cons_succ])
        refine wpAnyH_take (i := 15) (oi := ?o83) (v := undef) ?hi83 ?hs83 ?hf83 ?hr83 ?hQ83 ?hy83 ?hS83 ?rest83
        case hi83 =>
          conv => lhs; whnf; arg 1; whnf
        case hs83 => kernel_rfl
        case hf83 => kernel_rfl
        case hr83 => kernel_rfl
        case hQ83 => exact fun _ _ _ h => h
        case hS83 => assumption
        case hy83 =>
          exact Or.inr ⟨by rfl, rfl⟩
        (try simp only [Act.put, List.setIfInBounds_toArray, List.set_cons_zero, List.set_cons_succ])
        refine wpAnyH_take (i := 16) (oi := ?o84) (v := ?v84) ?hi84 ?hs84 ?hf84 ?hr84 ?hQ84 ?hy84 ?hS84 ?rest84
        case hi84 =>
          conv => lhs; whnf; arg 1; whnf
        case hs84 => kernel_rfl
        case hf84 => kernel_rfl
        case hr84 => kernel_rfl
        case hQ84 => exact fun _ _ _ h => h
        case hS84 => assumption
        case hy84 =>
          refine Or.inl ⟨by rfl, ?_⟩
          first | (intro w hSw; (try dsimp only at hSw); go_simp; done) | (intro w hSw; (try dsimp only at hSw); go_simp; with_reducible rfl)
        (try simp only [Act.put, List.setIfInBounds_toArray, List.set_cons_zero, List.set_cons_succ])
        refine wpAnyH_take (i := 17) (oi := ?o85) (v := ?v85) ?hi85 ?hs85 ?hf85 ?hr85 ?hQ85 ?hy85 ?hS85 ?rest85
        case hi85 =>
          conv => lhs; whnf; arg 1; whnf
        case hs85 => kernel_rfl
        case hf85 => kernel_rfl
        case hr85 => kernel_rfl
        case hQ85 => exact fun _ _ _ h => h
        case hS85 => assumption
        case hy85 =>
          refine Or.inl ⟨by rfl, ?_⟩
          first | (intro w hSw; (try dsimp only at hSw); go_simp; done) | (intro w hSw; (try dsimp only at hSw); go_simp; with_reducible rfl)
        (try simp only [Act.put, List.setIfInBounds_toArray, List.set_cons_zero, List.set_cons_succ])
        refine wpAnyH_take (i := 18) (oi := ?o86) (v := ?v86) ?hi86 ?hs86 ?hf86 ?hr86 ?hQ86 ?hy86 ?hS86 ?rest86
        case hi86 =>
          conv => lhs; whnf; arg 1; whnf
        case hs86 => kernel_rfl
        case hf86 => kernel_rfl
        case hr86 => kernel_rfl
        case hQ86 => exact fun _ _ _ h => h
        case hS86 => assumption
        case hy86 =>
          refine Or.inl ⟨by rfl, ?_⟩
          first | (intro w hSw; (try dsimp only at hSw); go_simp; done) | (intro w hSw; (try dsimp only at hSw); go_simp; with_reducible rfl)
        (try simp only [Act.put, List.setIfInBounds_toArray, List.set_cons_zero, List.set_cons_succ])
        refine wpAnyH_take (i := 19) (oi := ?o87) (v := ?v87) ?hi87 ?hs87 ?hf87 ?hr87 ?hQ87 ?hy87 ?hS87 ?rest87
        case hi87 =>
          conv => lhs; whnf; arg 1; whnf
        case hs87 => kernel_rfl
        case hf87 => kernel_rfl
        case hr87 => kernel_rfl
        case hQ87 => exact fun _ _ _ h => h
        case hS87 => assumption
        case hy87 =>
          refine Or.inl ⟨by rfl, ?_⟩
          first | (intro w hSw; (try dsimp only at hSw); go_simp; done) | (intro w hSw; (try dsimp only at hSw); go_simp; with_reducible rfl)
        (try simp only [Act.put, List.setIfInBounds_toArray, List.set_cons_zero, List.set_cons_succ])
        refine wpAnyH_take (i := 20) (oi := ?o88) (v := ?v88) ?hi88 ?hs88 ?hf88 ?hr88 ?hQ88 ?hy88 ?hS88 ?rest88
        case hi88 =>
          conv => lhs; whnf; arg 1; whnf
        case hs88 => kernel_rfl
        case hf88 => kernel_rfl
        case hr88 => kernel_rfl
        case hQ88 => exact fun _ _ _ h => h
        case hS88 => assumption
        case hy88 =>
          refine Or.inl ⟨by rfl, ?_⟩
          first | (intro w hSw; (try dsimp only at hSw); go_simp; done) | (intro w hSw; (try dsimp only at hSw); go_simp; with_reducible rfl)
        (try simp only [Act.put, List.setIfInBounds_toArray, List.set_cons_zero, List.set_cons_succ])
        refine wpAnyH_take (i := 21) (oi := ?o89) (v := ?v89) ?hi89 ?hs89 ?hf89 ?hr89 ?hQ89 ?hy89 ?hS89 ?rest89
        case hi89 =>
          conv => lhs; whnf; arg 1; whnf
        case hs89 => kernel_rfl
        case hf89 => kernel_rfl
        case hr89 => kernel_rfl
        case hQ89 => exact fun _ _ _ h => h
        case hS89 => assumption
        case hy89 =>
          refine Or.inl ⟨by rfl, ?_⟩
          first | (intro w hSw; (try dsimp only at hSw); go_simp; done) | (intro w hSw; (try dsimp only at hSw); go_simp; with_reducible rfl)
        (try simp only [Act.put, List.setIfInBounds_toArray, List.set_cons_zero, List.set_cons_succ])
        refine wpAnyH_take (i := 22) (oi := ?o90) (v := ?v90) ?hi90 ?hs90 ?hf90 ?hr90 ?hQ90 ?hy90 ?hS90 ?rest90
        case hi90 =>
          conv => lhs; whnf; arg 1; whnf
        case hs90 => kernel_rfl
        case hf90 => kernel_rfl
        case hr90 => kernel_rfl
        case hQ90 => exact fun _ _ _ h => h
        case hS90 => assumption
        case hy90 =>
          refine Or.inl ⟨by rfl, ?_⟩
          first | (intro w hSw; (try dsimp only at hSw); go_simp; done) | (intro w hSw; (try dsimp only at hSw); go_simp; with_reducible rfl)
        (try simp only [Act.put, List.setIfInBounds_toArray, List.set_cons_zero, List.set_cons_succ])
        refine wpAnyH_take (i := 23) (oi := ?o91) (v := ?v91) ?hi91 ?hs91 ?hf91 ?hr91 ?hQ91 ?hy91 ?hS91 ?rest91
        case hi91 =>
          conv => lhs; whnf; arg 1; whnf
        case hs91 => kernel_rfl
        case hf91 => kernel_rfl
        case hr91 => kernel_rfl
        case hQ91 => exact fun _ _ _ h => h
        case hS91 => assumption
        case hy91 =>
          refine Or.inl ⟨by rfl, ?_⟩
          first | (intro w hSw; (try dsimp only at hSw); go_simp; done) | (intro w hSw; (try dsimp only at hSw); go_simp; with_reducible rfl)
        (try simp only [Act.put, List.setIfInBounds_toArray, List.set_cons_zero, List.set_cons_succ])
        have hH := hHeld
        obtain ⟨xa0, xa1, xb0, xb1, xc0, xc1, xd0, xd1, XB⟩ := hH
        refine wpAnyH_ready (rs := [24]) (by kernel_rfl) (by simp) ?_
        refine AllReadyH.cons (o := ?o92) ?hi92 (fun K hK => ?rest92) AllReadyH.nil
        case hi92 =>
          conv => lhs; whnf; arg 1; whnf
        go_simp
        refine (P1.out _).mono ?_
        rintro e w9 ⟨rfl, b9⟩
        go_wp2_with fail
        refine hK.out _ _ ?_ (fun hHeld => ?_)
        · exact ⟨(b9.cell (p := ⟨w.heap.size + 1, 0, none⟩) (Nat.lt_of_lt_of_le (by first | (simp; done) | (simp; omega)) XB.size)).trans xa0, (b9.cell (p := ⟨w.heap.size + 1, 1, none⟩) (Nat.lt_of_lt_of_le (by first | (simp; done) | (simp; omega)) XB.size)).trans xa1, (b9.cell (p := ⟨w.heap.size + 1 + 1, 0, none⟩) (Nat.lt_of_lt_of_le (by first | (simp; done) | (simp; omega)) XB.size)).trans xb0, (b9.cell (p := ⟨w.heap.size + 1 + 1, 1, none⟩) (Nat.lt_of_lt_of_le (by first | (simp; done) | (simp; omega)) XB.size)).trans xb1, (b9.cell (p := ⟨w4.heap.size, 0, none⟩) (Nat.lt_of_lt_of_le (by first | (simp; done) | (simp; omega)) XB.size)).trans xc0, (b9.cell (p := ⟨w4.heap.size, 1, none⟩) (Nat.lt_of_lt_of_le (by first | (simp; done) | (simp; omega)) XB.size)).trans xc1, (b9.cell (p := ⟨w5.heap.size, 0, none⟩) (Nat.lt_of_lt_of_le (by first | (simp; done) | (simp; omega)) XB.size)).trans xd0, (b9.cell (p := ⟨w5.heap.size, 1, none⟩) (Nat.lt_of_lt_of_le (by first | (simp; done) | (simp; omega)) XB.size)).trans xd1, bel_end XB b9⟩
        clear hK K xa0 xa1 xb0 xb1 xc0 xc1 xd0 xd1 XB b9
        (try simp only [Act.put, List.setIfInBounds_toArray, List.set_cons_zero, List.set_cons_succ])
        refine wpAnyH_take (i := 25) (oi := ?o93) (v := ?v93) ?hi93 ?hs93 ?hf93 ?hr93 ?hQ93 ?hy93 ?hS93 ?rest93
        case hi93 =>
          conv => lhs; whnf; arg 1; whnf
        case hs93 => kernel_rfl
        case hf93 => kernel_rfl
        case hr93 => kernel_rfl
        case hQ93 => exact fun _ _ _ h => h
        case hS93 => assumption
        case hy93 =>
          refine Or.inl ⟨by rfl, ?_⟩
          first | (intro w hSw; (try dsimp only at hSw); go_simp; done) | (intro w hSw; (try dsimp only at hSw); go_simp; with_reducible rfl)
        (try simp only [Act.put, List.setIfInBounds_toArray, List.set_cons_zero, List.set_cons_succ])
        refine wpAnyH_take (i := 26) (oi := ?o94) (v := ?v94) ?hi94 ?hs94 ?hf94 ?hr94 ?hQ94 ?hy94 ?hS94 ?rest94
        case hi94 =>
          conv => lhs; whnf; arg 1; whnf
        case hs94 => kernel_rfl
        case hf94 => kernel_rfl
        case hr94 => kernel_rfl
        case hQ94 => exact fun _ _ _ h => h
        case hS94 => assumption
        case hy94 =>
          refine Or.inl ⟨by rfl, ?_⟩
          first | (intro w hSw; (try dsimp only at hSw); go_simp; done) | (intro w hSw; (try dsimp only at hSw); go_simp; with_reducible rfl)
        (try simp only [Act.put, List.setIfInBounds_toArray, List.set_cons_zero, List.set_cons_succ])
        refine wpAnyH_take (i := 27) (oi := ?o95) (v := ?v95) ?hi95 ?hs95 ?hf95 ?hr95 ?hQ95 ?hy95 ?hS95 ?rest95
        case hi95 =>
          conv => lhs; whnf; arg 1; whnf
        case hs95 => kernel_rfl
        case hf95 => kernel_rfl
        case hr95 => kernel_rfl
        case hQ95 => exact fun _ _ _ h => h
        case hS95 => assumption
        case hy95 =>
          refine Or.inl ⟨by rfl, ?_⟩
          first | (intro w hSw; (try dsimp only at hSw); go_simp; done) | (intro w hSw; (try dsimp only at hSw); go_simp; with_reducible rfl)
        (try simp only [Act.put, List.setIfInBounds_toArray, List.set_cons_zero, List.set_cons_succ])
        refine wpAnyH_take (i := 28) (oi := ?o96) (v := ?v96) ?hi96 ?hs96 ?hf96 ?hr96 ?hQ96 ?hy96 ?hS96 ?rest96
        case hi96 =>
          conv => lhs; whnf; arg 1; whnf
        case hs96 => kernel_rfl
        case hf96 => kernel_rfl
        case hr96 => kernel_rfl
        case hQ96 => exact fun _ _ _ h => h
        case hS96 => assumption
        case hy96 =>
          refine Or.inl ⟨by rfl, ?_⟩
          first | (intro w hSw; (try dsimp only at hSw); go_simp; done) | (intro w hSw; (try dsimp only at hSw); go_simp; with_reducible rfl)
        (try simp only [Act.put, List.setIfInBounds_toArray, List.set_cons_zero, List.set_cons_succ])
        have hH := hHeld
        obtain ⟨xa0, xa1, xb0, xb1, xc0, xc1, xd0, xd1, XB⟩ := hH
        refine wpAnyH_ready (rs := [29]) (by kernel_rfl) (by simp) ?_
        refine AllReadyH.cons (o := ?o97) ?hi97 (fun K hK => ?rest97) AllReadyH.nil
        case hi97 =>
          conv => lhs; whnf; arg 1; whnf
        go_simp
        refine (P2.out _).mono ?_
        rintro e w9 ⟨rfl, b9⟩
        go_wp2_with fail
        refine hK.out _ _ ?_ (fun hHeld => ?_)
        · exact ⟨(b9.cell (p := ⟨w.heap.size + 1, 0, none⟩) (Nat.lt_of_lt_of_le (by first | (simp; done) | (simp; omega)) XB.size)).trans xa0, (b9.cell (p := ⟨w.heap.size + 1, 1, none⟩) (Nat.lt_of_lt_of_le (by first | (simp; done) | (simp; omega)) XB.size)).trans xa1, (b9.cell (p := ⟨w.heap.size + 1 + 1, 0, none⟩) (Nat.lt_of_lt_of_le (by first | (simp; done) | (simp; omega)) XB.size)).trans xb0, (b9.cell (p := ⟨w.heap.size + 1 + 1, 1, none⟩) (Nat.lt_of_lt_of_le (by first | (simp; done) | (simp; omega)) XB.size)).trans xb1, (b9.cell (p := ⟨w4.heap.size, 0, none⟩) (Nat.lt_of_lt_of_le (by first | (simp; done) | (simp; omega)) XB.size)).trans xc0, (b9.cell (p := ⟨w4.heap.size, 1, none⟩) (Nat.lt_of_lt_of_le (by first | (simp; done) | (simp; omega)) XB.size)).trans xc1, (b9.cell (p := ⟨w5.heap.size, 0, none⟩) (Nat.lt_of_lt_of_le (by first | (simp; done) | (simp; omega)) XB.size)).trans xd0, (b9.cell (p := ⟨w5.heap.size, 1, none⟩) (Nat.lt_of_lt_of_le (by first | (simp; done) | (simp; omega)) XB.size)).trans xd1, bel_end XB b9⟩
        clear hK K xa0 xa1 xb0 xb1 xc0 xc1 xd0 xd1 XB b9
        (try simp only [Act.put, List.setIfInBounds_toArray, List.set_cons_zero, List.set_cons_succ])
        refine wpAnyH_take (i := 30) (oi := ?o98) (v := ?v98) ?hi98 ?hs98 ?hf98 ?hr98 ?hQ98 ?hy98 ?hS98 ?rest98
        case hi98 =>
          conv => lhs; whnf; arg 1; whnf
        case hs98 => kernel_rfl
        case hf98 => kernel_rfl
        case hr98 => kernel_rfl
        case hQ98 => exact fun _ _ _ h => h
        case hS98 => assumption
        case hy98 =>
          refine Or.inl ⟨by rfl, ?_⟩
          first | (intro w hSw; (try dsimp only at hSw); go_simp; done) | (intro w hSw; (try dsimp only at hSw); go_simp; with_reducible rfl)
        (try simp only [Act.put, List.setIfInBounds_toArray, List.set_cons_zero, List.set_cons_succ])
        refine wpAnyH_take (i := 31) (oi := ?o99) (v := ?v99) ?hi99 ?hs99 ?hf99 ?hr99 ?hQ99 ?hy99 ?hS99 ?rest99
        case hi99 =>
          conv => lhs; whnf; arg 1; whnf
        case hs99 => kernel_rfl
        case hf99 => kernel_rfl
        case hr99 => kernel_rfl
        case hQ99 => exact fun _ _ _ h => h
        case hS99 => assumption
        case hy99 =>
          refine Or.inl ⟨by rfl, ?_⟩
          first | (intro w hSw; (try dsimp only at hSw); go_simp; done) | (intro w hSw; (try dsimp only at hSw); go_simp; with_reducible rfl)
        (try simp only [Act.put, List.setIfInBounds_toArray, List.set_cons_zero, List.set_cons_succ])
        refine wpAnyH_take (i := 32) (oi := ?o100) (v := ?v100) ?hi100 ?hs100 ?hf100 ?hr100 ?hQ100 ?hy100 ?hS100 ?rest100
        case hi100 =>
          conv => lhs; whnf; arg 1; whnf
        case hs100 => kernel_rfl
        case hf100 => kernel_rfl
        case hr100 => kernel_rfl
        case hQ100 => exact fun _ _ _ h => h
        case hS100 => assumption
        case hy100 =>
          refine Or.inl ⟨by rfl, ?_⟩
          first | (intro w hSw; (try dsimp only at hSw); go_simp; done) | (intro w hSw; (try dsimp only at hSw); go_simp; with_reducible rfl)
        (try simp only [Act.put, List.setIfInBounds_toArray, List.set_cons_zero, List.set_cons_succ])
        refine wpAnyH_take (i := 33) (oi := ?o101) (v := ?v101) ?hi101 ?hs101 ?hf101 ?hr101 ?hQ101 ?hy101 ?hS101 ?rest101
        case hi101 =>
          conv => lhs; whnf; arg 1; whnf
        case hs101 => kernel_rfl
        case hf101 => kernel_rfl
        case hr101 => kernel_rfl
        case hQ101 => exact fun _ _ _ h => h
        case hS101 => assumption
        case hy101 =>
          refine Or.inl ⟨by rfl, ?_⟩
          first | (intro w hSw; (try dsimp only at hSw); go_simp; done) | (intro w hSw; (try dsimp only at hSw); go_simp; with_reducible rfl)
        (try simp only [Act.put, List.setIfInBounds_toArray, List.set_cons_zero, List.set_cons_succ])
        refine wpAnyH_done (by kernel_rfl) ?_ _
        obtain ⟨xa0, xa1, xb0, xb1, xc0, xc1, xd0, xd1, XB⟩ := hHeld
        go_wp2_with fail
        go_meet
        exact ⟨by first | rfl | simp_all, XB⟩
      · have f1 : decide (h * 18446744073709551616 + l < k * 18446744073709551616 + m) = false := decide_eq_false (by omega)
        have f2 : decide (k * 18446744073709551616 + m < h * 18446744073709551616 + l) = true := decide_eq_true (by omega)
        have g1 : ((h : Int) == (k : Int)) = true := by simp; omega
        have g2 : (h == k) = true := by simp; omega
        have g3 : decide (h = k) = true := decide_eq_true (by omega)
        have k1 : ((l : Int) == (m : Int)) = false := by simp; omega
        have k2 : (l == m) = false := by simp; omega
        have k3 : decide (l = m) = false := decide_eq_false (by omega)
        rw [f1] at P1
        rw [f2] at P2
        clear f1 f2 HK hl hm hk hq
        refine wp_region_held_drew (S := (fun w' => w'.cell? ⟨w.heap.size + 1, 0, none⟩ = some (.int .u64 h) ∧ w'.cell? ⟨w.heap.size + 1, 1, none⟩ = some (.int .u64 l) ∧ w'.cell? ⟨w.heap.size + 1 + 1, 0, none⟩ = some (.int .u64 k) ∧ w'.cell? ⟨w.heap.size + 1 + 1, 1, none⟩ = some (.int .u64 m) ∧ w'.cell? ⟨w4.heap.size, 0, none⟩ = some (.int .u64 u) ∧ w'.cell? ⟨w4.heap.size, 1, none⟩ = some (.int .u64 v) ∧ w'.cell? ⟨w5.heap.size, 0, none⟩ = some (.int .u64 u) ∧ w'.cell? ⟨w5.heap.size, 1, none⟩ = some (.int .u64 v) ∧ Below (w5.alloc (.cells #[.int .u64 u, .int .u64 v] 43)).heap.size (w5.alloc (.cells #[.int .u64 u, .int .u64 v] 43)) w')) (by kernel_rfl) ?_ (fun hHeld => ?_)
        · exact ⟨by go_simp, by go_simp, by go_simp, by go_simp, by go_simp, by go_simp, by go_simp, by go_simp, bel_drew BH0⟩
        refine wpAnyH_take (i := 0) (oi := ?o102) (v := ?v102) ?hi102 ?hs102 ?hf102 ?hr102 ?hQ102 ?hy102 ?hS102 ?rest102
        case hi102 =>
          conv => lhs; whnf; arg 1; whnf
        case hs102 => kernel_rfl
        case hf102 => kernel_rfl
        case hr102 => kernel_rfl
        case hQ102 => exact fun _ _ _ h => h
        case hS102 => assumption
        case hy102 =>
          refine Or.inl ⟨by rfl, ?_⟩
          first | (intro w hSw; (try dsimp only at hSw); go_simp; done) | (intro w hSw; (try dsimp only at hSw); go_simp; with_reducible rfl)
        (try simp only [Act.put, List.setIfInBounds_toArray, List.set_cons_zero, List.set_cons_succ])
        refine wpAnyH_take (i := 1) (oi := ?o103) (v := ?v103) ?hi103 ?hs103 ?hf103 ?hr103 ?hQ103 ?hy103 ?hS103 ?rest103
        case hi103 =>
          conv => lhs; whnf; arg 1; whnf
        case hs103 => kernel_rfl
        case hf103 => kernel_rfl
        case hr103 => kernel_rfl
        case hQ103 => exact fun _ _ _ h => h
        case hS103 => assumption
        case hy103 =>
          refine Or.inl ⟨by rfl, ?_⟩
          first | (intro w hSw; (try dsimp only at hSw); go_simp; done) | (intro w hSw; (try dsimp only at hSw); go_simp; with_reducible rfl)
        (try simp only [Act.put, List.setIfInBounds_toArray, List.set_cons_zero, List.set_cons_succ])
        refine wpAnyH_take (i := 2) (oi := ?o104) (v := ?v104) ?hi104 ?hs104 ?hf104 ?hr104 ?hQ104 ?hy104 ?hS104 ?rest104
        case hi104 =>
          conv => lhs; whnf; arg 1; whnf
        case hs104 => kernel_rfl
        case hf104 => kernel_rfl
        case hr104 => kernel_rfl
        case hQ104 => exact fun _ _ _ h => h
        case hS104 => assumption
        case hy104 =>
          refine Or.inl ⟨by rfl, ?_⟩
          first | (intro w hSw; (try dsimp only at hSw); go_simp; done) | (intro w hSw; (try dsimp only at hSw); go_simp; with_reducible rfl)
        (try simp only [Act.put, List.setIfInBounds_toArray, List.set_cons_zero, List.set_cons_succ])
        refine wpAnyH_take (i := 3) (oi := ?o105) (v := ?v105) ?hi105 ?hs105 ?hf105 ?hr105 ?hQ105 ?hy105 ?hS105 ?rest105
        case hi105 =>
          conv => lhs; whnf; arg 1; whnf
        case hs105 => kernel_rfl
        case hf105 => kernel_rfl
        case hr105 => kernel_rfl
        case hQ105 => exact fun _ _ _ h => h
        case hS105 => assumption
        case hy105 =>
          refine Or.inl ⟨by rfl, ?_⟩
          first | (intro w hSw; (try dsimp only at hSw); go_simp; done) | (intro w hSw; (try dsimp only at hSw); go_simp; with_reducible rfl)
        (try simp only [Act.put, List.setIfInBounds_toArray, List.set_cons_zero, List.set_cons_succ])
        refine wpAnyH_take (i := 4) (oi := ?o106) (v := ?v106) ?hi106 ?hs106 ?hf106 ?hr106 ?hQ106 ?hy106 ?hS106 ?rest106
        case hi106 =>
          conv => lhs; whnf; arg 1; whnf
        case hs106 => kernel_rfl
        case hf106 => kernel_rfl
        case hr106 => kernel_rfl
        case hQ106 => exact fun _ _ _ h => h
        case hS106 => assumption
        case hy106 =>
          refine Or.inl ⟨by rfl, ?_⟩
          first | (intro w hSw; (try dsimp only at hSw); go_simp; done) | (intro w hSw; (try dsimp only at hSw); go_simp; with_reducible rfl)
        (try simp only [Act.put, List.setIfInBounds_toArray, List.set_cons_zero, List.set_cons_succ])
        refine wpAnyH_take (i := 5) (oi := ?o107) (v := ?v107) ?hi107 ?hs107 ?hf107 ?hr107 ?hQ107 ?hy107 ?hS107 ?rest107
        case hi107 =>
          conv => lhs; whnf; arg 1; whnf
        case hs107 => kernel_rfl
        case hf107 => kernel_rfl
        case hr107 => kernel_rfl
        case hQ107 => exact fun _ _ _ h => h
        case hS107 => assumption
        case hy107 =>
          refine Or.inl ⟨by rfl, ?_⟩
          first | (intro w hSw; (try dsimp only at hSw); go_simp; done) | (intro w hSw; (try dsimp only at hSw); go_simp; with_reducible rfl)
        (try simp only [Act.put, List.setIfInBounds_toArray, List.set_cons_zero, List.set_cons_succ])
        refine wpAnyH_take (i := 6) (oi := ?o108) (v := ?v108) ?hi108 ?hs108 ?hf108 ?hr108 ?hQ108 ?hy108 ?hS108 ?rest108
        case hi108 =>
          conv => lhs; whnf; arg 1; whnf
        case hs108 => kernel_rfl
        case hf108 => kernel_rfl
        case hr108 => kernel_rfl
        case hQ108 => exact fun _ _ _ h => h
        case hS108 => assumption
        case hy108 =>
          refine Or.inl ⟨by rfl, ?_⟩
          first | (intro w hSw; (try dsimp only at hSw); go_simp; done) | (intro w hSw; (try dsimp only at hSw); go_simp; with_reducible rfl)
        (try simp only [Act.put, List.setIfInBounds_toArray, List.set_cons_zero, List.set_cons_succ])
        refine wpAnyH_take (i := 7) (oi := ?o109) (v := ?v109) ?hi109 ?hs109 ?hf109 ?hr109 ?hQ109 ?hy109 ?hS109 ?rest109
        case hi109 =>
          conv => lhs; whnf; arg 1; whnf
        case hs109 => kernel_rfl
        case hf109 => kernel_rfl
        case hr109 => kernel_rfl
        case hQ109 => exact fun _ _ _ h => h
        case hS109 => assumption
        case hy109 =>
          refine Or.inl ⟨by rfl, ?_⟩
          first | (intro w hSw; (try dsimp only at hSw); go_simp; done) | (intro w hSw; (try dsimp only at hSw); go_simp; with_reducible rfl)
        (try simp only [Act.put, List.setIfInBounds_toArray, List.set_cons_zero, List.set_cons_succ])
        refine wpAnyH_take (i := 8) (oi := ?o110) (v := ?v110) ?hi110 ?hs110 ?hf110 ?hr110 ?hQ110 ?hy110 ?hS110 ?rest110
        case hi110 =>
          conv => lhs; whnf; arg 1; whnf
        case hs110 => kernel_rfl
        case hf110 => kernel_rfl
        case hr110 => kernel_rfl
        case hQ110 => exact fun _ _ _ h => h
        case hS110 => assumption
        case hy110 =>
          refine Or.inl ⟨by rfl, ?_⟩
          first | (intro w hSw; (try dsimp only at hSw); go_simp; done) | (intro w hSw; (try dsimp only at hSw); go_simp; with_reducible rfl)
        (try simp only [Act.put, List.setIfInBounds_toArray, List.set_cons_zero, List.set_cons_succ])
        refine wpAnyH_take (i := 9) (oi := ?o111) (v := ?v111) ?hi111 ?hs111 ?hf111 ?hr111 ?hQ111 ?hy111 ?hS111 ?rest111
        case hi111 =>
          conv => lhs; whnf; arg 1; whnf
        case hs111 => kernel_rfl
        case hf111 => kernel_rfl
        case hr111 => kernel_rfl
        case hQ111 => exact fun _ _ _ h => h
        case hS111 => assumption
        case hy111 =>
          refine Or.inl ⟨by rfl, ?_⟩
          first | (intro w hSw; (try dsimp only at hSw); go_simp; done) | (intro w hSw; (try dsimp only at hSw); go_simp; with_reducible rfl)
        (try simp only [Act.put, List.setIfInBounds_toArray, List.set_cons_zero, List.set_cons_succ])
        refine wpAnyH_take (i := 10) (oi := ?o112) (v := ?v112) ?hi112 ?hs112 ?hf112 ?hr112 ?hQ112 ?hy112 ?hS112 ?rest112
        case hi112 =>
          conv => lhs; whnf; arg 1; whnf
        case hs112 => kernel_rfl
        case hf112 => kernel_rfl
        case hr112 => kernel_rfl
        case hQ112 => exact fun _ _ _ h => h
        case hS112 => assumption
        case hy112 =>
          refine Or.inl ⟨by rfl, ?_⟩
          first | (intro w hSw; (try dsimp only at hSw); go_simp; done) | (intro w hSw; (try dsimp only at hSw); go_simp; with_reducible rfl)
        (try simp only [Act.put, List.setIfInBounds_toArray, List.set_cons_zero, List.set_cons_succ])
        have hH := hHeld
        obtain ⟨xa0, xa1, xb0, xb1, xc0, xc1, xd0, xd1, XB⟩ := hH
        refine wpAnyH_ready (rs := [11]) (by kernel_rfl) (by simp) ?_
        refine AllReadyH.cons (o := ?o113) ?hi113 (fun K hK => ?rest113) AllReadyH.nil
        case hi113 =>
          conv => lhs; whnf; arg 1; whnf
        go_simp
        refine (P1.out _).mono ?_
        rintro e w9 ⟨rfl, b9⟩
        go_wp2_with fail
        refine hK.out _ _ ?_ (fun hHeld => ?_)
        · exact ⟨(b9.cell (p := ⟨w.heap.size + 1, 0, none⟩) (Nat.lt_of_lt_of_le (by first | (simp; done) | (simp; omega)) XB.size)).trans xa0, (b9.cell (p := ⟨w.heap.size + 1, 1, none⟩) (Nat.lt_of_lt_of_le (by first | (simp; done) | (simp; omega)) XB.size)).trans xa1, (b9.cell (p := ⟨w.heap.size + 1 + 1, 0, none⟩) (Nat.lt_of_lt_of_le (by first | (simp; done) | (simp; omega)) XB.size)).trans xb0, (b9.cell (p := ⟨w.heap.size + 1 + 1, 1, none⟩) (Nat.lt_of_lt_of_le (by first | (simp; done) | (simp; omega)) XB.size)).trans xb1, (b9.cell (p := ⟨w4.heap.size, 0, none⟩) (Nat.lt_of_lt_of_le (by first | (simp; done) | (simp; omega)) XB.size)).trans xc0, (b9.cell (p := ⟨w4.heap.size, 1, none⟩) (Nat.lt_of_lt_of_le (by first | (simp; done) | (simp; omega)) XB.size)).trans xc1, (b9.cell (p := ⟨w5.heap.size, 0, none⟩) (Nat.lt_of_lt_of_le (by first | (simp; done) | (simp; omega)) XB.size)).trans xd0, (b9.cell (p := ⟨w5.heap.size, 1, none⟩) (Nat.lt_of_lt_of_le (by first | (simp; done) | (simp; omega)) XB.size)).trans xd1, bel_end XB b9⟩
        clear hK K xa0 xa1 xb0 xb1 xc0 xc1 xd0 xd1 XB b9
        (try simp only [Act.put, List.setIfInBounds_toArray, List.set_cons_zero, List.set_cons_succ])
        refine wpAnyH_take (i := 12) (oi := ?o114) (v := ?v114) ?hi114 ?hs114 ?hf114 ?hr114 ?hQ114 ?hy114 ?hS114 ?rest114
        case hi114 =>
          conv => lhs; whnf; arg 1; whnf
        case hs114 => kernel_rfl
        case hf114 => kernel_rfl
        case hr114 => kernel_rfl
        case hQ114 => exact fun _ _ _ h => h
        case hS114 => assumption
        case hy114 =>
          refine Or.inl ⟨by rfl, ?_⟩
          first | (intro w hSw; (try dsimp only at hSw); go_simp; done) | (intro w hSw; (try dsimp only at hSw); go_simp; with_reducible rfl)
        (try simp only [Act.put, List.setIfInBounds_toArray, List.set_cons_zero, List.set_cons_succ])
        refine wpAnyH_take (i := 13) (oi := ?o115) (v := undef) ?hi115 ?hs115 ?hf115 ?hr115 ?hQ115 ?hy115 ?hS115 ?rest115
        case hi115 =>
          conv => lhs; whnf; arg 1; whnf
        case hs115 => kernel_rfl
        case hf115 => kernel_rfl
        case hr115 => kernel_rfl
        case hQ115 => exact fun _ _ _ h => h
        case hS115 => assumption
        case hy115 =>
          exact Or.inr ⟨by rfl, rfl⟩
        (try simp only [Act.put, List.setIfInBounds_toArray, List.set_cons_zero, List.set_cons_succ])
        refine wpAnyH_take (i := 14) (oi := ?o116) (v := undef) ?hi116 ?hs116 ?hf116 ?hr116 ?hQ116 ?hy116 ?hS116 ?rest116
        case hi116 =>
          conv => lhs; whnf; arg 1; whnf
        case hs116 => kernel_rfl
        case hf116 => kernel_rfl
        case hr116 => kernel_rfl
        case hQ116 => exact fun _ _ _ h => h
        case hS116 => assumption
        case hy116 =>
          exact Or.inr ⟨by rfl, rfl⟩
        (try simp only [Act.put, List.setIfInBounds_toArray, List.set_cons_zero, List.set_cons_succ])
        refine wpAnyH_take (i := 15) (oi := ?o117) (v := undef) ?hi117 ?hs117 ?hf117 ?hr117 ?hQ117 ?hy117 ?hS117 ?rest117
        case hi117 =>
          conv => lhs; whnf; arg 1; whnf
        case hs117 => kernel_rfl
        case hf117 => kernel_rfl
        case hr117 => kernel_rfl
        case hQ117 => exact fun _ _ _ h => h
        case hS117 => assumption
        case hy117 =>
          exact Or.inr ⟨by rfl, rfl⟩
        (try simp only [Act.put, List.setIfInBounds_toArray, List.set_cons_zero, List.set_cons_succ])
        refine wpAnyH_take (i := 16) (oi := ?o118) (v := ?v118) ?hi118 ?hs118 ?hf118 ?hr118 ?hQ118 ?hy118 ?hS118 ?rest118
        case hi118 =>
          conv => lhs; whnf; arg 1; whnf
        case hs118 => kernel_rfl
        case hf118 => kernel_rfl
        case hr118 => kernel_rfl
        case hQ118 => exact fun _ _ _ h => h
        case hS118 => assumption
        case hy118 =>
          refine Or.inl ⟨by rfl, ?_⟩
          first | (intro w hSw; (try dsimp only at hSw); go_simp; done) | (intro w hSw; (try dsimp only at hSw); go_simp; with_reducible rfl)
        (try simp only [Act.put, List.setIfInBounds_toArray, List.set_cons_zero, List.set_cons_succ])
        refine wpAnyH_take (i := 17) (oi := ?o119) (v := ?v119) ?hi119 ?hs119 ?hf119 ?hr119 ?hQ119 ?hy119 ?hS119 ?rest119
        case hi119 =>
          conv => lhs; whnf; arg 1; whnf
        case hs119 => kernel_rfl
        case hf119 => kernel_rfl
        case hr119 => kernel_rfl
        case hQ119 => exact fun _ _ _ h => h
        case hS119 => assumption
        case hy119 =>
          refine Or.inl ⟨by rfl, ?_⟩
          first | (intro w hSw; (try dsimp only at hSw); go_simp; done) | (intro w hSw; (try dsimp only at hSw); go_simp; with_reducible rfl)
        (try simp only [Act.put, List.setIfInBounds_toArray, List.set_cons_zero, List.set_cons_succ])
        refine wpAnyH_take (i := 18) (oi := ?o120) (v := ?v120) ?hi120 ?hs120 ?hf120 ?hr120 ?hQ120 ?hy120 ?hS120 ?rest120
        case hi120 =>
          conv => lhs; whnf; arg 1; whnf
        case hs120 => kernel_rfl
        case hf120 => kernel_rfl
        case hr120 => kernel_rfl
        case hQ120 => exact fun _ _ _ h => h
        case hS120 => assumption
        case hy120 =>
          refine Or.inl ⟨by rfl, ?_⟩
          first | (intro w hSw; (try dsimp only at hSw); go_simp; done) | (intro w hSw; (try dsimp only at hSw); go_simp; with_reducible rfl)
        (try simp only [Act.put, List.setIfInBounds_toArray, List.set_cons_zero, List.set_cons_succ])
        refine wpAnyH_take (i := 19) (oi := ?o121) (v := ?v121) ?hi121 ?hs121 ?hf121 ?hr121 ?hQ121 ?hy121 ?hS121 ?rest121
        case hi121 =>
          conv => lhs; whnf; arg 1; whnf
        case hs121 => kernel_rfl
        case hf121 => kernel_rfl
        case hr121 => kernel_rfl
        case hQ121 => exact fun _ _ _ h => h
        case hS121 => assumption
        case hy121 =>
          refine Or.inl ⟨by rfl, ?_⟩
          first | (intro w hSw; (try dsimp only at hSw); go_simp; done) | (intro w hSw; (try dsimp only at hSw); go_simp; with_reducible rfl)
        (try simp only [Act.put, List.setIfInBounds_toArray, List.set_cons_zero, List.set_cons_succ])
        refine wpAnyH_take (i := 20) (oi := ?o122) (v := ?v122) ?hi122 ?hs122 ?hf122 ?hr122 ?hQ122 ?hy122 ?hS122 ?rest122
        case hi122 =>
          conv => lhs; whnf; arg 1; whnf
        case hs122 => kernel_rfl
        case hf122 => kernel_rfl
        case hr122 => kernel_rfl
        case hQ122 => exact fun _ _ _ h => h
        case hS122 => assumption
        case hy122 =>
          refine Or.inl ⟨by rfl, ?_⟩
          first | (intro w hSw; (try dsimp only at hSw); go_simp; done) | (intro w hSw; (try dsimp only at hSw); go_simp; with_reducible rfl)
        (try simp only [Act.put, List.setIfInBounds_toArray, List.set_cons_zero, List.set_cons_succ])
        refine wpAnyH_take (i := 21) (oi := ?o123) (v := ?v123) ?hi123 ?hs123 ?hf123 ?hr123 ?hQ123 ?hy123 ?hS123 ?rest123
        case hi123 =>
          conv => lhs; whnf; arg 1; whnf
        case hs123 => kernel_rfl
        case hf123 => kernel_rfl
        case hr123 => kernel_rfl
        case hQ123 => exact fun _ _ _ h => h
        case hS123 => assumption
        case hy123 =>
          refine Or.inl ⟨by rfl, ?_⟩
          first | (intro w hSw; (try dsimp only at hSw); go_simp; done) | (intro w hSw; (try dsimp only at hSw); go_simp; with_reducible rfl)
        (try simp only [Act.put, List.setIfInBounds_toArray, List.set_cons_zero, List.set_cons_succ])
        refine wpAnyH_take (i := 22) (oi := ?o124) (v := ?v124) ?hi124 ?hs124 ?hf124 ?hr124 ?hQ124 ?hy124 ?hS124 ?rest124
        case hi124 =>
          conv => lhs; whnf; arg 1; whnf
        case hs124 => kernel_rfl
        case hf124 => kernel_rfl
        case hr124 => kernel_rfl
        case hQ124 => exact fun _ _ _ h => h
        case hS124 => assumption
        case hy124 =>
          refine Or.inl ⟨by rfl, ?_⟩
          first | (intro w hSw; (try dsimp only at hSw); go_simp; done) | (intro w hSw; (try dsimp only at hSw); go_simp; with_reducible rfl)
        (try simp only [Act.put, List.setIfInBounds_toArray, List.set_cons_zero, List.set_cons_succ])
        refine wpAnyH_take (i := 23) (oi := ?o125) (v := ?v125) ?hi125 ?hs125 ?hf125 ?hr125 ?hQ125 ?hy125 ?hS125 ?rest125
        case hi125 =>
          conv => lhs; whnf; arg 1; whnf
        case hs125 => kernel_rfl
        case hf125 => kernel_rfl
        case hr125 => kernel_rfl
        case hQ125 => exact fun _ _ _ h => h
        case hS125 => assumption
        case hy125 =>
          refine Or.inl ⟨by rfl, ?_⟩
          first | (intro w hSw; (try dsimp only at hSw); go_simp; done) | (intro w hSw; (try dsimp only at hSw); go_simp; with_reducible rfl)
        (try simp only [Act.put, List.setIfInBounds_toArray, List.set_cons_zero, List.set_cons_succ])
        have hH := hHeld
        obtain ⟨xa0, xa1, xb0, xb1, xc0, xc1, xd0, xd1, XB⟩ := hH
        refine wpAnyH_ready (rs := [24]) (by kernel_rfl) (by simp) ?_
        refine AllReadyH.cons (o := ?o126) ?hi126 (fun K hK => ?rest126) AllReadyH.nil
        case hi126 =>
          conv => lhs; whnf; arg 1; whnf
        go_simp
        refine (P1.out _).mono ?_
        rintro e w9 ⟨rfl, b9⟩
        go_wp2_with fail
        refine hK.out _ _ ?_ (fun hHeld => ?_)
        · exact ⟨(b9.cell (p := ⟨w.heap.size + 1, 0, none⟩) (Nat.lt_of_lt_of_le (by first | (simp; done) | (simp; omega)) XB.size)).trans xa0, (b9.cell (p := ⟨w.heap.size + 1, 1, none⟩) (Nat.lt_of_lt_of_le (by first | (simp; done) | (simp; omega)) XB.size)).trans xa1, (b9.cell (p := ⟨w.heap.size + 1 + 1, 0, none⟩) (Nat.lt_of_lt_of_le (by first | (simp; done) | (simp; omega)) XB.size)).trans xb0, (b9.cell (p := ⟨w.heap.size + 1 + 1, 1, none⟩) (Nat.lt_of_lt_of_le (by first | (simp; done) | (simp; omega)) XB.size)).trans xb1, (b9.cell (p := ⟨w4.heap.size, 0, none⟩) (Nat.lt_of_lt_of_le (by first | (simp; done) | (simp; omega)) XB.size)).trans xc0, (b9.cell (p := ⟨w4.heap.size, 1, none⟩) (Nat.lt_of_lt_of_le (by first | (simp; done) | (simp; omega)) XB.size)).trans xc1, (b9.cell (p := ⟨w5.heap.size, 0, none⟩) (Nat.lt_of_lt_of_le (by first | (simp; done) | (simp; omega)) XB.size)).trans xd0, (b9.cell (p := ⟨w5.heap.size, 1, none⟩) (Nat.lt_of_lt_of_le (by first | (simp; done) | (simp; omega)) XB.size)).trans xd1, bel_end XB b9⟩
        clear hK K xa0 xa1 xb0 xb1 xc0 xc1 xd0 xd1 XB b9
        (try simp only [Act.put, List.setIfInBounds_toArray, List.set_cons_zero, List.set_cons_succ])
        refine wpAnyH_take (i := 25) (oi := ?o127) (v := ?v127) ?hi127 ?hs127 ?hf127 ?hr127 ?hQ127 ?hy127 ?hS127 ?rest127
        case hi127 =>
          conv => lhs; whnf; arg 1; whnf
        case hs127 => kernel_rfl
        case hf127 => kernel_rfl
        case hr127 => kernel_rfl
        case hQ127 => exact fun _ _ _ h => h
        case hS127 => assumption
        case hy127 =>
          refine Or.inl ⟨by rfl, ?_⟩
          first | (intro w hSw; (try dsimp only at hSw); go_simp; done) | (intro w hSw; (try dsimp only at hSw); go_simp; with_reducible rfl)
        (try simp only [Act.put, List.setIfInBounds_toArray, List.set_cons_zero, List.set_cons_succ])
        refine wpAnyH_take (i := 26) (oi := ?o128) (v := ?v128) ?hi128 ?hs128 ?hf128 ?hr128 ?hQ128 ?hy128 ?hS128 ?rest128
        case hi128 =>
          conv => lhs; whnf; arg 1; whnf
        case hs128 => kernel_rfl
        case hf128 => kernel_rfl
        case hr128 => kernel_rfl
        case hQ128 => exact fun _ _ _ h => h
        case hS128 => assumption
        case hy128 =>
          refine Or.inl ⟨by rfl, ?_⟩
          first | (intro w hSw; (try dsimp only at hSw); go_simp; done) | (intro w hSw; (try dsimp only at hSw); go_simp; with_reducible rfl)
        (try simp only [Act.put, List.setIfInBounds_toArray, List.set_cons_zero, List.set_cons_succ])
        refine wpAnyH_take (i := 27) (oi := ?o129) (v := ?v129) ?hi129 ?hs129 ?hf129 ?hr129 ?hQ129 ?hy129 ?hS129 ?rest129
        case hi129 =>
          conv => lhs; whnf; arg 1; whnf
        case hs129 => kernel_rfl
        case hf129 => kernel_rfl
        case hr129 => kernel_rfl
        case hQ129 => exact fun _ _ _ h => h
        case hS129 => assumption
        case hy129 =>
          refine Or.inl ⟨by rfl, ?_⟩
          first | (intro w hSw; (try dsimp only at hSw); go_simp; done) | (intro w hSw; (try dsimp only at hSw); go_simp; with_reducible rfl)
        (try simp only [Act.put, List.setIfInBounds_toArray, List.set_cons_zero, List.set_cons_succ])
        refine wpAnyH_take (i := 28) (oi := ?o130) (v := ?v130) ?hi130 ?hs130 ?hf130 ?hr130 ?hQ130 ?hy130 ?hS130 ?rest130
        case hi130 =>
          conv => lhs; whnf; arg 1; whnf
        case hs130 => kernel_rfl
        case hf130 => kernel_rfl
        case hr130 => kernel_rfl
        case hQ130 => exact fun _ _ _ h => h
        case hS130 => assumption
        case hy130 =>
          refine Or.inl ⟨by rfl, ?_⟩
          first | (intro w hSw; (try dsimp only at hSw); go_simp; done) | (intro w hSw; (try dsimp only at hSw); go_simp; with_reducible rfl)
        (try simp only [Act.put, List.setIfInBounds_toArray, List.set_cons_zero, List.set_cons_succ])
        have hH := hHeld
        obtain ⟨xa0, xa1, xb0, xb1, xc0, xc1, xd0, xd1, XB⟩ := hH
        refine wpAnyH_ready (rs := [29]) (by kernel_rfl) (by simp) ?_
        refine AllReadyH.cons (o := ?o131) ?hi131 (fun K hK => ?rest131) AllReadyH.nil
        case hi131 =>
          conv => lhs; whnf; arg 1; whnf
        go_simp
        refine (P2.out _).mono ?_
        rintro e w9 ⟨rfl, b9⟩
        go_wp2_with fail
        refine hK.out _ _ ?_ (fun hHeld => ?_)
        · exact ⟨(b9.cell (p := ⟨w.heap.size + 1, 0, none⟩) (Nat.lt_of_lt_of_le (by first | (simp; done) | (simp; omega)) XB.size)).trans xa0, (b9.cell (p := ⟨w.heap.size + 1, 1, none⟩) (Nat.lt_of_lt_of_le (by first | (simp; done) | (simp; omega)) XB.size)).trans xa1, (b9.cell (p := ⟨w.heap.size + 1 + 1, 0, none⟩) (Nat.lt_of_lt_of_le (by first | (simp; done) | (simp; omega)) XB.size)).trans xb0, (b9.cell (p := ⟨w.heap.size + 1 + 1, 1, none⟩) (Nat.lt_of_lt_of_le (by first | (simp; done) | (simp; omega)) XB.size)).trans xb1, (b9.cell (p := ⟨w4.heap.size, 0, none⟩) (Nat.lt_of_lt_of_le (by first | (simp; done) | (simp; omega)) XB.size)).trans xc0, (b9.cell (p := ⟨w4.heap.size, 1, none⟩) (Nat.lt_of_lt_of_le (by first | (simp; done) | (simp; omega)) XB.size)).trans xc1, (b9.cell (p := ⟨w5.heap.size, 0, none⟩) (Nat.lt_of_lt_of_le (by first | (simp; done) | (simp; omega)) XB.size)).trans xd0, (b9.cell (p := ⟨w5.heap.size, 1, none⟩) (Nat.lt_of_lt_of_le (by first | (simp; done) | (simp; omega)) XB.size)).trans xd1, bel_end XB b9⟩
        clear hK K xa0 xa1 xb0 xb1 xc0 xc1 xd0 xd1 XB b9
        (try simp only [Act.put, List.setIfInBounds_toArray, List.set_cons_zero, List.set_cons_succ])
        refine wpAnyH_take (i := 30) (oi := ?o132) (v := ?v132) ?hi132 ?hs132 ?hf132 ?hr132 ?hQ132 ?hy132 ?hS132 ?rest132
        case hi132 =>
          conv => lhs; whnf; arg 1; whnf
        case hs132 => kernel_rfl
        case hf132 => kernel_rfl
        case hr132 => kernel_rfl
        case hQ132 => exact fun _ _ _ h => h
        case hS132 => assumption
        case hy132 =>
          refine Or.inl ⟨by rfl, ?_⟩
          first | (intro w hSw; (try dsimp only at hSw); go_simp; done) | (intro w hSw; (try dsimp only at hSw); go_simp; with_reducible rfl)
        (try simp only [Act.put, List.setIfInBounds_toArray, List.set_cons_zero, List.set_cons_succ])
        refine wpAnyH_take (i := 31) (oi := ?o133) (v := ?v133) ?hi133 ?hs133 ?hf133 ?hr133 ?hQ133 ?hy133 ?hS133 ?rest133
        case hi133 =>
          conv => lhs; whnf; arg 1; whnf
        case hs133 => kernel_rfl
        case hf133 => kernel_rfl
        case hr133 => kernel_rfl
        case hQ133 => exact fun _ _ _ h => h
        case hS133 => assumption
        case hy133 =>
          refine Or.inl ⟨by rfl, ?_⟩
          first | (intro w hSw; (try dsimp only at hSw); go_simp; done) | (intro w hSw; (try dsimp only at hSw); go_simp; with_reducible rfl)
        (try simp only [Act.put, List.setIfInBounds_toArray, List.set_cons_zero, List.set_cons_succ])
        refine wpAnyH_take (i := 32) (oi := ?o134) (v := ?v134) ?hi134 ?hs134 ?hf134 ?hr134 ?hQ134 ?hy134 ?hS134 ?rest134
        case hi134 =>
          conv => lhs; whnf; arg 1; whnf
        case hs134 => kernel_rfl
        case hf134 => kernel_rfl
        case hr134 => kernel_rfl
        case hQ134 => exact fun _ _ _ h => h
        case hS134 => assumption
        case hy134 =>
          refine Or.inl ⟨by rfl, ?_⟩
          first | (intro w hSw; (try dsimp only at hSw); go_simp; done) | (intro w hSw; (try dsimp only at hSw); go_simp; with_reducible rfl)
        (try simp only [Act.put, List.setIfInBounds_toArray, List.set_cons_zero, List.set_cons_succ])
        refine wpAnyH_take (i := 33) (oi := ?o135) (v := ?v135) ?hi135 ?hs135 ?hf135 ?hr135 ?hQ135 ?hy135 ?hS135 ?rest135
        case hi135 =>
          conv => lhs; whnf; arg 1; whnf
        case hs135 => kernel_rfl
        case hf135 => kernel_rfl
        case hr135 => kernel_rfl
        case hQ135 => exact fun _ _ _ h => h
        case hS135 => assumption
        case hy135 =>
          refine Or.inl ⟨by rfl, ?_⟩
          first | (intro w hSw; (try dsimp only at hSw); go_simp; done) | (intro w hSw; (try dsimp only at hSw); go_simp; with_reducible rfl)
        (try simp only [Act.put, List.setIfInBounds_toArray, List.set_cons_zero, List.set_cons_succ])
        refine wpAnyH_done (by kernel_rfl) ?_ _
        obtain ⟨xa0, xa1, xb0, xb1, xc0, xc1, xd0, xd1, XB⟩ := hHeld
        go_wp2_with fail
        go_meet
        exact ⟨by first | rfl | simp_all, XB⟩
    · have f1 : decide (h * 18446744073709551616 + l < k * 18446744073709551616 + m) = false := decide_eq_false (by omega)
      have f2 : decide (k * 18446744073709551616 + m < h * 18446744073709551616 + l) = true := decide_eq_true (by omega)
      have g1 : ((h : Int) == (k : Int)) = false := by simp; omega
      have g2 : (h == k) = false := by simp; omega
      have g3 : decide (h = k) = false := decide_eq_false (by omega)
      rw [f1] at P1
      rw [f2] at P2
      clear f1 f2 HK hl hm hk
      refine wp_region_held_drew (S := (fun w' => w'.cell? ⟨w.heap.size + 1, 0, none⟩ = some (.int .u64 h) ∧ w'.cell? ⟨w.heap.size + 1, 1, none⟩ = some (.int .u64 l) ∧ w'.cell? ⟨w.heap.size + 1 + 1, 0, none⟩ = some (.int .u64 k) ∧ w'.cell? ⟨w.heap.size + 1 + 1, 1, none⟩ = some (.int .u64 m) ∧ w'.cell? ⟨w4.heap.size, 0, none⟩ = some (.int .u64 u) ∧ w'.cell? ⟨w4.heap.size, 1, none⟩ = some (.int .u64 v) ∧ w'.cell? ⟨w5.heap.size, 0, none⟩ = some (.int .u64 u) ∧ w'.cell? ⟨w5.heap.size, 1, none⟩ = some (.int .u64 v) ∧ Below (w5.alloc (.cells #[.int .u64 u, .int .u64 v] 43)).heap.size (w5.alloc (.cells #[.int .u64 u, .int .u64 v] 43)) w')) (by kernel_rfl) ?_ (fun hHeld => ?_)
      · exact ⟨by go_simp, by go_simp, by go_simp, by go_simp, by go_simp, by go_simp, by go_simp, by go_simp, bel_drew BH0⟩
      refine wpAnyH_take (i := 0) (oi := ?o136) (v := ?v136) ?hi136 ?hs136 ?hf136 ?hr136 ?hQ136 ?hy136 ?hS136 ?rest136
      case hi136 =>
        conv => lhs; whnf; arg 1; whnf
      case hs136 => kernel_rfl
      case hf136 => kernel_rfl
      case hr136 => kernel_rfl
      case hQ136 => exact fun _ _ _ h => h
      case hS136 => assumption
      case hy136 =>
        refine Or.inl ⟨by rfl, ?_⟩
        first | (intro w hSw; (try dsimp only at hSw); go_simp; done) | (intro w hSw; (try dsimp only at hSw); go_simp; with_reducible rfl)
      (try simp only [Act.put, List.setIfInBounds_toArray, List.set_cons_zero, List.set_cons_succ])
      refine wpAnyH_take (i := 1) (oi := ?o137) (v := ?v137) ?hi137 ?hs137 ?hf137 ?hr137 ?hQ137 ?hy137 ?hS137 ?rest137
      case hi137 =>
        conv => lhs; whnf; arg 1; whnf
      case hs137 => kernel_rfl
      case hf137 => kernel_rfl
      case hr137 => kernel_rfl
      case hQ137 => exact fun _ _ _ h => h
      case hS137 => assumption
      case hy137 =>
        refine Or.inl ⟨by rfl, ?_⟩
        first | (intro w hSw; (try dsimp only at hSw); go_simp; done) | (intro w hSw; (try dsimp only at hSw); go_simp; with_reducible rfl)
      (try simp only [Act.put, List.setIfInBounds_toArray, List.set_cons_zero, List.set_cons_succ])
      refine wpAnyH_take (i := 2) (oi := ?o138) (v := ?v138) ?hi138 ?hs138 ?hf138 ?hr138 ?hQ138 ?hy138 ?hS138 ?rest138
      case hi138 =>
        conv => lhs; whnf; arg 1; whnf
      case hs138 => kernel_rfl
      case hf138 => kernel_rfl
      case hr138 => kernel_rfl
      case hQ138 => exact fun _ _ _ h => h
      case hS138 => assumption
      case hy138 =>
        refine Or.inl ⟨by rfl, ?_⟩
        first | (intro w hSw; (try dsimp only at hSw); go_simp; done) | (intro w hSw; (try dsimp only at hSw); go_simp; with_reducible rfl)
      (try simp only [Act.put, List.setIfInBounds_toArray, List.set_cons_zero, List.set_cons_succ])
      refine wpAnyH_take (i := 3) (oi := ?o139) (v := ?v139) ?hi139 ?hs139 ?hf139 ?hr139 ?hQ139 ?hy139 ?hS139 ?rest139
      case hi139 =>
        conv => lhs; whnf; arg 1; whnf
      case hs139 => kernel_rfl
      case hf139 => kernel_rfl
      case hr139 => kernel_rfl
      case hQ139 => exact fun _ _ _ h => h
      case hS139 => assumption
      case hy139 =>
        refine Or.inl ⟨by rfl, ?_⟩
        first | (intro w hSw; (try dsimp only at hSw); go_simp; done) | (intro w hSw; (try dsimp only at hSw); go_simp; with_reducible rfl)
      (try simp only [Act.put, List.setIfInBounds_toArray, List.set_cons_zero, List.set_cons_succ])
      refine wpAnyH_take (i := 4) (oi := ?o140) (v := ?v140) ?hi140 ?hs140 ?hf140 ?hr140 ?hQ140 ?hy140 ?hS140 ?rest140
      case hi140 =>
        conv => lhs; whnf; arg 1; whnf
      case hs140 => kernel_rfl
      case hf140 => kernel_rfl
      case hr140 => kernel_rfl
      case hQ140 => exact fun _ _ _ h => h
      case hS140 => assumption
      case hy140 =>
        refine Or.inl ⟨by rfl, ?_⟩
        first | (intro w hSw; (try dsimp only at hSw); go_simp; done) | (intro w hSw; (try dsimp only at hSw); go_simp; with_reducible rfl)
      (try simp only [Act.put, List.setIfInBounds_toArray, List.set_cons_zero, List.set_cons_succ])
      refine wpAnyH_take (i := 5) (oi := ?o141) (v := ?v141) ?hi141 ?hs141 ?hf141 ?hr141 ?hQ141 ?hy141 ?hS141 ?rest141
      case hi141 =>
        conv => lhs; whnf; arg 1; whnf
      case hs141 => kernel_rfl
      case hf141 => kernel_rfl
      case hr141 => kernel_rfl
      case hQ141 => exact fun _ _ _ h => h
      case hS141 => assumption
      case hy141 =>
        refine Or.inl ⟨by rfl, ?_⟩
        first | (intro w hSw; (try dsimp only at hSw); go_simp; done) | (intro w hSw; (try dsimp only at hSw); go_simp; with_reducible rfl)
      (try simp only [Act.put, List.setIfInBounds_toArray, List.set_cons_zero, List.set_cons_succ])
      refine wpAnyH_take (i := 6) (oi := ?o142) (v := ?v142) ?hi142 ?hs142 ?hf142 ?hr142 ?hQ142 ?hy142 ?hS142 ?rest142
      case hi142 =>
        conv => lhs; whnf; arg 1; whnf
      case hs142 => kernel_rfl
      case hf142 => kernel_rfl
      case hr142 => kernel_rfl
      case hQ142 => exact fun _ _ _ h => h
      case hS142 => assumption
      case hy142 =>
        refine Or.inl ⟨by rfl, ?_⟩
        first | (intro w hSw; (try dsimp only at hSw); go_simp; done) | (intro w hSw; (try dsimp only at hSw); go_simp; with_reducible rfl)
      (try simp only [Act.put, List.setIfInBounds_toArray, List.set_cons_zero, List.set_cons_succ])
      refine wpAnyH_take (i := 7) (oi := ?o143) (v := ?v143) ?hi143 ?hs143 ?hf143 ?hr143 ?hQ143 ?hy143 ?hS143 ?rest143
      case hi143 =>
        conv => lhs; whnf; arg 1; whnf
      case hs143 => kernel_rfl
      case hf143 => kernel_rfl
      case hr143 => kernel_rfl
      case hQ143 => exact fun _ _ _ h => h
      case hS143 => assumption
      case hy143 =>
        refine Or.inl ⟨by rfl, ?_⟩
        first | (intro w hSw; (try dsimp only at hSw); go_simp; done) | (intro w hSw; (try dsimp only at hSw); go_simp; with_reducible rfl)
      (try simp only [Act.put, List.setIfInBounds_toArray, List.set_cons_zero, List.set_cons_succ])
      refine wpAnyH_take (i := 8) (oi := ?o144) (v := ?v144) ?hi144 ?hs144 ?hf144 ?hr144 ?hQ144 ?hy144 ?hS144 ?rest144
      case hi144 =>
        conv => lhs; whnf; arg 1; whnf
      case hs144 => kernel_rfl
      case hf144 => kernel_rfl
      case hr144 => kernel_rfl
      case hQ144 => exact fun _ _ _ h => h
      case hS144 => assumption
      case hy144 =>
        refine Or.inl ⟨by rfl, ?_⟩
        first | (intro w hSw; (try dsimp only at hSw); go_simp; done) | (intro w hSw; (try dsimp only at hSw); go_simp; with_reducible rfl)
      (try simp only [Act.put, List.setIfInBounds_toArray, List.set_cons_zero, List.set_cons_succ])
      refine wpAnyH_take (i := 9) (oi := ?o145) (v := ?v145) ?hi145 ?hs145 ?hf145 ?hr145 ?hQ145 ?hy145 ?hS145 ?rest145
      case hi145 =>
        conv => lhs; whnf; arg 1; whnf
      case hs145 => kernel_rfl
      case hf145 => kernel_rfl
      case hr145 => kernel_rfl
      case hQ145 => exact fun _ _ _ h => h
      case hS145 => assumption
      case hy145 =>
        refine Or.inl ⟨by rfl, ?_⟩
        first | (intro w hSw; (try dsimp only at hSw); go_simp; done) | (intro w hSw; (try dsimp only at hSw); go_simp; with_reducible rfl)
      (try simp only [Act.put, List.setIfInBounds_toArray, List.set_cons_zero, List.set_cons_succ])
      refine wpAnyH_take (i := 10) (oi := ?o146) (v := ?v146) ?hi146 ?hs146 ?hf146 ?hr146 ?hQ146 ?hy146 ?hS146 ?rest146
      case hi146 =>
        conv => lhs; whnf; arg 1; whnf
      case hs146 => kernel_rfl
      case hf146 => kernel_rfl
      case hr146 => kernel_rfl
      case hQ146 => exact fun _ _ _ h => h
      case hS146 => assumption
      case hy146 =>
        refine Or.inl ⟨by rfl, ?_⟩
        first | (intro w hSw; (try dsimp only at hSw); go_simp; done) | (intro w hSw; (try dsimp only at hSw); go_simp; with_reducible rfl)
      (try simp only [Act.put, List.setIfInBounds_toArray, List.set_cons_zero, List.set_cons_succ])
      have hH := hHeld
      obtain ⟨xa0, xa1, xb0, xb1, xc0, xc1, xd0, xd1, XB⟩ := hH
      refine wpAnyH_ready (rs := [11]) (by kernel_rfl) (by simp) ?_
      refine AllReadyH.cons (o := ?o147) ?hi147 (fun K hK => ?rest147) AllReadyH.nil
      case hi147 =>
        conv => lhs; whnf; arg 1; whnf
      go_simp
      refine (P1.out _).mono ?_
      rintro e w9 ⟨rfl, b9⟩
      go_wp2_with fail
      refine hK.out _ _ ?_ (fun hHeld => ?_)
      · exact ⟨(b9.cell (p := ⟨w.heap.size + 1, 0, none⟩) (Nat.lt_of_lt_of_le (by first | (simp; done) | (simp; omega)) XB.size)).trans xa0, (b9.cell (p := ⟨w.heap.size + 1, 1, none⟩) (Nat.lt_of_lt_of_le (by first | (simp; done) | (simp; omega)) XB.size)).trans xa1, (b9.cell (p := ⟨w.heap.size + 1 + 1, 0, none⟩) (Nat.lt_of_lt_of_le (by first | (simp; done) | (simp; omega)) XB.size)).trans xb0, (b9.cell (p := ⟨w.heap.size + 1 + 1, 1, none⟩) (Nat.lt_of_lt_of_le (by first | (simp; done) | (simp; omega)) XB.size)).trans xb1, (b9.cell (p := ⟨w4.heap.size, 0, none⟩) (Nat.lt_of_lt_of_le (by first | (simp; done) | (simp; omega)) XB.size)).trans xc0, (b9.cell (p := ⟨w4.heap.size, 1, none⟩) (Nat.lt_of_lt_of_le (by first | (simp; done) | (simp; omega)) XB.size)).trans xc1, (b9.cell (p := ⟨w5.heap.size, 0, none⟩) (Nat.lt_of_lt_of_le (by first | (simp; done) | (simp; omega)) XB.size)).trans xd0, (b9.cell (p := ⟨w5.heap.size, 1, none⟩) (Nat.lt_of_lt_of_le (by first | (simp; done) | (simp; omega)) XB.size)).trans xd1, bel_end XB b9⟩
      clear hK K xa0 xa1 xb0 xb1 xc0 xc1 xd0 xd1 XB b9
      (try simp only [Act.put, List.setIfInBounds_toArray, List.set_cons_zero, List.set_cons_succ])
      refine wpAnyH_take (i := 12) (oi := ?o148) (v := ?v148) ?hi148 ?hs148 ?hf148 ?hr148 ?hQ148 ?hy148 ?hS148 ?rest148
      case hi148 =>
        conv => lhs; whnf; arg 1; whnf
      case hs148 => kernel_rfl
      case hf148 => kernel_rfl
      case hr148 => kernel_rfl
      case hQ148 => exact fun _ _ _ h => h
      case hS148 => assumption
      case hy148 =>
        refine Or.inl ⟨by rfl, ?_⟩
        first | (intro w hSw; (try dsimp only at hSw); go_simp; done) | (intro w hSw; (try dsimp only at hSw); go_simp; with_reducible rfl)
      (try simp only [Act.put, List.setIfInBounds_toArray, List.set_cons_zero, List.set_cons_succ])
      refine wpAnyH_take (i := 13) (oi := ?o149) (v := undef) ?hi149 ?hs149 ?hf149 ?hr149 ?hQ149 ?hy149 ?hS149 ?rest149
      case hi149 =>
        conv => lhs; whnf; arg 1; whnf
      case hs149 => kernel_rfl
      case hf149 => kernel_rfl
      case hr149 => kernel_rfl
      case hQ149 => exact fun _ _ _ h => h
      case hS149 => assumption
      case hy149 =>
        exact Or.inr ⟨by rfl, rfl⟩
      (try simp only [Act.put, List.setIfInBounds_toArray, List.set_cons_zero, List.set_cons_succ])
      refine wpAnyH_take (i := 14) (oi := ?o150) (v := undef) ?hi150 ?hs150 ?hf150 ?hr150 ?hQ150 ?hy150 ?hS150 ?rest150
      case hi150 =>
        conv => lhs; whnf; arg 1; whnf
      case hs150 => kernel_rfl
      case hf150 => kernel_rfl
      case hr150 => kernel_rfl
      case hQ150 => exact fun _ _ _ h => h
      case hS150 => assumption
      case hy150 =>
        exact Or.inr ⟨by rfl, rfl⟩
      (try simp only [Act.put, List.setIfInBounds_toArray, List.set_cons_zero, List.set_cons_succ])
      refine wpAnyH_take (i := 15) (oi := ?o151) (v := undef) ?hi151 ?hs151 ?hf151 ?hr151 ?hQ151 ?hy151 ?hS151 ?rest151
      case hi151 =>
        conv => lhs; whnf; arg 1; whnf
      case hs151 => kernel_rfl
      case hf151 => kernel_rfl
      case hr151 => kernel_rfl
      case hQ151 => exact fun _ _ _ h => h
      case hS151 => assumption
      case hy151 =>
        exact Or.inr ⟨by rfl, rfl⟩
      (try simp only [Act.put, List.setIfInBounds_toArray, List.set_cons_zero, List.set_cons_succ])
      refine wpAnyH_take (i := 16) (oi := ?o152) (v := ?v152) ?hi152 ?hs152 ?hf152 ?hr152 ?hQ152 ?hy152 ?hS152 ?rest152
      case hi152 =>
        conv => lhs; whnf; arg 1; whnf
      case hs152 => kernel_rfl
      case hf152 => kernel_rfl
      case hr152 => kernel_rfl
      case hQ152 => exact fun _ _ _ h => h
      case hS152 => assumption
      case hy152 =>
        refine Or.inl ⟨by rfl, ?_⟩
        first | (intro w hSw; (try dsimp only at hSw); go_simp; done) | (intro w hSw; (try dsimp only at hSw); go_simp; with_reducible rfl)
      (try simp only [Act.put, List.setIfInBounds_toArray, List.set_cons_zero, List.set_cons_succ])
      refine wpAnyH_take (i := 17) (oi := ?o153) (v := ?v153) ?hi153 ?hs153 ?hf153 ?hr153 ?hQ153 ?hy153 ?hS153 ?rest153
      case hi153 =>
        conv => lhs; whnf; arg 1; whnf
      case hs153 => kernel_rfl
      case hf153 => kernel_rfl
      case hr153 => kernel_rfl
      case hQ153 => exact fun _ _ _ h => h
      case hS153 => assumption
      case hy153 =>
        refine Or.inl ⟨by rfl, ?_⟩
        first | (intro w hSw; (try dsimp only at hSw); go_simp; done) | (intro w hSw; (try dsimp only at hSw); go_simp; with_reducible rfl)
      (try simp only [Act.put, List.setIfInBounds_toArray, List.set_cons_zero, List.set_cons_succ])
      refine wpAnyH_take (i := 18) (oi := ?o154) (v := ?v154) ?hi154 ?hs154 ?hf154 ?hr154 ?hQ154 ?hy154 ?hS154 ?rest154
      case hi154 =>
        conv => lhs; whnf; arg 1; whnf
      case hs154 => kernel_rfl
      case hf154 => kernel_rfl
      case hr154 => kernel_rfl
      case hQ154 => exact fun _ _ _ h => h
      case hS154 => assumption
      case hy154 =>
        refine Or.inl ⟨by rfl, ?_⟩
        first | (intro w hSw; (try dsimp only at hSw); go_simp; done) | (intro w hSw; (try dsimp only at hSw); go_simp; with_reducible rfl)
      (try simp only [Act.put, List.setIfInBounds_toArray, List.set_cons_zero, List.set_cons_succ])
      refine wpAnyH_take (i := 19) (oi := ?o155) (v := ?v155) ?hi155 ?hs155 ?hf155 ?hr155 ?hQ155 ?hy155 ?hS155 ?rest155
      case hi155 =>
        conv => lhs; whnf; arg 1; whnf
      case hs155 => kernel_rfl
      case hf155 => kernel_rfl
      case hr155 => kernel_rfl
      case hQ155 => exact fun _ _ _ h => h
      case hS155 => assumption
      case hy155 =>
        refine Or.inl ⟨by rfl, ?_⟩
        first | (intro w hSw; (try dsimp only at hSw); go_simp; done) | (intro w hSw; (try dsimp only at hSw); go_simp; with_reducible rfl)
      (try simp only [Act.put, List.setIfInBounds_toArray, List.set_cons_zero, List.set_cons_succ])
      refine wpAnyH_take (i := 20) (oi := ?o156) (v := ?v156) ?hi156 ?hs156 ?hf156 ?hr156 ?hQ156 ?hy156 ?hS156 ?rest156
      case hi156 =>
        conv => lhs; whnf; arg 1; whnf
      case hs156 => kernel_rfl
      case hf156 => kernel_rfl
      case hr156 => kernel_rfl
      case hQ156 => exact fun _ _ _ h => h
      case hS156 => assumption
      case hy156 =>
        refine Or.inl ⟨by rfl, ?_⟩
        first | (intro w hSw; (try dsimp only at hSw); go_simp; done) | (intro w hSw; (try dsimp only at hSw); go_simp; with_reducible rfl)
      (try simp only [Act.put, List.setIfInBounds_toArray, List.set_cons_zero, List.set_cons_succ])
      refine wpAnyH_take (i := 21) (oi := ?o157) (v := ?v157) ?hi157 ?hs157 ?hf157 ?hr157 ?hQ157 ?hy157 ?hS157 ?rest157
      case hi157 =>
        conv => lhs; whnf; arg 1; whnf
      case hs157 => kernel_rfl
      case hf157 => kernel_rfl
      case hr157 => kernel_rfl
      case hQ157 => exact fun _ _ _ h => h
      case hS157 => assumption
      case hy157 =>
        refine Or.inl ⟨by rfl, ?_⟩
        first | (intro w hSw; (try dsimp only at hSw); go_simp; done) | (intro w hSw; (try dsimp only at hSw); go_simp; with_reducible rfl)
      (try simp only [Act.put, List.setIfInBounds_toArray, List.set_cons_zero, List.set_cons_succ])
      refine wpAnyH_take (i := 22) (oi := ?o158) (v := ?v158) ?hi158 ?hs158 ?hf158 ?hr158 ?hQ158 ?hy158 ?hS158 ?rest158
      case hi158 =>
        conv => lhs; whnf; arg 1; whnf
      case hs158 => kernel_rfl
      case hf158 => kernel_rfl
      case hr158 => kernel_rfl
      case hQ158 => exact fun _ _ _ h => h
      case hS158 => assumption
      case hy158 =>
        refine Or.inl ⟨by rfl, ?_⟩
        first | (intro w hSw; (try dsimp only at hSw); go_simp; done) | (intro w hSw; (try dsimp only at hSw); go_simp; with_reducible rfl)
      (try simp only [Act.put, List.setIfInBounds_toArray, List.set_cons_zero, List.set_cons_succ])
      refine wpAnyH_take (i := 23) (oi := ?o159) (v := ?v159) ?hi159 ?hs159 ?hf159 ?hr159 ?hQ159 ?hy159 ?hS159 ?rest159
      case hi159 =>
        conv => lhs; whnf; arg 1; whnf
      case hs159 => kernel_rfl
      case hf159 => kernel_rfl
      case hr159 => kernel_rfl
      case hQ159 => exact fun _ _ _ h => h
      case hS159 => assumption
      case hy159 =>
        refine Or.inl ⟨by rfl, ?_⟩
        first | (intro w hSw; (try dsimp only at hSw); go_simp; done) | (intro w hSw; (try dsimp only at hSw); go_simp; with_reducible rfl)
      (try simp only [Act.put, List.setIfInBounds_toArray, List.set_cons_zero, List.set_cons_succ])
      have hH := hHeld
      obtain ⟨xa0, xa1, xb0, xb1, xc0, xc1, xd0, xd1, XB⟩ := hH
      refine wpAnyH_ready (rs := [24]) (by kernel_rfl) (by simp) ?_
      refine AllReadyH.cons (o := ?o160) ?hi160 (fun K hK => ?rest160) AllReadyH.nil
      case hi160 =>
        conv => lhs; whnf; arg 1; whnf
      go_simp
      refine (P1.out _).mono ?_
      rintro e w9 ⟨rfl, b9⟩
      go_wp2_with fail
      refine hK.out _ _ ?_ (fun hHeld => ?_)
      · exact ⟨(b9.cell (p := ⟨w.heap.size + 1, 0, none⟩) (Nat.lt_of_lt_of_le (by first | (simp; done) | (simp; omega)) XB.size)).trans xa0, (b9.cell (p := ⟨w.heap.size + 1, 1, none⟩) (Nat.lt_of_lt_of_le (by first | (simp; done) | (simp; omega)) XB.size)).trans xa1, (b9.cell (p := ⟨w.heap.size + 1 + 1, 0, none⟩) (Nat.lt_of_lt_of_le (by first | (simp; done) | (simp; omega)) XB.size)).trans xb0, (b9.cell (p := ⟨w.heap.size + 1 + 1, 1, none⟩) (Nat.lt_of_lt_of_le (by first | (simp; done) | (simp; omega)) XB.size)).trans xb1, (b9.cell (p := ⟨w4.heap.size, 0, none⟩) (Nat.lt_of_lt_of_le (by first | (simp; done) | (simp; omega)) XB.size)).trans xc0, (b9.cell (p := ⟨w4.heap.size, 1, none⟩) (Nat.lt_of_lt_of_le (by first | (simp; done) | (simp; omega)) XB.size)).trans xc1, (b9.cell (p := ⟨w5.heap.size, 0, none⟩) (Nat.lt_of_lt_of_le (by first | (simp; done) | (simp; omega)) XB.size)).trans xd0, (b9.cell (p := ⟨w5.heap.size, 1, none⟩) (Nat.lt_of_lt_of_le (by first | (simp; done) | (simp; omega)) XB.size)).trans xd1, bel_end XB b9⟩
      clear hK K xa0 xa1 xb0 xb1 xc0 xc1 xd0 xd1 XB b9
      (try simp only [Act.put, List.setIfInBounds_toArray, List.set_cons_zero, List.set_cons_succ])
      refine wpAnyH_take (i := 25) (oi := ?o161) (v := ?v161) ?hi161 ?hs161 ?hf161 ?hr161 ?hQ161 ?hy161 ?hS161 ?rest161
      case hi161 =>
        conv => lhs; whnf; arg 1; whnf
      case hs161 => kernel_rfl
      case hf161 => kernel_rfl
      case hr161 => kernel_rfl
      case hQ161 => exact fun _ _ _ h => h
      case hS161 => assumption
      case hy161 =>
        refine Or.inl ⟨by rfl, ?_⟩
        first | (intro w hSw; (try dsimp only at hSw); go_simp; done) | (intro w hSw; (try dsimp only at hSw); go_simp; with_reducible rfl)
      (try simp only [Act.put, List.setIfInBounds_toArray, List.set_cons_zero, List.set_cons_succ])
      refine wpAnyH_take (i := 26) (oi := ?o162) (v := ?v162) ?hi162 ?hs162 ?hf162 ?hr162 ?hQ162 ?hy162 ?hS162 ?rest162
      case hi162 =>
        conv => lhs; whnf; arg 1; whnf
      case hs162 => kernel_rfl
      case hf162 => kernel_rfl
      case hr162 => kernel_rfl
      case hQ162 => exact fun _ _ _ h => h
      case hS162 => assumption
      case hy162 =>
        refine Or.inl ⟨by rfl, ?_⟩
        first | (intro w hSw; (try dsimp only at hSw); go_simp; done) | (intro w hSw; (try dsimp only at hSw); go_simp; with_reducible rfl)
      (try simp only [Act.put, List.setIfInBounds_toArray, List.set_cons_zero, List.set_cons_succ])
      refine wpAnyH_take (i := 27) (oi := ?o163) (v := ?v163) ?hi163 ?hs163 ?hf163 ?hr163 ?hQ163 ?hy163 ?hS163 ?rest163
      case hi163 =>
        conv => lhs; whnf; arg 1; whnf
      case hs163 => kernel_rfl
      case hf163 => kernel_rfl
      case hr163 => kernel_rfl
      case hQ163 => exact fun _ _ _ h => h
      case hS163 => assumption
      case hy163 =>
        refine Or.inl ⟨by rfl, ?_⟩
        first | (intro w hSw; (try dsimp only at hSw); go_simp; done) | (intro w hSw; (try dsimp only at hSw); go_simp; with_reducible rfl)
      (try simp only [Act.put, List.setIfInBounds_toArray, List.set_cons_zero, List.set_cons_succ])
      refine wpAnyH_take (i := 28) (oi := ?o164) (v := ?v164) ?hi164 ?hs164 ?hf164 ?hr164 ?hQ164 ?hy164 ?hS164 ?rest164
      case hi164 =>
        conv => lhs; whnf; arg 1; whnf
      case hs164 => kernel_rfl
      case hf164 => kernel_rfl
      case hr164 => kernel_rfl
      case hQ164 => exact fun _ _ _ h => h
      case hS164 => assumption
      case hy164 =>
        refine Or.inl ⟨by rfl, ?_⟩
        first | (intro w hSw; (try dsimp only at hSw); go_simp; done) | (intro w hSw; (try dsimp only at hSw); go_simp; with_reducible rfl)
      (try simp only [Act.put, List.setIfInBounds_toArray, List.set_cons_zero, List.set_cons_succ])
      have hH := hHeld
      obtain ⟨xa0, xa1, xb0, xb1, xc0, xc1, xd0, xd1, XB⟩ := hH
      refine wpAnyH_ready (rs := [29]) (by kernel_rfl) (by simp) ?_
      refine AllReadyH.cons (o := ?o165) ?hi165 (fun K hK => ?rest165) AllReadyH.nil
      case hi165 =>
        conv => lhs; whnf; arg 1; whnf
      go_simp
      refine (P2.out _).mono ?_
      rintro e w9 ⟨rfl, b9⟩
      go_wp2_with fail
      refine hK.out _ _ ?_ (fun hHeld => ?_)
      · exact ⟨(b9.cell (p := ⟨w.heap.size + 1, 0, none⟩) (Nat.lt_of_lt_of_le (by first | (simp; done) | (simp; omega)) XB.size)).trans xa0, (b9.cell (p := ⟨w.heap.size + 1, 1, none⟩) (Nat.lt_of_lt_of_le (by first | (simp; done) | (simp; omega)) XB.size)).trans xa1, (b9.cell (p := ⟨w.heap.size + 1 + 1, 0, none⟩) (Nat.lt_of_lt_of_le (by first | (simp; done) | (simp; omega)) XB.size)).trans xb0, (b9.cell (p := ⟨w.heap.size + 1 + 1, 1, none⟩) (Nat.lt_of_lt_of_le (by first | (simp; done) | (simp; omega)) XB.size)).trans xb1, (b9.cell (p := ⟨w4.heap.size, 0, none⟩) (Nat.lt_of_lt_of_le (by first | (simp; done) | (simp; omega)) XB.size)).trans xc0, (b9.cell (p := ⟨w4.heap.size, 1, none⟩) (Nat.lt_of_lt_of_le (by first | (simp; done) | (simp; omega)) XB.size)).trans xc1, (b9.cell (p := ⟨w5.heap.size, 0, none⟩) (Nat.lt_of_lt_of_le (by first | (simp; done) | (simp; omega)) XB.size)).trans xd0, (b9.cell (p := ⟨w5.heap.size, 1, none⟩) (Nat.lt_of_lt_of_le (by first | (simp; done) | (simp; omega)) XB.size)).trans xd1, bel_end XB b9⟩
      clear hK K xa0 xa1 xb0 xb1 xc0 xc1 xd0 xd1 XB b9
      (try simp only [Act.put, List.setIfInBounds_toArray, List.set_cons_zero, List.set_cons_succ])
      refine wpAnyH_take (i := 30) (oi := ?o166) (v := ?v166) ?hi166 ?hs166 ?hf166 ?hr166 ?hQ166 ?hy166 ?hS166 ?rest166
      case hi166 =>
        conv => lhs; whnf; arg 1; whnf
      case hs166 => kernel_rfl
      case hf166 => kernel_rfl
      case hr166 => kernel_rfl
      case hQ166 => exact fun _ _ _ h => h
      case hS166 => assumption
      case hy166 =>
        refine Or.inl ⟨by rfl, ?_⟩
        first | (intro w hSw; (try dsimp only at hSw); go_simp; done) | (intro w hSw; (try dsimp only at hSw); go_simp; with_reducible rfl)
      (try simp only [Act.put, List.setIfInBounds_toArray, List.set_cons_zero, List.set_cons_succ])
      refine wpAnyH_take (i := 31) (oi := ?o167) (v := ?v167) ?hi167 ?hs167 ?hf167 ?hr167 ?hQ167 ?hy167 ?hS167 ?rest167
      case hi167 =>
        conv => lhs; whnf; arg 1; whnf
      case hs167 => kernel_rfl
      case hf167 => kernel_rfl
      case hr167 => kernel_rfl
      case hQ167 => exact fun _ _ _ h => h
      case hS167 => assumption
      case hy167 =>
        refine Or.inl ⟨by rfl, ?_⟩
        first | (intro w hSw; (try dsimp only at hSw); go_simp; done) | (intro w hSw; (try dsimp only at hSw); go_simp; with_reducible rfl)
      (try simp only [Act.put, List.setIfInBounds_toArray, List.set_cons_zero, List.set_cons_succ])
      refine wpAnyH_take (i := 32) (oi := ?o168) (v := ?v168) ?hi168 ?hs168 ?hf168 ?hr168 ?hQ168 ?hy168 ?hS168 ?rest168
      case hi168 =>
        conv => lhs; whnf; arg 1; whnf
      case hs168 => kernel_rfl
      case hf168 => kernel_rfl
      case hr168 => kernel_rfl
      case hQ168 => exact fun _ _ _ h => h
      case hS168 => assumption
      case hy168 =>
        refine Or.inl ⟨by rfl, ?_⟩
        first | (intro w hSw; (try dsimp only at hSw); go_simp; done) | (intro w hSw; (try dsimp only at hSw); go_simp; with_reducible rfl)
      (try simp only [Act.put, List.setIfInBounds_toArray, List.set_cons_zero, List.set_cons_succ])
      refine wpAnyH_take (i := 33) (oi := ?o169) (v := ?v169) ?hi169 ?hs169 ?hf169 ?hr169 ?hQ169 ?hy169 ?hS169 ?rest169
      case hi169 =>
        conv => lhs; whnf; arg 1; whnf
      case hs169 => kernel_rfl
      case hf169 => kernel_rfl
      case hr169 => kernel_rfl
      case hQ169 => exact fun _ _ _ h => h
      case hS169 => assumption
      case hy169 =>
        refine Or.inl ⟨by rfl, ?_⟩
        first | (intro w hSw; (try dsimp only at hSw); go_simp; done) | (intro w hSw; (try dsimp only at hSw); go_simp; with_reducible rfl)
      (try simp only [Act.put, List.setIfInBounds_toArray, List.set_cons_zero, List.set_cons_succ])
      refine wpAnyH_done (by kernel_rfl) ?_ _
      obtain ⟨xa0, xa1, xb0, xb1, xc0, xc1, xd0, xd1, XB⟩ := hHeld
      go_wp2_with fail
      go_meet
      exact ⟨by first | rfl | simp_all, XB⟩
  case rest =>
  obtain ⟨rfl, bh⟩ := hcut
  clear A1 A2 P1 P2 hl hm
  have zq0 : wc.cell? ⟨w.heap.size, 0, none⟩ = some (.int .i64 x) := (bh.cell (p := ⟨w.heap.size, 0, none⟩) (by first | (simp; done) | (simp; omega))).trans (by go_simp)
  have zq1 : wc.cell? ⟨w.heap.size, 1, none⟩ = some (.int .i64 y) := (bh.cell (p := ⟨w.heap.size, 1, none⟩) (by first | (simp; done) | (simp; omega))).trans (by go_simp)
  have zq2 : wc.cell? ⟨w.heap.size, 2, none⟩ = some (.int .i64 z) := (bh.cell (p := ⟨w.heap.size, 2, none⟩) (by first | (simp; done) | (simp; omega))).trans (by go_simp)
  have zs : w.heap.size < wc.heap.size := by
    have h9 := bh.size
    (try simp at h9)
    omega
  have HBr := Lib.hid (bel_end (bel_alloc BB5.out) bh)
  clear ca50 ca51 cb50 cb51 cc50 cc51 cq50 cq51 cq52 Rq5 Ra5 Rb5 Rc5 lq5 la5 lb5 lc5 BB5 bh
  by_cases h0 : z = 0
  · have f1 : ((z : Int) == 0) = true := by simp; omega
    have f2 : (z == 0) = true := by simp; omega
    clear h0
    go_wp2_with (go_at_call 12; refine (awake_yes _).mono ?_; rintro e w' ⟨rfl, hb⟩)
    go_ret
    exact ⟨rfl, bel_end HBr.out hb⟩
  have f1 : ((z : Int) == 0) = false := by simp; omega
  have f2 : (z == 0) = false := by simp; omega
  by_cases h1 : 1048576 < x
  · have f3 : decide (1048576 < (x : Int)) = true := decide_eq_true (by omega)
    have f4 : decide (1048576 < x) = true := decide_eq_true h1
    clear h0 h1
    go_wp2_with (go_at_call 12; refine (awake_yes _).mono ?_; rintro e w' ⟨rfl, hb⟩)
    go_ret
    exact ⟨rfl, bel_end HBr.out hb⟩
  have f3 : decide (1048576 < (x : Int)) = false := decide_eq_false (by omega)
  have f4 : decide (1048576 < x) = false := decide_eq_false h1
  obtain ⟨m1, n1, o1, u1, m2, m3, n2, n3, o2, o3, u2, u3, q1, q2, q3, q4, q5⟩ := divs x y z (by omega) HY.out (by omega)
  have ex : ((x + 1 : Nat) : Int) = (x : Int) + 1 := by omega
  have ez : ((z + 1 : Nat) : Int) = (z : Int) + 1 := by omega
  rw [ex] at n2 n3
  rw [ez] at o2 o3
  have hy := HY.out
  have hz := HZ.out
  have D1 := Lib.hid (div_any (x : Int) (y : Int) (z : Int) false (by omega) (by omega) (by omega))
  have D2 := Lib.hid (div_any ((x : Int) + 1) (y : Int) (z : Int) false (by omega) (by omega) (by omega))
  have D3 := Lib.hid (div_any (x : Int) (y : Int) ((z : Int) + 1) false (by omega) (by omega) (by omega))
  have D4 := Lib.hid (div_any (x : Int) (y : Int) (z : Int) true (by omega) (by omega) (by omega))
  rw [m2, m3] at D1
  rw [n2, n3] at D2
  rw [o2, o3] at D3
  rw [u2, u3] at D4
  have i0 : (x : Int) ≤ 1048576 := by omega
  have i1 : (z : Int) ≤ 1099511627776 := by omega
  have j1 : (m1 : Int) ≤ (n1 : Int) := by omega
  have j2 : (o1 : Int) ≤ (m1 : Int) := by omega
  have j3 : (m1 : Int) ≤ (u1 : Int) := by omega
  have j4 : (u1 : Int) ≤ (m1 : Int) + 1 := by omega
  have j5 : (m1 : Int) ≤ 1152922604118474752 := by omega
  clear m2 m3 n2 n3 o2 o3 u2 u3 ex ez h0 h1 hy hz HX HY HZ
  go_wp2_with fail
  refine (D1.out _).mono ?_
  rintro e w6 ⟨rfl, b6⟩
  have bb6 : Below w.heap.size w w6 := by
    refine bel_end ?_ b6
    repeat (first | with_reducible refine bel_alloc ?_ | with_reducible refine bel_drew ?_)
    exact HBr.out
  have BB6 := Lib.hid bb6
  clear bb6
  have Rq6 := Lib.hid b6
  have lq6 : w.heap.size < w6.heap.size := by
    have h := Rq6.out.size
    try simp only [World.size_alloc] at h
    omega
  have cq60 := Rq6.out.cell (p := ⟨w.heap.size, 0, none⟩) (by first | (simp; done) | (dsimp only; omega) | (simp; omega))
  have cq61 := Rq6.out.cell (p := ⟨w.heap.size, 1, none⟩) (by first | (simp; done) | (dsimp only; omega) | (simp; omega))
  have cq62 := Rq6.out.cell (p := ⟨w.heap.size, 2, none⟩) (by first | (simp; done) | (dsimp only; omega) | (simp; omega))
  clear b6
  go_wp2_with fail
  refine (D2.out _).mono ?_
  rintro e w7 ⟨rfl, b7⟩
  have bb7 : Below w.heap.size w w7 := by
    refine bel_end ?_ b7
    repeat (first | with_reducible refine bel_alloc ?_ | with_reducible refine bel_drew ?_)
    exact BB6.out
  have BB7 := Lib.hid bb7
  clear bb7
  clear BB6
  have rq := bel_via Rq6.out b7 (by
    repeat (first | with_reducible refine bel_alloc ?_ | with_reducible refine bel_drew ?_)
    with_reducible exact Below.refl _ _)
  have Rq7 := Lib.hid rq
  clear rq Rq6 lq6 cq60 cq61 cq62
  have lq7 : w.heap.size < w7.heap.size := by
    have h := Rq7.out.size
    try simp only [World.size_alloc] at h
    omega
  have cq70 := Rq7.out.cell (p := ⟨w.heap.size, 0, none⟩) (by first | (simp; done) | (dsimp only; omega) | (simp; omega))
  have cq71 := Rq7.out.cell (p := ⟨w.heap.size, 1, none⟩) (by first | (simp; done) | (dsimp only; omega) | (simp; omega))
  have cq72 := Rq7.out.cell (p := ⟨w.heap.size, 2, none⟩) (by first | (simp; done) | (dsimp only; omega) | (simp; omega))
  clear b7
  go_wp2_with fail
  refine (D3.out _).mono ?_
  rintro e w8 ⟨rfl, b8⟩
  have bb8 : Below w.heap.size w w8 := by
    refine bel_end ?_ b8
    repeat (first | with_reducible refine bel_alloc ?_ | with_reducible refine bel_drew ?_)
    exact BB7.out
  have BB8 := Lib.hid bb8
  clear bb8
  clear BB7
  have rq := bel_via Rq7.out b8 (by
    repeat (first | with_reducible refine bel_alloc ?_ | with_reducible refine bel_drew ?_)
    with_reducible exact Below.refl _ _)
  have Rq8 := Lib.hid rq
  clear rq Rq7 lq7 cq70 cq71 cq72
  have lq8 : w.heap.size < w8.heap.size := by
    have h := Rq8.out.size
    try simp only [World.size_alloc] at h
    omega
  have cq80 := Rq8.out.cell (p := ⟨w.heap.size, 0, none⟩) (by first | (simp; done) | (dsimp only; omega) | (simp; omega))
  have cq81 := Rq8.out.cell (p := ⟨w.heap.size, 1, none⟩) (by first | (simp; done) | (dsimp only; omega) | (simp; omega))
  have cq82 := Rq8.out.cell (p := ⟨w.heap.size, 2, none⟩) (by first | (simp; done) | (dsimp only; omega) | (simp; omega))
  clear b8
  go_wp2_with fail
  refine (D4.out _).mono ?_
  rintro e w9 ⟨rfl, b9⟩
  have bb9 : Below w.heap.size w w9 := by
    refine bel_end ?_ b9
    repeat (first | with_reducible refine bel_alloc ?_ | with_reducible refine bel_drew ?_)
    exact BB8.out
  have BB9 := Lib.hid bb9
  clear bb9
  clear BB8
  have rq := bel_via Rq8.out b9 (by
    repeat (first | with_reducible refine bel_alloc ?_ | with_reducible refine bel_drew ?_)
    with_reducible exact Below.refl _ _)
  have Rq9 := Lib.hid rq
  clear rq Rq8 lq8 cq80 cq81 cq82
  have lq9 : w.heap.size < w9.heap.size := by
    have h := Rq9.out.size
    try simp only [World.size_alloc] at h
    omega
  have cq90 := Rq9.out.cell (p := ⟨w.heap.size, 0, none⟩) (by first | (simp; done) | (dsimp only; omega) | (simp; omega))
  have cq91 := Rq9.out.cell (p := ⟨w.heap.size, 1, none⟩) (by first | (simp; done) | (dsimp only; omega) | (simp; omega))
  have cq92 := Rq9.out.cell (p := ⟨w.heap.size, 2, none⟩) (by first | (simp; done) | (dsimp only; omega) | (simp; omega))
  clear b9
  go_wp2_with (go_at_call 12; refine (awake_yes _).mono ?_; rintro e w' ⟨rfl, hb⟩)
  go_ret
  refine ⟨rfl, bel_end ?_ hb⟩
  repeat (first | with_reducible refine bel_alloc ?_ | with_reducible refine bel_drew ?_)
  exact BB9.out

theorem walk (x y z h l k m : Int) (_ : (Lit.int .i64 x).wf = true) (_ : (Lit.int .i64 y).wf = true) (_ : (Lit.int .i64 z).wf = true) (wh : (Lit.int .u64 h).wf = true) (wl : (Lit.int .u64 l).wf = true) (wk : (Lit.int .u64 k).wf = true) (wm : (Lit.int .u64 m).wf = true) (w : World) : Calls Try.prog 8 #[.agg #[.int .i64 x, .int .i64 y, .int .i64 z], .agg #[.int .u64 h, .int .u64 l], .agg #[.int .u64 k, .int .u64 m]] w (Yes w) := by
  by_cases h0 : x < 0
  · exact low0 x y z h l k m h0 w
  by_cases h1 : 1099511627776 < x
  · exact high0 x y z h l k m (by omega) h1 w
  by_cases h2 : y < 0
  · exact low1 x y z h l k m (by omega) (by omega) h2 w
  by_cases h3 : 1099511627776 < y
  · exact high1 x y z h l k m (by omega) (by omega) (by omega) h3 w
  by_cases h4 : z < 0
  · exact low2 x y z h l k m (by omega) (by omega) (by omega) (by omega) h4 w
  by_cases h5 : 1099511627776 < z
  · exact high2 x y z h l k m (by omega) (by omega) (by omega) (by omega) (by omega) h5 w
  obtain ⟨hh0, _⟩ := bounds_u64 wh
  obtain ⟨hl0, _⟩ := bounds_u64 wl
  obtain ⟨hk0, _⟩ := bounds_u64 wk
  obtain ⟨hm0, _⟩ := bounds_u64 wm
  obtain ⟨x, rfl⟩ := Int.eq_ofNat_of_zero_le (show 0 ≤ x by omega)
  obtain ⟨y, rfl⟩ := Int.eq_ofNat_of_zero_le (show 0 ≤ y by omega)
  obtain ⟨z, rfl⟩ := Int.eq_ofNat_of_zero_le (show 0 ≤ z by omega)
  obtain ⟨h, rfl⟩ := Int.eq_ofNat_of_zero_le hh0
  obtain ⟨l, rfl⟩ := Int.eq_ofNat_of_zero_le hl0
  obtain ⟨k, rfl⟩ := Int.eq_ofNat_of_zero_le hk0
  obtain ⟨m, rfl⟩ := Int.eq_ofNat_of_zero_le hm0
  exact inside x y z h l k m (by omega) (by omega) (by omega) (by omega) (by omega) w

set_option maxRecDepth 100000 in
theorem lifted (os : Os) (started : os.Started) (H : Type) (enc : TypeId × Value → H) :
    ReturnsInHanded {} Try.checked os 8 .any (Rows.numCompareSpec.pre6 enc Try.prog Try.f8 Rows.numCompareRow.domain false) (Rows.numCompareSpec.post enc Try.prog Try.f8 false true false false) := by
  refine returnsInHanded_of_change (C := Try.checked) own started (by kernel_rfl) Try.func8
    (ChangeSpec.witness6 (enc := enc) (C := Try.checked) false ⟨#[], #[.agg #[.int .i64 0, .int .i64 0, .int .i64 0], .agg #[.int .u64 0, .int .u64 0], .agg #[.int .u64 0, .int .u64 0]], []⟩ 8 (by kernel_rfl) (by kernel_rfl) (by kernel_rfl) (by kernel_rfl)) ?_
  intro W base args ds gs before hval0 hW hcnd _
  have hval : ∀ (j : Nat) t v, Try.f8.params[j]? = some t → args[j]? = some v → Value.okWide Try.prog W .any base t v := hval0
  have hW' := hW
  obtain ⟨p, q, hA0, hV, _, hfz, hnd⟩ := hW'
  have hA : DataW.TrodAll enc Try.prog W 0 (fun _ => true) true Try.f8.params.toList args.toList ds p := hA0
  rw [Try.params8] at hA hval
  obtain ⟨v0, v1, v2, d0, d1, d2, p0, p1, p2, rfl, _, _, h0, h1, h2⟩ := trodAll_three hA
  obtain ⟨x, y, z, rfl, wx, wy, wz⟩ := open_arr3 Try.underlying22 Try.underlying3 (by kernel_rfl) (by kernel_rfl) (hval 0 22 v0 rfl rfl) h0
  obtain ⟨c10, c11, y10, y11, m1, rfl, _, _, hy10, hy11⟩ := open_agg2 Try.underlying43 (by kernel_rfl) (by kernel_rfl) (hval 1 43 v1 rfl rfl) h1
  obtain ⟨h, e10, _, wh⟩ := DataW.trod_int Try.underlying29 hy10
  obtain ⟨l, e11, _, wl⟩ := DataW.trod_int Try.underlying29 hy11
  simp at e10 e11
  subst e10 e11
  obtain ⟨c20, c21, y20, y21, m2, rfl, _, _, hy20, hy21⟩ := open_agg2 Try.underlying43 (by kernel_rfl) (by kernel_rfl) (hval 2 43 v2 rfl rfl) h2
  obtain ⟨k, e20, _, wk⟩ := DataW.trod_int Try.underlying29 hy20
  obtain ⟨m, e21, _, wm⟩ := DataW.trod_int Try.underlying29 hy21
  simp at e20 e21
  subst e20 e21
  refine (walk x y z h l k m wx wy wz wh wl wk wm W).mono fun e W' h => ?_
  exact law_post (f := Try.f8) rfl rfl Try.underlying4 (by kernel_rfl) (fun ds hd => by
    match ds, hd with
    | [_, _, _], _ => rfl) hW h

theorem over : Rows.numCompareRow.holds Try.pinned (OpenSpec.ofChange Rows.numCompareSpec) :=
  OpenClaim.holds_of_wide 8 Try.f8 rfl rfl rfl rfl rfl rfl rfl ⟨rfl, rfl, rfl, rfl, rfl⟩ rfl rfl rfl rfl rfl (by kernel_rfl) Try.func8 (by kernel_rfl)
    (of_decide_eq_true (by kernel_rfl)) (by unfold Func.isWrapper; first | (rw [if_pos (by decide +kernel)]; kernel_rfl) | (rw [if_neg (by decide +kernel)]; exact ⟨rfl, rfl⟩))
    (fun os started H enc _ => lifted os started H enc)

/-- THE STATEMENT. -/
theorem proved : Rows.NumCompareSaid := over
end Go.Proofs.Ytgdgfcogmfhpcaa.numCompare
