/- GrubCharges answers true at every meter, time, rate and budget. No condition but its premises. -/
import Derived.Test.YtnahedmccbkflaaGrubChargesA
import Derived.WalkLawsBesides
import Derived.WalkSpells
import Derived.Outline
namespace Go.Proofs.Ytnahedmccbkflaa.grubCharges
open Go.ChangeShapes Go.WideShapes Go.ChangeAt Go.RowKit Go.Joins
set_option maxRecDepth 100000 in
set_option maxHeartbeats 4000000 in
theorem ok_left0 (r t p left : Int) (N X : Int) (hC : ∀ w, Calls Try.prog 15 #[.agg #[.int .i64 r], .int .i64 t, .int .i64 p] w (Gives (.tuple #[.int .i64 N, .agg #[.int .i64 X], .int .i64 0]) w)) (hW : ∀ w, Calls Try.prog 16 #[.int .i64 r, .int .i64 t, .int .i64 p] w fun e w' => e = .returned (.int .i64 0) ∧ w = w') (hR : ∀ w, Calls Try.prog 17 #[.int .i64 r, .int .i64 t, .int .i64 p] w fun e w' => e = .returned (.tuple #[.int .i64 N, .int .i64 X]) ∧ w = w') (h0 : 0 ≤ r) (h1 : r ≤ 1048575) (h2 : 0 ≤ p) (h3 : p ≤ 1048576) (h : left < 0) (w : World) : Calls Try.prog 6 #[.agg #[.int .i64 r], .int .i64 t, .agg #[.int .i64 p, .int .i64 left]] w (Yes w) := by
  have C := Lib.hid hC
  have W := Lib.hid hW
  have R := Lib.hid hR
  have e1 : (N != N) = false := by simp
  have e2 : (X != X) = false := by simp
  clear hC hW hR
  have T := Lib.hid (till_left r left p h0 h1 h2 h3 (.inl h))
  go_enter Try.func6, Try.ntmps6
  go_wp2_with fail
  refine (C.out _).mono ?_
  rintro e w1 ⟨rfl, b1⟩
  have k1 := bcell b1
  have s1 := b1.size
  simp only [World.size_alloc] at s1
  have l1 : w.heap.size < w1.heap.size := by omega
  have l2 : w.heap.size + 1 < w1.heap.size := by omega
  go_wp2_with fail
  refine (W.out _).mono ?_
  rintro e w' ⟨rfl, rfl⟩
  go_wp2_with fail
  refine (R.out _).mono ?_
  rintro e w' ⟨rfl, rfl⟩
  go_wp2_with fail
  refine (T.out _).mono ?_
  rintro e w2 ⟨rfl, b2⟩
  have k2 := bcell b2
  go_wp2_with (go_at_call 13; refine (awake_yes _).mono ?_; rintro e w' ⟨rfl, hb⟩)
  go_ret
  refine ⟨rfl, bel_end (bel_end ?_ b2) hb⟩
  repeat (with_reducible refine bel_alloc ?_)
  refine bel_end ?_ b1
  repeat (with_reducible refine bel_alloc ?_)
  with_reducible exact Below.refl _ _
set_option maxRecDepth 100000 in
set_option maxHeartbeats 4000000 in
theorem ok_left1 (r t p left : Int) (N X : Int) (hC : ∀ w, Calls Try.prog 15 #[.agg #[.int .i64 r], .int .i64 t, .int .i64 p] w (Gives (.tuple #[.int .i64 N, .agg #[.int .i64 X], .int .i64 0]) w)) (hW : ∀ w, Calls Try.prog 16 #[.int .i64 r, .int .i64 t, .int .i64 p] w fun e w' => e = .returned (.int .i64 0) ∧ w = w') (hR : ∀ w, Calls Try.prog 17 #[.int .i64 r, .int .i64 t, .int .i64 p] w fun e w' => e = .returned (.tuple #[.int .i64 N, .int .i64 X]) ∧ w = w') (h0 : 0 ≤ r) (h1 : r ≤ 1048575) (h2 : 0 ≤ p) (h3 : p ≤ 1048576) (h4 : 0 ≤ left) (h : 1073741824 < left) (w : World) : Calls Try.prog 6 #[.agg #[.int .i64 r], .int .i64 t, .agg #[.int .i64 p, .int .i64 left]] w (Yes w) := by
  have C := Lib.hid hC
  have W := Lib.hid hW
  have R := Lib.hid hR
  have e1 : (N != N) = false := by simp
  have e2 : (X != X) = false := by simp
  clear hC hW hR
  have T := Lib.hid (till_left r left p h0 h1 h2 h3 (.inr h))
  go_enter Try.func6, Try.ntmps6
  go_wp2_with fail
  refine (C.out _).mono ?_
  rintro e w1 ⟨rfl, b1⟩
  have k1 := bcell b1
  have s1 := b1.size
  simp only [World.size_alloc] at s1
  have l1 : w.heap.size < w1.heap.size := by omega
  have l2 : w.heap.size + 1 < w1.heap.size := by omega
  go_wp2_with fail
  refine (W.out _).mono ?_
  rintro e w' ⟨rfl, rfl⟩
  go_wp2_with fail
  refine (R.out _).mono ?_
  rintro e w' ⟨rfl, rfl⟩
  go_wp2_with fail
  refine (T.out _).mono ?_
  rintro e w2 ⟨rfl, b2⟩
  have k2 := bcell b2
  go_wp2_with (go_at_call 13; refine (awake_yes _).mono ?_; rintro e w' ⟨rfl, hb⟩)
  go_ret
  refine ⟨rfl, bel_end (bel_end ?_ b2) hb⟩
  repeat (with_reducible refine bel_alloc ?_)
  refine bel_end ?_ b1
  repeat (with_reducible refine bel_alloc ?_)
  with_reducible exact Below.refl _ _
set_option maxRecDepth 100000 in
set_option maxHeartbeats 4000000 in
theorem ok_none (r t p left : Int) (N X : Int) (hC : ∀ w, Calls Try.prog 15 #[.agg #[.int .i64 r], .int .i64 t, .int .i64 p] w (Gives (.tuple #[.int .i64 N, .agg #[.int .i64 X], .int .i64 0]) w)) (hW : ∀ w, Calls Try.prog 16 #[.int .i64 r, .int .i64 t, .int .i64 p] w fun e w' => e = .returned (.int .i64 0) ∧ w = w') (hR : ∀ w, Calls Try.prog 17 #[.int .i64 r, .int .i64 t, .int .i64 p] w fun e w' => e = .returned (.tuple #[.int .i64 N, .int .i64 X]) ∧ w = w') (h0 : 0 ≤ r) (h1 : r ≤ 1048575) (h2 : 0 ≤ p) (h3 : p ≤ 1048576) (h : left = 0) (w : World) : Calls Try.prog 6 #[.agg #[.int .i64 r], .int .i64 t, .agg #[.int .i64 p, .int .i64 left]] w (Yes w) := by
  have C := Lib.hid hC
  have W := Lib.hid hW
  have R := Lib.hid hR
  have e1 : (N != N) = false := by simp
  have e2 : (X != X) = false := by simp
  clear hC hW hR
  subst h
  have T := Lib.hid (till_none r p h0 h1 h2 h3)
  go_enter Try.func6, Try.ntmps6
  go_wp2_with fail
  refine (C.out _).mono ?_
  rintro e w1 ⟨rfl, b1⟩
  have k1 := bcell b1
  have s1 := b1.size
  simp only [World.size_alloc] at s1
  have l1 : w.heap.size < w1.heap.size := by omega
  have l2 : w.heap.size + 1 < w1.heap.size := by omega
  go_wp2_with fail
  refine (W.out _).mono ?_
  rintro e w' ⟨rfl, rfl⟩
  go_wp2_with fail
  refine (R.out _).mono ?_
  rintro e w' ⟨rfl, rfl⟩
  go_wp2_with fail
  refine (T.out _).mono ?_
  rintro e w2 ⟨rfl, b2⟩
  have k2 := bcell b2
  go_wp2_with (go_at_call 13; refine (awake_yes _).mono ?_; rintro e w' ⟨rfl, hb⟩)
  go_ret
  refine ⟨rfl, bel_end (bel_end ?_ b2) hb⟩
  repeat (with_reducible refine bel_alloc ?_)
  refine bel_end ?_ b1
  repeat (with_reducible refine bel_alloc ?_)
  with_reducible exact Below.refl _ _
set_option maxRecDepth 100000 in
set_option maxHeartbeats 4000000 in
theorem ok_zero (r t p left : Int) (N X : Int) (hC : ∀ w, Calls Try.prog 15 #[.agg #[.int .i64 r], .int .i64 t, .int .i64 p] w (Gives (.tuple #[.int .i64 N, .agg #[.int .i64 X], .int .i64 0]) w)) (hW : ∀ w, Calls Try.prog 16 #[.int .i64 r, .int .i64 t, .int .i64 p] w fun e w' => e = .returned (.int .i64 0) ∧ w = w') (hR : ∀ w, Calls Try.prog 17 #[.int .i64 r, .int .i64 t, .int .i64 p] w fun e w' => e = .returned (.tuple #[.int .i64 N, .int .i64 X]) ∧ w = w') (h0 : 0 ≤ r) (h1 : r ≤ 1048575) (h4 : 1 ≤ left) (h5 : left ≤ 1073741824) (h : p = 0) (w : World) : Calls Try.prog 6 #[.agg #[.int .i64 r], .int .i64 t, .agg #[.int .i64 p, .int .i64 left]] w (Yes w) := by
  have C := Lib.hid hC
  have W := Lib.hid hW
  have R := Lib.hid hR
  have e1 : (N != N) = false := by simp
  have e2 : (X != X) = false := by simp
  clear hC hW hR
  subst h
  have T := Lib.hid (till_zero r left h0 h1 h4 h5)
  have d0 : (left == 0) = false := by simp; omega
  go_enter Try.func6, Try.ntmps6
  go_wp2_with fail
  refine (C.out _).mono ?_
  rintro e w1 ⟨rfl, b1⟩
  have k1 := bcell b1
  have s1 := b1.size
  simp only [World.size_alloc] at s1
  have l1 : w.heap.size < w1.heap.size := by omega
  have l2 : w.heap.size + 1 < w1.heap.size := by omega
  go_wp2_with fail
  refine (W.out _).mono ?_
  rintro e w' ⟨rfl, rfl⟩
  go_wp2_with fail
  refine (R.out _).mono ?_
  rintro e w' ⟨rfl, rfl⟩
  go_wp2_with fail
  refine (T.out _).mono ?_
  rintro e w2 ⟨rfl, b2⟩
  have k2 := bcell b2
  go_wp2_with (go_at_call 13; refine (awake_yes _).mono ?_; rintro e w' ⟨rfl, hb⟩)
  go_ret
  refine ⟨rfl, bel_end (bel_end ?_ b2) hb⟩
  repeat (with_reducible refine bel_alloc ?_)
  refine bel_end ?_ b1
  repeat (with_reducible refine bel_alloc ?_)
  with_reducible exact Below.refl _ _
set_option maxRecDepth 100000 in
set_option maxHeartbeats 4000000 in
theorem ok_late (r t p left : Int) (N X : Int) (hC : ∀ w, Calls Try.prog 15 #[.agg #[.int .i64 r], .int .i64 t, .int .i64 p] w (Gives (.tuple #[.int .i64 N, .agg #[.int .i64 X], .int .i64 0]) w)) (hW : ∀ w, Calls Try.prog 16 #[.int .i64 r, .int .i64 t, .int .i64 p] w fun e w' => e = .returned (.int .i64 0) ∧ w = w') (hR : ∀ w, Calls Try.prog 17 #[.int .i64 r, .int .i64 t, .int .i64 p] w fun e w' => e = .returned (.tuple #[.int .i64 N, .int .i64 X]) ∧ w = w') (h0 : 0 ≤ r) (h1 : r ≤ 1048575) (h2 : 1 ≤ p) (h3 : p ≤ 1048576) (h4 : 1 ≤ left) (h5 : left ≤ 1073741824) (h : 1099511627776 ≤ tillNum r left p) (w : World) : Calls Try.prog 6 #[.agg #[.int .i64 r], .int .i64 t, .agg #[.int .i64 p, .int .i64 left]] w (Yes w) := by
  have C := Lib.hid hC
  have W := Lib.hid hW
  have R := Lib.hid hR
  have e1 : (N != N) = false := by simp
  have e2 : (X != X) = false := by simp
  clear hC hW hR
  have T := Lib.hid (till_late r left p h0 h1 h4 h5 h2 h3 h)
  have R1 := Lib.hid (refCharge r 1099511627775 p h0 h1 (by omega) (by omega) (by omega) h3)
  have d0 : (left == 0) = false := by simp; omega
  have d1 : (p == 0) = false := by simp; omega
  have f1 := charge_under ((till_gt (k := 1099511627775) h0 h4 h1 h2).1 (by omega))
  generalize ((1099511627775 : Int) * p + r) % 1048576 = x1 at *
  have f1' : ((1099511627775 : Int) * p + r) / 1048576 < left := f1
  generalize ((1099511627775 : Int) * p + r) / 1048576 = y1 at *
  have f2 : decide (y1 < left) = true := by simp; exact f1'
  clear h f1
  go_enter Try.func6, Try.ntmps6
  go_wp2_with fail
  refine (C.out _).mono ?_
  rintro e w1 ⟨rfl, b1⟩
  have k1 := bcell b1
  have s1 := b1.size
  simp only [World.size_alloc] at s1
  have l1 : w.heap.size < w1.heap.size := by omega
  have l2 : w.heap.size + 1 < w1.heap.size := by omega
  go_wp2_with fail
  refine (W.out _).mono ?_
  rintro e w' ⟨rfl, rfl⟩
  go_wp2_with fail
  refine (R.out _).mono ?_
  rintro e w' ⟨rfl, rfl⟩
  go_wp2_with fail
  refine (T.out _).mono ?_
  rintro e w2 ⟨rfl, b2⟩
  have k2 := bcell b2
  go_wp2_with fail
  refine (R1.out _).mono ?_
  rintro e w' ⟨rfl, rfl⟩
  go_wp2_with (go_at_call 13; refine (awake_yes _).mono ?_; rintro e w' ⟨rfl, hb⟩)
  go_ret
  refine ⟨rfl, bel_end (bel_end ?_ b2) hb⟩
  repeat (with_reducible refine bel_alloc ?_)
  refine bel_end ?_ b1
  repeat (with_reducible refine bel_alloc ?_)
  with_reducible exact Below.refl _ _
set_option maxRecDepth 100000 in
set_option maxHeartbeats 4000000 in
theorem ok_good (r t p left : Int) (N X : Int) (hC : ∀ w, Calls Try.prog 15 #[.agg #[.int .i64 r], .int .i64 t, .int .i64 p] w (Gives (.tuple #[.int .i64 N, .agg #[.int .i64 X], .int .i64 0]) w)) (hW : ∀ w, Calls Try.prog 16 #[.int .i64 r, .int .i64 t, .int .i64 p] w fun e w' => e = .returned (.int .i64 0) ∧ w = w') (hR : ∀ w, Calls Try.prog 17 #[.int .i64 r, .int .i64 t, .int .i64 p] w fun e w' => e = .returned (.tuple #[.int .i64 N, .int .i64 X]) ∧ w = w') (h0 : 0 ≤ r) (h1 : r ≤ 1048575) (h2 : 1 ≤ p) (h3 : p ≤ 1048576) (h4 : 1 ≤ left) (h5 : left ≤ 1073741824) (h : tillNum r left p < 1099511627776) (w : World) : Calls Try.prog 6 #[.agg #[.int .i64 r], .int .i64 t, .agg #[.int .i64 p, .int .i64 left]] w (Yes w) := by
  have C := Lib.hid hC
  have W := Lib.hid hW
  have R := Lib.hid hR
  have e1 : (N != N) = false := by simp
  have e2 : (X != X) = false := by simp
  clear hC hW hR
  have T := Lib.hid (till_ok r left p h0 h1 h4 h5 h2 h3 h)
  have R1 := Lib.hid (refCharge r 1099511627775 p h0 h1 (by omega) (by omega) (by omega) h3)
  have d0 : (left == 0) = false := by simp; omega
  have d1 : (p == 0) = false := by simp; omega
  have f1 := charge_over (fun hx => by have := (till_gt (k := 1099511627775) h0 h4 h1 h2).2 hx; omega)
  have g1 := till_is (p := p) h0 h4 h1 h2
  have g2 := (till_le (p := p) h0 h4 h1 h5 h2).2
  have n1 : (1 : Int) ≤ (tillNum r left p : Int) := by omega
  have n2 : (tillNum r left p : Int) ≤ 1099511627775 := by omega
  clear h g2
  generalize (tillNum r left p : Int) = n at *
  have R2 := Lib.hid (refCharge r n p h0 h1 (by omega) (by omega) (by omega) h3)
  have R3 := Lib.hid (refCharge r (n - 1) p h0 h1 (by omega) (by omega) (by omega) h3)
  have f3 := charge_at g1.1
  have f4 := charge_not g1.2
  generalize ((1099511627775 : Int) * p + r) % 1048576 = x1 at *
  have f1' : left ≤ ((1099511627775 : Int) * p + r) / 1048576 := f1
  generalize ((1099511627775 : Int) * p + r) / 1048576 = y1 at *
  generalize (n * p + r) / 1048576 = y2 at *
  generalize (n * p + r) % 1048576 = x2 at *
  generalize ((n - 1) * p + r) / 1048576 = y3 at *
  generalize ((n - 1) * p + r) % 1048576 = x3 at *
  have f2 : decide (y1 < left) = false := by simp; exact f1'
  clear f1 g1
  go_enter Try.func6, Try.ntmps6
  go_wp2_with fail
  refine (C.out _).mono ?_
  rintro e w1 ⟨rfl, b1⟩
  have k1 := bcell b1
  have s1 := b1.size
  simp only [World.size_alloc] at s1
  have l1 : w.heap.size < w1.heap.size := by omega
  have l2 : w.heap.size + 1 < w1.heap.size := by omega
  go_wp2_with fail
  refine (W.out _).mono ?_
  rintro e w' ⟨rfl, rfl⟩
  go_wp2_with fail
  refine (R.out _).mono ?_
  rintro e w' ⟨rfl, rfl⟩
  go_wp2_with fail
  refine (T.out _).mono ?_
  rintro e w2 ⟨rfl, b2⟩
  have k2 := bcell b2
  go_wp2_with fail
  refine (R1.out _).mono ?_
  rintro e w' ⟨rfl, rfl⟩
  go_wp2_with fail
  refine (R2.out _).mono ?_
  rintro e w' ⟨rfl, rfl⟩
  go_wp2_with fail
  refine (R3.out _).mono ?_
  rintro e w' ⟨rfl, rfl⟩
  go_wp2_with (go_at_call 13; refine (awake_yes _).mono ?_; rintro e w' ⟨rfl, hb⟩)
  go_ret
  refine ⟨rfl, bel_end (bel_end ?_ b2) hb⟩
  repeat (with_reducible refine bel_alloc ?_)
  refine bel_end ?_ b1
  repeat (with_reducible refine bel_alloc ?_)
  with_reducible exact Below.refl _ _
theorem all_bad (r t p left : Int) (E : Int) (hE : (E == 0) = false) (hC : ∀ w, Calls Try.prog 15 #[.agg #[.int .i64 r], .int .i64 t, .int .i64 p] w (Gives (.tuple #[.int .i64 0, .agg #[.int .i64 0], .int .i64 E]) w)) (hW : ∀ w, Calls Try.prog 16 #[.int .i64 r, .int .i64 t, .int .i64 p] w fun e w' => e = .returned (.int .i64 E) ∧ w = w') (h0 : 0 ≤ r) (h1 : r ≤ 1048575) (w : World) : Calls Try.prog 6 #[.agg #[.int .i64 r], .int .i64 t, .agg #[.int .i64 p, .int .i64 left]] w (Yes w) := by
  by_cases hp : p < 0
  · exact bad_rate0 r t p left E hE hC hW h0 h1 hp w
  by_cases hp' : 1048576 < p
  · exact bad_rate1 r t p left E hE hC hW h0 h1 (by omega) hp' w
  by_cases hl : left < 0
  · exact bad_left0 r t p left E hE hC hW h0 h1 (by omega) (by omega) hl w
  by_cases hl' : 1073741824 < left
  · exact bad_left1 r t p left E hE hC hW h0 h1 (by omega) (by omega) (by omega) hl' w
  by_cases hz : left = 0
  · exact bad_none r t p left E hE hC hW h0 h1 (by omega) (by omega) hz w
  by_cases hy : p = 0
  · exact bad_zero r t p left E hE hC hW h0 h1 (by omega) (by omega) hy w
  by_cases ht : 1099511627776 ≤ tillNum r left p
  · exact bad_late r t p left E hE hC hW h0 h1 (by omega) (by omega) (by omega) (by omega) ht w
  exact bad_good r t p left E hE hC hW h0 h1 (by omega) (by omega) (by omega) (by omega) (by omega) w
theorem all_ok (r t p left : Int) (N X : Int) (hC : ∀ w, Calls Try.prog 15 #[.agg #[.int .i64 r], .int .i64 t, .int .i64 p] w (Gives (.tuple #[.int .i64 N, .agg #[.int .i64 X], .int .i64 0]) w)) (hW : ∀ w, Calls Try.prog 16 #[.int .i64 r, .int .i64 t, .int .i64 p] w fun e w' => e = .returned (.int .i64 0) ∧ w = w') (hR : ∀ w, Calls Try.prog 17 #[.int .i64 r, .int .i64 t, .int .i64 p] w fun e w' => e = .returned (.tuple #[.int .i64 N, .int .i64 X]) ∧ w = w') (h0 : 0 ≤ r) (h1 : r ≤ 1048575) (h2 : 0 ≤ p) (h3 : p ≤ 1048576) (w : World) : Calls Try.prog 6 #[.agg #[.int .i64 r], .int .i64 t, .agg #[.int .i64 p, .int .i64 left]] w (Yes w) := by
  by_cases hp : p < 0
  · omega
  by_cases hp' : 1048576 < p
  · omega
  by_cases hl : left < 0
  · exact ok_left0 r t p left N X hC hW hR h0 h1 (by omega) (by omega) hl w
  by_cases hl' : 1073741824 < left
  · exact ok_left1 r t p left N X hC hW hR h0 h1 (by omega) (by omega) (by omega) hl' w
  by_cases hz : left = 0
  · exact ok_none r t p left N X hC hW hR h0 h1 (by omega) (by omega) hz w
  by_cases hy : p = 0
  · exact ok_zero r t p left N X hC hW hR h0 h1 (by omega) (by omega) hy w
  by_cases ht : 1099511627776 ≤ tillNum r left p
  · exact ok_late r t p left N X hC hW hR h0 h1 (by omega) (by omega) (by omega) (by omega) ht w
  exact ok_good r t p left N X hC hW hR h0 h1 (by omega) (by omega) (by omega) (by omega) (by omega) w
theorem walk (r t p left : Int) (_ : (Lit.int .i64 r).wf = true) (_ : (Lit.int .i64 t).wf = true) (_ : (Lit.int .i64 p).wf = true) (_ : (Lit.int .i64 left).wf = true) (w : World) : Calls Try.prog 6 #[.agg #[.int .i64 r], .int .i64 t, .agg #[.int .i64 p, .int .i64 left]] w (Yes w) := by
  by_cases hr : r < 0
  · exact bad_arg0 r t p left 1 (by decide) (charge_arg r t p (.inl hr)) (wrong_arg r t p (.inl hr)) hr w
  by_cases hr' : 1048575 < r
  · exact bad_arg1 r t p left 1 (by decide) (charge_arg r t p (.inr hr')) (wrong_arg r t p (.inr hr')) (by omega) hr' w
  have h0 : 0 ≤ r := by omega
  have h1 : r ≤ 1048575 := by omega
  by_cases ht : t < 0
  · exact all_bad r t p left 10 (by decide) (charge_time r t p h0 h1 10 (timeE_low ht) (by decide)) (wrong_time r t p h0 h1 10 (timeE_low ht) (by decide)) h0 h1 w
  by_cases ht' : 1099511627776 ≤ t
  · exact all_bad r t p left 21 (by decide) (charge_time r t p h0 h1 21 (timeE_high ht') (by decide)) (wrong_time r t p h0 h1 21 (timeE_high ht') (by decide)) h0 h1 w
  by_cases hp : p < 0 ∨ 1048576 < p
  · exact all_bad r t p left 10 (by decide) (charge_rate r t p h0 h1 (by omega) (by omega) hp) (wrong_rate r t p h0 h1 (by omega) (by omega) hp) h0 h1 w
  exact all_ok r t p left _ _ (charge_gives r t p h0 h1 (by omega) (by omega) (by omega) (by omega)) (wrong_ok r t p h0 h1 (by omega) (by omega) (by omega) (by omega)) (refCharge r t p h0 h1 (by omega) (by omega) (by omega) (by omega)) h0 h1 (by omega) (by omega) w

set_option maxRecDepth 100000 in
theorem lifted (os : Os) (started : os.Started) (H : Type) (enc : TypeId × Value → H) :
    ReturnsInHanded {} Try.checked os 6 .any (Rows.grubChargesSpec.pre6 enc Try.prog Try.f6 Rows.grubChargesRow.domain false) (Rows.grubChargesSpec.post enc Try.prog Try.f6 false true false false) := by
  refine returnsInHanded_of_change (C := Try.checked) own started (by kernel_rfl) Try.func6
    (ChangeSpec.witness6 (enc := enc) (C := Try.checked) false ⟨#[], #[.agg #[.int .i64 0], .int .i64 0, .agg #[.int .i64 0, .int .i64 0]], []⟩ 8 (by kernel_rfl) (by kernel_rfl) (by kernel_rfl) (by kernel_rfl)) ?_
  intro W base args ds gs before hval0 hW hcnd _
  have hval : ∀ (j : Nat) t v, Try.f6.params[j]? = some t → args[j]? = some v → Value.okWide Try.prog W .any base t v := hval0
  have hW' := hW
  obtain ⟨p, q, hA0, hV, _, hfz, hnd⟩ := hW'
  have hA : DataW.TrodAll enc Try.prog W 0 (fun _ => true) true Try.f6.params.toList args.toList ds p := hA0
  rw [Try.params6] at hA hval
  obtain ⟨v0, v1, v2, d0, d1, d2, p0, p1, p2, rfl, _, _, h0, h1, h2⟩ := trodAll_three hA
  obtain ⟨c00, y00, m0, rfl, hy00⟩ := open_agg1 Try.underlying35 (by kernel_rfl) (by kernel_rfl) (hval 0 35 v0 rfl rfl) h0
  obtain ⟨r, e00, _, wr⟩ := DataW.trod_int Try.underlying3 hy00
  simp at e00
  subst e00
  obtain ⟨t, rfl, _, _, wt⟩ := open_int Try.underlying3 (hval 1 3 v1 rfl rfl) h1
  obtain ⟨p, left, rfl, wp, wleft⟩ := open_arr2 Try.underlying36 Try.underlying3 (by kernel_rfl) (by kernel_rfl) (hval 2 36 v2 rfl rfl) h2
  refine (walk r t p left wr wt wp wleft W).mono fun e W' h => ?_
  exact law_post (f := Try.f6) rfl rfl Try.underlying4 (by kernel_rfl) (fun ds hd => by
    match ds, hd with
    | [_, _, _], _ => rfl) hW h

theorem over : Rows.grubChargesRow.holds Try.pinned (OpenSpec.ofChange Rows.grubChargesSpec) :=
  OpenClaim.holds_of_wide 6 Try.f6 rfl rfl rfl rfl rfl rfl rfl ⟨rfl, rfl, rfl, rfl, rfl⟩ rfl rfl rfl rfl rfl (by kernel_rfl) Try.func6 (by kernel_rfl)
    (of_decide_eq_true (by kernel_rfl)) (by unfold Func.isWrapper; first | (rw [if_pos (by decide +kernel)]; kernel_rfl) | (rw [if_neg (by decide +kernel)]; exact ⟨rfl, rfl⟩))
    (fun os started H enc _ => lifted os started H enc)

/-- THE STATEMENT. -/
theorem proved : Rows.GrubChargesSaid := over
end Go.Proofs.Ytnahedmccbkflaa.grubCharges
