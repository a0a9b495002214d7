/- GrubCharges where a charge is refused: it answers true. No condition but its premises. -/
import Derived.Test.YtnahedmccbkflaaGrubAwake
import Derived.Test.YtnahedmccbkflaaGrubBad
import Derived.WalkLawsBesides
import Derived.WalkSpells
import Derived.Outline
namespace Go.Proofs.Ytnahedmccbkflaa.grubCharges
open Go.ChangeShapes Go.WideShapes Go.ChangeAt Go.RowKit Go.Joins

/-! ### the plain law -/
theorem charge_at {r t p k : Int} (h : k * 1048576 ≤ t * p + r) : k ≤ (t * p + r) / 1048576 := by
  generalize t * p = x at *; omega
theorem charge_not {r t p k : Int} (h : t * p - p + r < k * 1048576) : ((t - 1) * p + r) / 1048576 < k := by
  rw [Int.sub_mul, Int.one_mul]; generalize t * p = x at *; omega
theorem charge_under {r t p k : Int} (h : t * p + r < k * 1048576) : (t * p + r) / 1048576 < k := by
  generalize t * p = x at *; omega
theorem charge_over {r t p k : Int} (h : ¬ t * p + r < k * 1048576) : k ≤ (t * p + r) / 1048576 := by
  generalize t * p = x at *; omega

/-! ### the walk -/
set_option maxRecDepth 100000 in
set_option maxHeartbeats 4000000 in
theorem bad_arg0 (r t p left : Int) (E : Int) (hE : (E == 0) = false) (hC : ∀ w, Calls Try.prog 15 #[.agg #[.int .i64 r], .int .i64 t, .int .i64 p] w (Gives (.tuple #[.int .i64 0, .agg #[.int .i64 0], .int .i64 E]) w)) (hW : ∀ w, Calls Try.prog 16 #[.int .i64 r, .int .i64 t, .int .i64 p] w fun e w' => e = .returned (.int .i64 E) ∧ w = w') (h : r < 0) (w : World) : Calls Try.prog 6 #[.agg #[.int .i64 r], .int .i64 t, .agg #[.int .i64 p, .int .i64 left]] w (Yes w) := by
  have C := Lib.hid hC
  have W := Lib.hid hW
  have e1 : (E != 0) = true := by simp at hE ⊢; exact hE
  have e2 : (E != E) = false := by simp
  have e3 : (E == E) = true := by simp
  clear hC hW
  have T := Lib.hid (till_arg r left p (.inl h))
  go_enter Try.func6, Try.ntmps6
  go_wp2_with fail
  refine (C.out _).mono ?_
  rintro e w1 ⟨rfl, b1⟩
  have k1 := bcell b1
  have s1 := b1.size
  simp only [World.size_alloc] at s1
  have l1 : w.heap.size < w1.heap.size := by omega
  have l2 : w.heap.size + 1 < w1.heap.size := by omega
  go_wp2_with fail
  refine (W.out _).mono ?_
  rintro e w' ⟨rfl, rfl⟩
  go_wp2_with fail
  refine (T.out _).mono ?_
  rintro e w2 ⟨rfl, b2⟩
  have k2 := bcell b2
  go_wp2_with (go_at_call 13; refine (awake_yes _).mono ?_; rintro e w' ⟨rfl, hb⟩)
  go_ret
  refine ⟨rfl, bel_end (bel_end ?_ b2) hb⟩
  repeat (with_reducible refine bel_alloc ?_)
  refine bel_end ?_ b1
  repeat (with_reducible refine bel_alloc ?_)
  with_reducible exact Below.refl _ _
set_option maxRecDepth 100000 in
set_option maxHeartbeats 4000000 in
theorem bad_arg1 (r t p left : Int) (E : Int) (hE : (E == 0) = false) (hC : ∀ w, Calls Try.prog 15 #[.agg #[.int .i64 r], .int .i64 t, .int .i64 p] w (Gives (.tuple #[.int .i64 0, .agg #[.int .i64 0], .int .i64 E]) w)) (hW : ∀ w, Calls Try.prog 16 #[.int .i64 r, .int .i64 t, .int .i64 p] w fun e w' => e = .returned (.int .i64 E) ∧ w = w') (h0 : 0 ≤ r) (h : 1048575 < r) (w : World) : Calls Try.prog 6 #[.agg #[.int .i64 r], .int .i64 t, .agg #[.int .i64 p, .int .i64 left]] w (Yes w) := by
  have C := Lib.hid hC
  have W := Lib.hid hW
  have e1 : (E != 0) = true := by simp at hE ⊢; exact hE
  have e2 : (E != E) = false := by simp
  have e3 : (E == E) = true := by simp
  clear hC hW
  have T := Lib.hid (till_arg r left p (.inr h))
  go_enter Try.func6, Try.ntmps6
  go_wp2_with fail
  refine (C.out _).mono ?_
  rintro e w1 ⟨rfl, b1⟩
  have k1 := bcell b1
  have s1 := b1.size
  simp only [World.size_alloc] at s1
  have l1 : w.heap.size < w1.heap.size := by omega
  have l2 : w.heap.size + 1 < w1.heap.size := by omega
  go_wp2_with fail
  refine (W.out _).mono ?_
  rintro e w' ⟨rfl, rfl⟩
  go_wp2_with fail
  refine (T.out _).mono ?_
  rintro e w2 ⟨rfl, b2⟩
  have k2 := bcell b2
  go_wp2_with (go_at_call 13; refine (awake_yes _).mono ?_; rintro e w' ⟨rfl, hb⟩)
  go_ret
  refine ⟨rfl, bel_end (bel_end ?_ b2) hb⟩
  repeat (with_reducible refine bel_alloc ?_)
  refine bel_end ?_ b1
  repeat (with_reducible refine bel_alloc ?_)
  with_reducible exact Below.refl _ _
set_option maxRecDepth 100000 in
set_option maxHeartbeats 4000000 in
theorem bad_rate0 (r t p left : Int) (E : Int) (hE : (E == 0) = false) (hC : ∀ w, Calls Try.prog 15 #[.agg #[.int .i64 r], .int .i64 t, .int .i64 p] w (Gives (.tuple #[.int .i64 0, .agg #[.int .i64 0], .int .i64 E]) w)) (hW : ∀ w, Calls Try.prog 16 #[.int .i64 r, .int .i64 t, .int .i64 p] w fun e w' => e = .returned (.int .i64 E) ∧ w = w') (h0 : 0 ≤ r) (h1 : r ≤ 1048575) (h : p < 0) (w : World) : Calls Try.prog 6 #[.agg #[.int .i64 r], .int .i64 t, .agg #[.int .i64 p, .int .i64 left]] w (Yes w) := by
  have C := Lib.hid hC
  have W := Lib.hid hW
  have e1 : (E != 0) = true := by simp at hE ⊢; exact hE
  have e2 : (E != E) = false := by simp
  have e3 : (E == E) = true := by simp
  clear hC hW
  have T := Lib.hid (till_rate r left p h0 h1 (.inl h))
  go_enter Try.func6, Try.ntmps6
  go_wp2_with fail
  refine (C.out _).mono ?_
  rintro e w1 ⟨rfl, b1⟩
  have k1 := bcell b1
  have s1 := b1.size
  simp only [World.size_alloc] at s1
  have l1 : w.heap.size < w1.heap.size := by omega
  have l2 : w.heap.size + 1 < w1.heap.size := by omega
  go_wp2_with fail
  refine (W.out _).mono ?_
  rintro e w' ⟨rfl, rfl⟩
  go_wp2_with fail
  refine (T.out _).mono ?_
  rintro e w2 ⟨rfl, b2⟩
  have k2 := bcell b2
  go_wp2_with (go_at_call 13; refine (awake_yes _).mono ?_; rintro e w' ⟨rfl, hb⟩)
  go_ret
  refine ⟨rfl, bel_end (bel_end ?_ b2) hb⟩
  repeat (with_reducible refine bel_alloc ?_)
  refine bel_end ?_ b1
  repeat (with_reducible refine bel_alloc ?_)
  with_reducible exact Below.refl _ _
set_option maxRecDepth 100000 in
set_option maxHeartbeats 4000000 in
theorem bad_rate1 (r t p left : Int) (E : Int) (hE : (E == 0) = false) (hC : ∀ w, Calls Try.prog 15 #[.agg #[.int .i64 r], .int .i64 t, .int .i64 p] w (Gives (.tuple #[.int .i64 0, .agg #[.int .i64 0], .int .i64 E]) w)) (hW : ∀ w, Calls Try.prog 16 #[.int .i64 r, .int .i64 t, .int .i64 p] w fun e w' => e = .returned (.int .i64 E) ∧ w = w') (h0 : 0 ≤ r) (h1 : r ≤ 1048575) (h2 : 0 ≤ p) (h : 1048576 < p) (w : World) : Calls Try.prog 6 #[.agg #[.int .i64 r], .int .i64 t, .agg #[.int .i64 p, .int .i64 left]] w (Yes w) := by
  have C := Lib.hid hC
  have W := Lib.hid hW
  have e1 : (E != 0) = true := by simp at hE ⊢; exact hE
  have e2 : (E != E) = false := by simp
  have e3 : (E == E) = true := by simp
  clear hC hW
  have T := Lib.hid (till_rate r left p h0 h1 (.inr h))
  go_enter Try.func6, Try.ntmps6
  go_wp2_with fail
  refine (C.out _).mono ?_
  rintro e w1 ⟨rfl, b1⟩
  have k1 := bcell b1
  have s1 := b1.size
  simp only [World.size_alloc] at s1
  have l1 : w.heap.size < w1.heap.size := by omega
  have l2 : w.heap.size + 1 < w1.heap.size := by omega
  go_wp2_with fail
  refine (W.out _).mono ?_
  rintro e w' ⟨rfl, rfl⟩
  go_wp2_with fail
  refine (T.out _).mono ?_
  rintro e w2 ⟨rfl, b2⟩
  have k2 := bcell b2
  go_wp2_with (go_at_call 13; refine (awake_yes _).mono ?_; rintro e w' ⟨rfl, hb⟩)
  go_ret
  refine ⟨rfl, bel_end (bel_end ?_ b2) hb⟩
  repeat (with_reducible refine bel_alloc ?_)
  refine bel_end ?_ b1
  repeat (with_reducible refine bel_alloc ?_)
  with_reducible exact Below.refl _ _
set_option maxRecDepth 100000 in
set_option maxHeartbeats 4000000 in
theorem bad_left0 (r t p left : Int) (E : Int) (hE : (E == 0) = false) (hC : ∀ w, Calls Try.prog 15 #[.agg #[.int .i64 r], .int .i64 t, .int .i64 p] w (Gives (.tuple #[.int .i64 0, .agg #[.int .i64 0], .int .i64 E]) w)) (hW : ∀ w, Calls Try.prog 16 #[.int .i64 r, .int .i64 t, .int .i64 p] w fun e w' => e = .returned (.int .i64 E) ∧ w = w') (h0 : 0 ≤ r) (h1 : r ≤ 1048575) (h2 : 0 ≤ p) (h3 : p ≤ 1048576) (h : left < 0) (w : World) : Calls Try.prog 6 #[.agg #[.int .i64 r], .int .i64 t, .agg #[.int .i64 p, .int .i64 left]] w (Yes w) := by
  have C := Lib.hid hC
  have W := Lib.hid hW
  have e1 : (E != 0) = true := by simp at hE ⊢; exact hE
  have e2 : (E != E) = false := by simp
  have e3 : (E == E) = true := by simp
  clear hC hW
  have T := Lib.hid (till_left r left p h0 h1 h2 h3 (.inl h))
  go_enter Try.func6, Try.ntmps6
  go_wp2_with fail
  refine (C.out _).mono ?_
  rintro e w1 ⟨rfl, b1⟩
  have k1 := bcell b1
  have s1 := b1.size
  simp only [World.size_alloc] at s1
  have l1 : w.heap.size < w1.heap.size := by omega
  have l2 : w.heap.size + 1 < w1.heap.size := by omega
  go_wp2_with fail
  refine (W.out _).mono ?_
  rintro e w' ⟨rfl, rfl⟩
  go_wp2_with fail
  refine (T.out _).mono ?_
  rintro e w2 ⟨rfl, b2⟩
  have k2 := bcell b2
  go_wp2_with (go_at_call 13; refine (awake_yes _).mono ?_; rintro e w' ⟨rfl, hb⟩)
  go_ret
  refine ⟨rfl, bel_end (bel_end ?_ b2) hb⟩
  repeat (with_reducible refine bel_alloc ?_)
  refine bel_end ?_ b1
  repeat (with_reducible refine bel_alloc ?_)
  with_reducible exact Below.refl _ _
set_option maxRecDepth 100000 in
set_option maxHeartbeats 4000000 in
theorem bad_left1 (r t p left : Int) (E : Int) (hE : (E == 0) = false) (hC : ∀ w, Calls Try.prog 15 #[.agg #[.int .i64 r], .int .i64 t, .int .i64 p] w (Gives (.tuple #[.int .i64 0, .agg #[.int .i64 0], .int .i64 E]) w)) (hW : ∀ w, Calls Try.prog 16 #[.int .i64 r, .int .i64 t, .int .i64 p] w fun e w' => e = .returned (.int .i64 E) ∧ w = w') (h0 : 0 ≤ r) (h1 : r ≤ 1048575) (h2 : 0 ≤ p) (h3 : p ≤ 1048576) (h4 : 0 ≤ left) (h : 1073741824 < left) (w : World) : Calls Try.prog 6 #[.agg #[.int .i64 r], .int .i64 t, .agg #[.int .i64 p, .int .i64 left]] w (Yes w) := by
  have C := Lib.hid hC
  have W := Lib.hid hW
  have e1 : (E != 0) = true := by simp at hE ⊢; exact hE
  have e2 : (E != E) = false := by simp
  have e3 : (E == E) = true := by simp
  clear hC hW
  have T := Lib.hid (till_left r left p h0 h1 h2 h3 (.inr h))
  go_enter Try.func6, Try.ntmps6
  go_wp2_with fail
  refine (C.out _).mono ?_
  rintro e w1 ⟨rfl, b1⟩
  have k1 := bcell b1
  have s1 := b1.size
  simp only [World.size_alloc] at s1
  have l1 : w.heap.size < w1.heap.size := by omega
  have l2 : w.heap.size + 1 < w1.heap.size := by omega
  go_wp2_with fail
  refine (W.out _).mono ?_
  rintro e w' ⟨rfl, rfl⟩
  go_wp2_with fail
  refine (T.out _).mono ?_
  rintro e w2 ⟨rfl, b2⟩
  have k2 := bcell b2
  go_wp2_with (go_at_call 13; refine (awake_yes _).mono ?_; rintro e w' ⟨rfl, hb⟩)
  go_ret
  refine ⟨rfl, bel_end (bel_end ?_ b2) hb⟩
  repeat (with_reducible refine bel_alloc ?_)
  refine bel_end ?_ b1
  repeat (with_reducible refine bel_alloc ?_)
  with_reducible exact Below.refl _ _
set_option maxRecDepth 100000 in
set_option maxHeartbeats 4000000 in
theorem bad_none (r t p left : Int) (E : Int) (hE : (E == 0) = false) (hC : ∀ w, Calls Try.prog 15 #[.agg #[.int .i64 r], .int .i64 t, .int .i64 p] w (Gives (.tuple #[.int .i64 0, .agg #[.int .i64 0], .int .i64 E]) w)) (hW : ∀ w, Calls Try.prog 16 #[.int .i64 r, .int .i64 t, .int .i64 p] w fun e w' => e = .returned (.int .i64 E) ∧ w = w') (h0 : 0 ≤ r) (h1 : r ≤ 1048575) (h2 : 0 ≤ p) (h3 : p ≤ 1048576) (h : left = 0) (w : World) : Calls Try.prog 6 #[.agg #[.int .i64 r], .int .i64 t, .agg #[.int .i64 p, .int .i64 left]] w (Yes w) := by
  have C := Lib.hid hC
  have W := Lib.hid hW
  have e1 : (E != 0) = true := by simp at hE ⊢; exact hE
  have e2 : (E != E) = false := by simp
  have e3 : (E == E) = true := by simp
  clear hC hW
  subst h
  have T := Lib.hid (till_none r p h0 h1 h2 h3)
  go_enter Try.func6, Try.ntmps6
  go_wp2_with fail
  refine (C.out _).mono ?_
  rintro e w1 ⟨rfl, b1⟩
  have k1 := bcell b1
  have s1 := b1.size
  simp only [World.size_alloc] at s1
  have l1 : w.heap.size < w1.heap.size := by omega
  have l2 : w.heap.size + 1 < w1.heap.size := by omega
  go_wp2_with fail
  refine (W.out _).mono ?_
  rintro e w' ⟨rfl, rfl⟩
  go_wp2_with fail
  refine (T.out _).mono ?_
  rintro e w2 ⟨rfl, b2⟩
  have k2 := bcell b2
  go_wp2_with (go_at_call 13; refine (awake_yes _).mono ?_; rintro e w' ⟨rfl, hb⟩)
  go_ret
  refine ⟨rfl, bel_end (bel_end ?_ b2) hb⟩
  repeat (with_reducible refine bel_alloc ?_)
  refine bel_end ?_ b1
  repeat (with_reducible refine bel_alloc ?_)
  with_reducible exact Below.refl _ _
set_option maxRecDepth 100000 in
set_option maxHeartbeats 4000000 in
theorem bad_zero (r t p left : Int) (E : Int) (hE : (E == 0) = false) (hC : ∀ w, Calls Try.prog 15 #[.agg #[.int .i64 r], .int .i64 t, .int .i64 p] w (Gives (.tuple #[.int .i64 0, .agg #[.int .i64 0], .int .i64 E]) w)) (hW : ∀ w, Calls Try.prog 16 #[.int .i64 r, .int .i64 t, .int .i64 p] w fun e w' => e = .returned (.int .i64 E) ∧ w = w') (h0 : 0 ≤ r) (h1 : r ≤ 1048575) (h4 : 1 ≤ left) (h5 : left ≤ 1073741824) (h : p = 0) (w : World) : Calls Try.prog 6 #[.agg #[.int .i64 r], .int .i64 t, .agg #[.int .i64 p, .int .i64 left]] w (Yes w) := by
  have C := Lib.hid hC
  have W := Lib.hid hW
  have e1 : (E != 0) = true := by simp at hE ⊢; exact hE
  have e2 : (E != E) = false := by simp
  have e3 : (E == E) = true := by simp
  clear hC hW
  subst h
  have T := Lib.hid (till_zero r left h0 h1 h4 h5)
  have d0 : (left == 0) = false := by simp; omega
  go_enter Try.func6, Try.ntmps6
  go_wp2_with fail
  refine (C.out _).mono ?_
  rintro e w1 ⟨rfl, b1⟩
  have k1 := bcell b1
  have s1 := b1.size
  simp only [World.size_alloc] at s1
  have l1 : w.heap.size < w1.heap.size := by omega
  have l2 : w.heap.size + 1 < w1.heap.size := by omega
  go_wp2_with fail
  refine (W.out _).mono ?_
  rintro e w' ⟨rfl, rfl⟩
  go_wp2_with fail
  refine (T.out _).mono ?_
  rintro e w2 ⟨rfl, b2⟩
  have k2 := bcell b2
  go_wp2_with (go_at_call 13; refine (awake_yes _).mono ?_; rintro e w' ⟨rfl, hb⟩)
  go_ret
  refine ⟨rfl, bel_end (bel_end ?_ b2) hb⟩
  repeat (with_reducible refine bel_alloc ?_)
  refine bel_end ?_ b1
  repeat (with_reducible refine bel_alloc ?_)
  with_reducible exact Below.refl _ _
set_option maxRecDepth 100000 in
set_option maxHeartbeats 4000000 in
theorem bad_late (r t p left : Int) (E : Int) (hE : (E == 0) = false) (hC : ∀ w, Calls Try.prog 15 #[.agg #[.int .i64 r], .int .i64 t, .int .i64 p] w (Gives (.tuple #[.int .i64 0, .agg #[.int .i64 0], .int .i64 E]) w)) (hW : ∀ w, Calls Try.prog 16 #[.int .i64 r, .int .i64 t, .int .i64 p] w fun e w' => e = .returned (.int .i64 E) ∧ w = w') (h0 : 0 ≤ r) (h1 : r ≤ 1048575) (h2 : 1 ≤ p) (h3 : p ≤ 1048576) (h4 : 1 ≤ left) (h5 : left ≤ 1073741824) (h : 1099511627776 ≤ tillNum r left p) (w : World) : Calls Try.prog 6 #[.agg #[.int .i64 r], .int .i64 t, .agg #[.int .i64 p, .int .i64 left]] w (Yes w) := by
  have C := Lib.hid hC
  have W := Lib.hid hW
  have e1 : (E != 0) = true := by simp at hE ⊢; exact hE
  have e2 : (E != E) = false := by simp
  have e3 : (E == E) = true := by simp
  clear hC hW
  have T := Lib.hid (till_late r left p h0 h1 h4 h5 h2 h3 h)
  have R1 := Lib.hid (refCharge r 1099511627775 p h0 h1 (by omega) (by omega) (by omega) h3)
  have d0 : (left == 0) = false := by simp; omega
  have d1 : (p == 0) = false := by simp; omega
  have f1 := charge_under ((till_gt (k := 1099511627775) h0 h4 h1 h2).1 (by omega))
  generalize ((1099511627775 : Int) * p + r) % 1048576 = x1 at *
  have f1' : ((1099511627775 : Int) * p + r) / 1048576 < left := f1
  generalize ((1099511627775 : Int) * p + r) / 1048576 = y1 at *
  have f2 : decide (y1 < left) = true := by simp; exact f1'
  clear h f1
  go_enter Try.func6, Try.ntmps6
  go_wp2_with fail
  refine (C.out _).mono ?_
  rintro e w1 ⟨rfl, b1⟩
  have k1 := bcell b1
  have s1 := b1.size
  simp only [World.size_alloc] at s1
  have l1 : w.heap.size < w1.heap.size := by omega
  have l2 : w.heap.size + 1 < w1.heap.size := by omega
  go_wp2_with fail
  refine (W.out _).mono ?_
  rintro e w' ⟨rfl, rfl⟩
  go_wp2_with fail
  refine (T.out _).mono ?_
  rintro e w2 ⟨rfl, b2⟩
  have k2 := bcell b2
  go_wp2_with fail
  refine (R1.out _).mono ?_
  rintro e w' ⟨rfl, rfl⟩
  go_wp2_with (go_at_call 13; refine (awake_yes _).mono ?_; rintro e w' ⟨rfl, hb⟩)
  go_ret
  refine ⟨rfl, bel_end (bel_end ?_ b2) hb⟩
  repeat (with_reducible refine bel_alloc ?_)
  refine bel_end ?_ b1
  repeat (with_reducible refine bel_alloc ?_)
  with_reducible exact Below.refl _ _
set_option maxRecDepth 100000 in
set_option maxHeartbeats 4000000 in
theorem bad_good (r t p left : Int) (E : Int) (hE : (E == 0) = false) (hC : ∀ w, Calls Try.prog 15 #[.agg #[.int .i64 r], .int .i64 t, .int .i64 p] w (Gives (.tuple #[.int .i64 0, .agg #[.int .i64 0], .int .i64 E]) w)) (hW : ∀ w, Calls Try.prog 16 #[.int .i64 r, .int .i64 t, .int .i64 p] w fun e w' => e = .returned (.int .i64 E) ∧ w = w') (h0 : 0 ≤ r) (h1 : r ≤ 1048575) (h2 : 1 ≤ p) (h3 : p ≤ 1048576) (h4 : 1 ≤ left) (h5 : left ≤ 1073741824) (h : tillNum r left p < 1099511627776) (w : World) : Calls Try.prog 6 #[.agg #[.int .i64 r], .int .i64 t, .agg #[.int .i64 p, .int .i64 left]] w (Yes w) := by
  have C := Lib.hid hC
  have W := Lib.hid hW
  have e1 : (E != 0) = true := by simp at hE ⊢; exact hE
  have e2 : (E != E) = false := by simp
  have e3 : (E == E) = true := by simp
  clear hC hW
  have T := Lib.hid (till_ok r left p h0 h1 h4 h5 h2 h3 h)
  have R1 := Lib.hid (refCharge r 1099511627775 p h0 h1 (by omega) (by omega) (by omega) h3)
  have d0 : (left == 0) = false := by simp; omega
  have d1 : (p == 0) = false := by simp; omega
  have f1 := charge_over (fun hx => by have := (till_gt (k := 1099511627775) h0 h4 h1 h2).2 hx; omega)
  have g1 := till_is (p := p) h0 h4 h1 h2
  have g2 := (till_le (p := p) h0 h4 h1 h5 h2).2
  have n1 : (1 : Int) ≤ (tillNum r left p : Int) := by omega
  have n2 : (tillNum r left p : Int) ≤ 1099511627775 := by omega
  clear h g2
  generalize (tillNum r left p : Int) = n at *
  have R2 := Lib.hid (refCharge r n p h0 h1 (by omega) (by omega) (by omega) h3)
  have R3 := Lib.hid (refCharge r (n - 1) p h0 h1 (by omega) (by omega) (by omega) h3)
  have f3 := charge_at g1.1
  have f4 := charge_not g1.2
  generalize ((1099511627775 : Int) * p + r) % 1048576 = x1 at *
  have f1' : left ≤ ((1099511627775 : Int) * p + r) / 1048576 := f1
  generalize ((1099511627775 : Int) * p + r) / 1048576 = y1 at *
  generalize (n * p + r) / 1048576 = y2 at *
  generalize (n * p + r) % 1048576 = x2 at *
  generalize ((n - 1) * p + r) / 1048576 = y3 at *
  generalize ((n - 1) * p + r) % 1048576 = x3 at *
  have f2 : decide (y1 < left) = false := by simp; exact f1'
  clear f1 g1
  go_enter Try.func6, Try.ntmps6
  go_wp2_with fail
  refine (C.out _).mono ?_
  rintro e w1 ⟨rfl, b1⟩
  have k1 := bcell b1
  have s1 := b1.size
  simp only [World.size_alloc] at s1
  have l1 : w.heap.size < w1.heap.size := by omega
  have l2 : w.heap.size + 1 < w1.heap.size := by omega
  go_wp2_with fail
  refine (W.out _).mono ?_
  rintro e w' ⟨rfl, rfl⟩
  go_wp2_with fail
  refine (T.out _).mono ?_
  rintro e w2 ⟨rfl, b2⟩
  have k2 := bcell b2
  go_wp2_with fail
  refine (R1.out _).mono ?_
  rintro e w' ⟨rfl, rfl⟩
  go_wp2_with fail
  refine (R2.out _).mono ?_
  rintro e w' ⟨rfl, rfl⟩
  go_wp2_with fail
  refine (R3.out _).mono ?_
  rintro e w' ⟨rfl, rfl⟩
  go_wp2_with (go_at_call 13; refine (awake_yes _).mono ?_; rintro e w' ⟨rfl, hb⟩)
  go_ret
  refine ⟨rfl, bel_end (bel_end ?_ b2) hb⟩
  repeat (with_reducible refine bel_alloc ?_)
  refine bel_end ?_ b1
  repeat (with_reducible refine bel_alloc ?_)
  with_reducible exact Below.refl _ _
end Go.Proofs.Ytnahedmccbkflaa.grubCharges
