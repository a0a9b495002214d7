/- GrubUntil answers true at every meter, budget and rate. No condition. -/
import Derived.Test.YtnahedmccbkflaaGrubAwake
import Derived.Test.YtnahedmccbkflaaGrubBad
import Derived.WalkLawsBesides
import Derived.WalkSpells
import Derived.Outline
namespace Go.Proofs.Ytnahedmccbkflaa.grubUntil
open Go.ChangeShapes Go.WideShapes Go.ChangeAt Go.RowKit Go.Joins

/-! ### the plain law -/
theorem bel_via {a w w1 w' : World} (h : Below a.heap.size a w) (hb : Below w1.heap.size w1 w') (hm : Below w.heap.size w w1) : Below a.heap.size a w' := bel_end (bel_end h hm) hb
theorem charge_at {r t p k : Int} (h : k * 1048576 ≤ t * p + r) : k ≤ (t * p + r) / 1048576 := by
  generalize t * p = x at *; omega
theorem charge_not {r t p k : Int} (h : t * p - p + r < k * 1048576) : ((t - 1) * p + r) / 1048576 < k := by
  rw [Int.sub_mul, Int.one_mul]; generalize t * p = x at *; omega
theorem charge_one {r t : Int} (h0 : 0 ≤ r) (h1 : r ≤ 1048575) : (t * 1048576 + r) / 1048576 = t ∧ (t * 1048576 + r) % 1048576 = r := by omega
theorem till_one {left : Int} (h : 1 ≤ left) : (tillNum 0 left 1048576 : Int) = left := by
  unfold tillNum
  have e : (left * 1048576 - 0).toNat = left.toNat * 1048576 := by omega
  rw [e, show (1048576 : Int).toNat = 1048576 from rfl, quot_exact true (by omega)]; omega
set_option maxRecDepth 100000 in
set_option maxHeartbeats 4000000 in
theorem late (r left p : Int) (h0 : 0 ≤ r) (h1 : r ≤ 1048575) (h4 : 1 ≤ p) (h5 : p ≤ 1048576) (hl : 1 ≤ left) (hl' : left ≤ 1073741824) (hn : 1099511627776 ≤ tillNum r left p) (w : World) : Calls Try.prog 7 #[.agg #[.int .i64 r], .int .i64 left, .int .i64 p] w (Yes w) := by
  have T := Lib.hid (till_late r left p h0 h1 hl hl' h4 h5 hn)
  clear hn
  go_enter Try.func7, Try.ntmps7
  go_wp2_with (first | (go_at_call 18; (with_reducible refine (T.out _).mono ?_); rintro e w1 ⟨rfl, hx1⟩; clear T) | (go_at_call 13; refine (awake_yes _).mono ?_; rintro e w' ⟨rfl, hb⟩))
  go_ret
  refine ⟨rfl, bel_end (bel_end ?_ hx1) hb⟩
  repeat (with_reducible refine bel_alloc ?_)
  with_reducible exact Below.refl _ _
set_option maxRecDepth 100000 in
set_option maxHeartbeats 4000000 in
theorem zeroLeft (r p : Int) (h0 : 0 ≤ r) (h1 : r ≤ 1048575) (h4 : 1 ≤ p) (h5 : p ≤ 1048576) (w : World) : Calls Try.prog 7 #[.agg #[.int .i64 r], .int .i64 0, .int .i64 p] w (Yes w) := by
  have T := Lib.hid (till_none r p h0 h1 (by omega) h5)
  have T2 := Lib.hid (till_none 0 1048576 (by omega) (by omega) (by omega) (by omega))
  have e1 : (0 * p + r) / 1048576 = 0 := by rw [Int.zero_mul]; omega
  have e2 := charge_one (r := r) (t := 0) h0 h1
  have C1 := Lib.hid (charge_gives r 0 p h0 h1 (by omega) (by omega) (by omega) h5)
  have C2 := Lib.hid (charge_gives r 0 1048576 h0 h1 (by omega) (by omega) (by omega) (by omega))
  rw [e1] at C1
  rw [e2.1, e2.2] at C2
  generalize (0 * p + r) % 1048576 = x1 at C1
  clear e1 e2
  go_enter Try.func7, Try.ntmps7
  go_wp2_with fail
  refine (T.out _).mono ?_
  rintro e w1 ⟨rfl, b1⟩
  have bb1 : Below w.heap.size w w1 := by
    refine bel_end ?_ b1
    repeat (first | with_reducible refine bel_alloc ?_ | with_reducible refine bel_drew ?_)
    exact Below.refl _ w
  have BB1 := Lib.hid bb1
  clear bb1
  have Rm1 := Lib.hid b1
  have lm1 : w.heap.size < w1.heap.size := by
    have h := Rm1.out.size
    simp only [World.size_alloc] at h
    omega
  have cm10 := Rm1.out.cell (p := ⟨w.heap.size, 0, none⟩) (by simp)
  clear b1
  go_wp2_with fail
  refine (C1.out _).mono ?_
  rintro e w2 ⟨rfl, b2⟩
  have bb2 : Below w.heap.size w w2 := by
    refine bel_end ?_ b2
    repeat (first | with_reducible refine bel_alloc ?_ | with_reducible refine bel_drew ?_)
    exact BB1.out
  have BB2 := Lib.hid bb2
  clear bb2
  clear BB1
  have rm := bel_via Rm1.out b2 (by
    repeat (first | with_reducible refine bel_alloc ?_ | with_reducible refine bel_drew ?_)
    with_reducible exact Below.refl _ _)
  have Rm2 := Lib.hid rm
  clear rm Rm1 lm1 cm10
  have lm2 : w.heap.size < w2.heap.size := by
    have h := Rm2.out.size
    simp only [World.size_alloc] at h
    omega
  have cm20 := Rm2.out.cell (p := ⟨w.heap.size, 0, none⟩) (by simp)
  clear b2
  go_wp2_with fail
  refine (C2.out _).mono ?_
  rintro e w3 ⟨rfl, b3⟩
  have bb3 : Below w.heap.size w w3 := by
    refine bel_end ?_ b3
    repeat (first | with_reducible refine bel_alloc ?_ | with_reducible refine bel_drew ?_)
    exact BB2.out
  have BB3 := Lib.hid bb3
  clear bb3
  clear BB2
  have rm := bel_via Rm2.out b3 (by
    repeat (first | with_reducible refine bel_alloc ?_ | with_reducible refine bel_drew ?_)
    with_reducible exact Below.refl _ _)
  have Rm3 := Lib.hid rm
  clear rm Rm2 lm2 cm20
  have lm3 : w.heap.size < w3.heap.size := by
    have h := Rm3.out.size
    simp only [World.size_alloc] at h
    omega
  have cm30 := Rm3.out.cell (p := ⟨w.heap.size, 0, none⟩) (by simp)
  clear b3
  go_wp2_with fail
  refine (T2.out _).mono ?_
  rintro e w4 ⟨rfl, b4⟩
  have bb4 : Below w.heap.size w w4 := by
    refine bel_end ?_ b4
    repeat (first | with_reducible refine bel_alloc ?_ | with_reducible refine bel_drew ?_)
    exact BB3.out
  have BB4 := Lib.hid bb4
  clear bb4
  clear BB3
  have rm := bel_via Rm3.out b4 (by
    repeat (first | with_reducible refine bel_alloc ?_ | with_reducible refine bel_drew ?_)
    with_reducible exact Below.refl _ _)
  have Rm4 := Lib.hid rm
  clear rm Rm3 lm3 cm30
  have lm4 : w.heap.size < w4.heap.size := by
    have h := Rm4.out.size
    simp only [World.size_alloc] at h
    omega
  have cm40 := Rm4.out.cell (p := ⟨w.heap.size, 0, none⟩) (by simp)
  have Rx4 := Lib.hid b4
  have lx4 : w3.heap.size < w4.heap.size := by
    have h := Rx4.out.size
    simp only [World.size_alloc] at h
    omega
  have cx40 := Rx4.out.cell (p := ⟨w3.heap.size, 0, none⟩) (by simp)
  clear b4
  go_wp2_with (go_at_call 13; refine (awake_yes _).mono ?_; rintro e w' ⟨rfl, hb⟩)
  go_ret
  exact ⟨rfl, bel_end BB4.out hb⟩
set_option maxRecDepth 100000 in
set_option maxHeartbeats 4000000 in
theorem good (r left p : Int) (h0 : 0 ≤ r) (h1 : r ≤ 1048575) (h4 : 1 ≤ p) (h5 : p ≤ 1048576) (hl : 1 ≤ left) (hl' : left ≤ 1073741824) (n : Nat) (hn : tillNum r left p = n) (hn' : n < 1099511627776) (w : World) : Calls Try.prog 7 #[.agg #[.int .i64 r], .int .i64 left, .int .i64 p] w (Yes w) := by
  have T := Lib.hid (till_ok r left p h0 h1 hl hl' h4 h5 (by omega))
  have l2 := till_is (p := p) h0 hl h1 h4
  have l3 := (till_le (p := p) h0 hl h1 hl' h4).2
  have l4 := till_one hl
  have T2 := Lib.hid (till_ok 0 left 1048576 (by omega) (by omega) hl hl' (by omega) (by omega) (by omega))
  rw [l4] at T2
  rw [hn] at T l2 l3
  have n1 : (1 : Int) ≤ (n : Int) := by omega
  have n2 : (n : Int) < 1099511627776 := by omega
  clear l4 hn l3
  generalize (n : Int) = t at *
  have C1 := Lib.hid (charge_gives r t p h0 h1 (by omega) n2 (by omega) h5)
  have C2 := Lib.hid (charge_gives r (t - 1) p h0 h1 (by omega) (by omega) (by omega) h5)
  have C3 := Lib.hid (charge_gives r t 1048576 h0 h1 (by omega) n2 (by omega) (by omega))
  have e3 := charge_one (r := r) (t := t) h0 h1
  rw [e3.1, e3.2] at C3
  have f1 := charge_at l2.1
  have f2 := charge_not l2.2
  generalize (t * p + r) / 1048576 = y1 at *
  generalize (t * p + r) % 1048576 = x1 at *
  generalize ((t - 1) * p + r) / 1048576 = y2 at *
  generalize ((t - 1) * p + r) % 1048576 = x2 at *
  clear l2 e3 hn'
  go_enter Try.func7, Try.ntmps7
  go_wp2_with fail
  refine (T.out _).mono ?_
  rintro e w1 ⟨rfl, b1⟩
  have bb1 : Below w.heap.size w w1 := by
    refine bel_end ?_ b1
    repeat (first | with_reducible refine bel_alloc ?_ | with_reducible refine bel_drew ?_)
    exact Below.refl _ w
  have BB1 := Lib.hid bb1
  clear bb1
  have Rm1 := Lib.hid b1
  have lm1 : w.heap.size < w1.heap.size := by
    have h := Rm1.out.size
    simp only [World.size_alloc] at h
    omega
  have cm10 := Rm1.out.cell (p := ⟨w.heap.size, 0, none⟩) (by simp)
  clear b1
  go_wp2_with fail
  refine (C1.out _).mono ?_
  rintro e w2 ⟨rfl, b2⟩
  have bb2 : Below w.heap.size w w2 := by
    refine bel_end ?_ b2
    repeat (first | with_reducible refine bel_alloc ?_ | with_reducible refine bel_drew ?_)
    exact BB1.out
  have BB2 := Lib.hid bb2
  clear bb2
  clear BB1
  have rm := bel_via Rm1.out b2 (by
    repeat (first | with_reducible refine bel_alloc ?_ | with_reducible refine bel_drew ?_)
    with_reducible exact Below.refl _ _)
  have Rm2 := Lib.hid rm
  clear rm Rm1 lm1 cm10
  have lm2 : w.heap.size < w2.heap.size := by
    have h := Rm2.out.size
    simp only [World.size_alloc] at h
    omega
  have cm20 := Rm2.out.cell (p := ⟨w.heap.size, 0, none⟩) (by simp)
  clear b2
  go_wp2_with fail
  refine (C2.out _).mono ?_
  rintro e w3 ⟨rfl, b3⟩
  have bb3 : Below w.heap.size w w3 := by
    refine bel_end ?_ b3
    repeat (first | with_reducible refine bel_alloc ?_ | with_reducible refine bel_drew ?_)
    exact BB2.out
  have BB3 := Lib.hid bb3
  clear bb3
  clear BB2
  have rm := bel_via Rm2.out b3 (by
    repeat (first | with_reducible refine bel_alloc ?_ | with_reducible refine bel_drew ?_)
    with_reducible exact Below.refl _ _)
  have Rm3 := Lib.hid rm
  clear rm Rm2 lm2 cm20
  have lm3 : w.heap.size < w3.heap.size := by
    have h := Rm3.out.size
    simp only [World.size_alloc] at h
    omega
  have cm30 := Rm3.out.cell (p := ⟨w.heap.size, 0, none⟩) (by simp)
  clear b3
  go_wp2_with fail
  refine (C3.out _).mono ?_
  rintro e w4 ⟨rfl, b4⟩
  have bb4 : Below w.heap.size w w4 := by
    refine bel_end ?_ b4
    repeat (first | with_reducible refine bel_alloc ?_ | with_reducible refine bel_drew ?_)
    exact BB3.out
  have BB4 := Lib.hid bb4
  clear bb4
  clear BB3
  have rm := bel_via Rm3.out b4 (by
    repeat (first | with_reducible refine bel_alloc ?_ | with_reducible refine bel_drew ?_)
    with_reducible exact Below.refl _ _)
  have Rm4 := Lib.hid rm
  clear rm Rm3 lm3 cm30
  have lm4 : w.heap.size < w4.heap.size := by
    have h := Rm4.out.size
    simp only [World.size_alloc] at h
    omega
  have cm40 := Rm4.out.cell (p := ⟨w.heap.size, 0, none⟩) (by simp)
  clear b4
  go_wp2_with fail
  refine (T2.out _).mono ?_
  rintro e w5 ⟨rfl, b5⟩
  have bb5 : Below w.heap.size w w5 := by
    refine bel_end ?_ b5
    repeat (first | with_reducible refine bel_alloc ?_ | with_reducible refine bel_drew ?_)
    exact BB4.out
  have BB5 := Lib.hid bb5
  clear bb5
  clear BB4
  have rm := bel_via Rm4.out b5 (by
    repeat (first | with_reducible refine bel_alloc ?_ | with_reducible refine bel_drew ?_)
    with_reducible exact Below.refl _ _)
  have Rm5 := Lib.hid rm
  clear rm Rm4 lm4 cm40
  have lm5 : w.heap.size < w5.heap.size := by
    have h := Rm5.out.size
    simp only [World.size_alloc] at h
    omega
  have cm50 := Rm5.out.cell (p := ⟨w.heap.size, 0, none⟩) (by simp)
  have Rx5 := Lib.hid b5
  have lx5 : w4.heap.size < w5.heap.size := by
    have h := Rx5.out.size
    simp only [World.size_alloc] at h
    omega
  have cx50 := Rx5.out.cell (p := ⟨w4.heap.size, 0, none⟩) (by simp)
  clear b5
  go_wp2_with (go_at_call 13; refine (awake_yes _).mono ?_; rintro e w' ⟨rfl, hb⟩)
  go_ret
  exact ⟨rfl, bel_end BB5.out hb⟩

/-! ### the walk -/
set_option maxRecDepth 100000 in
set_option maxHeartbeats 1000000 in
theorem out0 (r left p : Int)  (h : r < 0) (w : World) : Calls Try.prog 7 #[.agg #[.int .i64 r], .int .i64 left, .int .i64 p] w (Yes w) := by
  go_enter Try.func7, Try.ntmps7
  go_wp2_with (go_at_call 13; refine (awake_yes _).mono ?_; rintro e w' ⟨rfl, hb⟩)
  go_ret
  refine ⟨rfl, bel_end ?_ hb⟩
  repeat (with_reducible refine bel_alloc ?_)
  with_reducible exact Below.refl _ _
set_option maxRecDepth 100000 in
set_option maxHeartbeats 1000000 in
theorem out1 (r left p : Int) (h0 : 0 ≤ r) (h : 1048575 < r) (w : World) : Calls Try.prog 7 #[.agg #[.int .i64 r], .int .i64 left, .int .i64 p] w (Yes w) := by
  go_enter Try.func7, Try.ntmps7
  go_wp2_with (go_at_call 13; refine (awake_yes _).mono ?_; rintro e w' ⟨rfl, hb⟩)
  go_ret
  refine ⟨rfl, bel_end ?_ hb⟩
  repeat (with_reducible refine bel_alloc ?_)
  with_reducible exact Below.refl _ _
set_option maxRecDepth 100000 in
set_option maxHeartbeats 1000000 in
theorem out2 (r left p : Int) (h0 : 0 ≤ r) (h1 : r ≤ 1048575) (h : left < 0) (w : World) : Calls Try.prog 7 #[.agg #[.int .i64 r], .int .i64 left, .int .i64 p] w (Yes w) := by
  go_enter Try.func7, Try.ntmps7
  go_wp2_with (go_at_call 13; refine (awake_yes _).mono ?_; rintro e w' ⟨rfl, hb⟩)
  go_ret
  refine ⟨rfl, bel_end ?_ hb⟩
  repeat (with_reducible refine bel_alloc ?_)
  with_reducible exact Below.refl _ _
set_option maxRecDepth 100000 in
set_option maxHeartbeats 1000000 in
theorem out3 (r left p : Int) (h0 : 0 ≤ r) (h1 : r ≤ 1048575) (h2 : 0 ≤ left) (h : 1073741824 < left) (w : World) : Calls Try.prog 7 #[.agg #[.int .i64 r], .int .i64 left, .int .i64 p] w (Yes w) := by
  go_enter Try.func7, Try.ntmps7
  go_wp2_with (go_at_call 13; refine (awake_yes _).mono ?_; rintro e w' ⟨rfl, hb⟩)
  go_ret
  refine ⟨rfl, bel_end ?_ hb⟩
  repeat (with_reducible refine bel_alloc ?_)
  with_reducible exact Below.refl _ _
set_option maxRecDepth 100000 in
set_option maxHeartbeats 1000000 in
theorem out4 (r left p : Int) (h0 : 0 ≤ r) (h1 : r ≤ 1048575) (h2 : 0 ≤ left) (h3 : left ≤ 1073741824) (h : p < 1) (w : World) : Calls Try.prog 7 #[.agg #[.int .i64 r], .int .i64 left, .int .i64 p] w (Yes w) := by
  go_enter Try.func7, Try.ntmps7
  go_wp2_with (go_at_call 13; refine (awake_yes _).mono ?_; rintro e w' ⟨rfl, hb⟩)
  go_ret
  refine ⟨rfl, bel_end ?_ hb⟩
  repeat (with_reducible refine bel_alloc ?_)
  with_reducible exact Below.refl _ _
set_option maxRecDepth 100000 in
set_option maxHeartbeats 1000000 in
theorem out5 (r left p : Int) (h0 : 0 ≤ r) (h1 : r ≤ 1048575) (h2 : 0 ≤ left) (h3 : left ≤ 1073741824) (h4 : 1 ≤ p) (h : 1048576 < p) (w : World) : Calls Try.prog 7 #[.agg #[.int .i64 r], .int .i64 left, .int .i64 p] w (Yes w) := by
  go_enter Try.func7, Try.ntmps7
  go_wp2_with (go_at_call 13; refine (awake_yes _).mono ?_; rintro e w' ⟨rfl, hb⟩)
  go_ret
  refine ⟨rfl, bel_end ?_ hb⟩
  repeat (with_reducible refine bel_alloc ?_)
  with_reducible exact Below.refl _ _
set_option maxRecDepth 100000 in
set_option maxHeartbeats 4000000 in
theorem inside (r left p : Int) (h0 : 0 ≤ r) (h1 : r ≤ 1048575) (h2 : 0 ≤ left) (h3 : left ≤ 1073741824) (h4 : 1 ≤ p) (h5 : p ≤ 1048576) (w : World) : Calls Try.prog 7 #[.agg #[.int .i64 r], .int .i64 left, .int .i64 p] w (Yes w) := by
  by_cases hz : left = 0
  · subst hz; exact zeroLeft r p h0 h1 h4 h5 w
  by_cases hn : 1099511627776 ≤ tillNum r left p
  · exact late r left p h0 h1 h4 h5 (by omega) h3 hn w
  · exact good r left p h0 h1 h4 h5 (by omega) h3 _ rfl (by omega) w
theorem walk (r left p : Int) (_ : (Lit.int .i64 r).wf = true) (_ : (Lit.int .i64 left).wf = true) (_ : (Lit.int .i64 p).wf = true) (w : World) : Calls Try.prog 7 #[.agg #[.int .i64 r], .int .i64 left, .int .i64 p] w (Yes w) := by
  by_cases h0 : 0 ≤ r
  case neg => exact out0 r left p   (by omega) w
  by_cases h1 : r ≤ 1048575
  case neg => exact out1 r left p  h0 (by omega) w
  by_cases h2 : 0 ≤ left
  case neg => exact out2 r left p  h0 h1 (by omega) w
  by_cases h3 : left ≤ 1073741824
  case neg => exact out3 r left p  h0 h1 h2 (by omega) w
  by_cases h4 : 1 ≤ p
  case neg => exact out4 r left p  h0 h1 h2 h3 (by omega) w
  by_cases h5 : p ≤ 1048576
  case neg => exact out5 r left p  h0 h1 h2 h3 h4 (by omega) w
  exact inside r left p  h0 h1 h2 h3 h4 h5 w

set_option maxRecDepth 100000 in
theorem lifted (os : Os) (started : os.Started) (H : Type) (enc : TypeId × Value → H) :
    ReturnsInHanded {} Try.checked os 7 .any (Rows.grubUntilSpec.pre6 enc Try.prog Try.f7 Rows.grubUntilRow.domain false) (Rows.grubUntilSpec.post enc Try.prog Try.f7 false true false false) := by
  refine returnsInHanded_of_change (C := Try.checked) own started (by kernel_rfl) Try.func7
    (ChangeSpec.witness6 (enc := enc) (C := Try.checked) false ⟨#[], #[.agg #[.int .i64 0], .int .i64 0, .int .i64 0], []⟩ 8 (by kernel_rfl) (by kernel_rfl) (by kernel_rfl) (by kernel_rfl)) ?_
  intro W base args ds gs before hval0 hW hcnd _
  have hval : ∀ (j : Nat) t v, Try.f7.params[j]? = some t → args[j]? = some v → Value.okWide Try.prog W .any base t v := hval0
  have hW' := hW
  obtain ⟨p, q, hA0, hV, _, hfz, hnd⟩ := hW'
  have hA : DataW.TrodAll enc Try.prog W 0 (fun _ => true) true Try.f7.params.toList args.toList ds p := hA0
  rw [Try.params7] at hA hval
  obtain ⟨v0, v1, v2, d0, d1, d2, p0, p1, p2, rfl, _, _, h0, h1, h2⟩ := trodAll_three hA
  obtain ⟨c00, y00, m0, rfl, hy00⟩ := open_agg1 Try.underlying35 (by kernel_rfl) (by kernel_rfl) (hval 0 35 v0 rfl rfl) h0
  obtain ⟨r, e00, _, wr⟩ := DataW.trod_int Try.underlying3 hy00
  simp at e00
  subst e00
  obtain ⟨left, rfl, _, _, wleft⟩ := open_int Try.underlying3 (hval 1 3 v1 rfl rfl) h1
  obtain ⟨p, rfl, _, _, wp⟩ := open_int Try.underlying3 (hval 2 3 v2 rfl rfl) h2
  refine (walk r left p wr wleft wp W).mono fun e W' h => ?_
  exact law_post (f := Try.f7) rfl rfl Try.underlying4 (by kernel_rfl) (fun ds hd => by
    match ds, hd with
    | [_, _, _], _ => rfl) hW h

theorem over : Rows.grubUntilRow.holds Try.pinned (OpenSpec.ofChange Rows.grubUntilSpec) :=
  OpenClaim.holds_of_wide 7 Try.f7 rfl rfl rfl rfl rfl rfl rfl ⟨rfl, rfl, rfl, rfl, rfl⟩ rfl rfl rfl rfl rfl (by kernel_rfl) Try.func7 (by kernel_rfl)
    (of_decide_eq_true (by kernel_rfl)) (by unfold Func.isWrapper; first | (rw [if_pos (by decide +kernel)]; kernel_rfl) | (rw [if_neg (by decide +kernel)]; exact ⟨rfl, rfl⟩))
    (fun os started H enc _ => lifted os started H enc)

/-- THE STATEMENT. -/
theorem proved : Rows.GrubUntilSaid := over
end Go.Proofs.Ytnahedmccbkflaa.grubUntil
