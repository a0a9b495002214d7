/- NumOrder answers true at every three numbers, and every other number. No condition. -/
import Derived.Test.YtgdgfcogmfhpcaaNumAwake
import Derived.Test.YtgdgfcogmfhpcaaNumMul
import Derived.Test.YtgdgfcogmfhpcaaNumSum
import Derived.WalkLawsBesides
import Derived.WalkSpells
import Derived.Outline
namespace Go.Proofs.Ytgdgfcogmfhpcaa.numOrder
open Go.ChangeShapes Go.WideShapes Go.ChangeAt Go.RowKit Go.Joins

/-! ### the plain law -/
abbrev Small (n : Int) : Prop := -1000000 ≤ n ∧ n ≤ 1000000
theorem abs_mul {x y M N : Int} (hx : -M ≤ x ∧ x ≤ M) (hy : -N ≤ y ∧ y ≤ N) (hM : 0 ≤ M) (hN : 0 ≤ N) : -(M * N) ≤ x * y ∧ x * y ≤ M * N := by
  have h1 : x.natAbs ≤ M.toNat := by omega
  have h2 : y.natAbs ≤ N.toNat := by omega
  have h3 : (x * y).natAbs ≤ M.toNat * N.toNat := by rw [Int.natAbs_mul]; exact Nat.mul_le_mul h1 h2
  have h4 : ((M.toNat * N.toNat : Nat) : Int) = M * N := by rw [Int.natCast_mul, Int.toNat_of_nonneg hM, Int.toNat_of_nonneg hN]
  omega
theorem sum_go (t : Int) : ∀ xs : List Int, sumGo 0 xs = some t → sumNum xs = t ∧ sumErr xs = 0 := by
  intro xs h; unfold sumNum sumErr; rw [h]; exact ⟨rfl, rfl⟩
theorem sum3 {x y z : Int} (hx : Small x) (hy : Small y) (hz : Small z) : sumNum [x, y, z] = x + y + z ∧ sumErr [x, y, z] = 0 := by
  refine sum_go _ _ ?_
  unfold sumGo; rw [if_pos (by omega)]; unfold sumGo; rw [if_pos (by omega)]; unfold sumGo; rw [if_pos (by omega)]; simp [sumGo]
theorem sum2 {x : Int} (hx : Fit x) : sumNum [x, 0] = x ∧ sumErr [x, 0] = 0 := by
  refine sum_go _ _ ?_
  unfold sumGo; rw [if_pos (by simpa using hx)]; unfold sumGo; rw [if_pos (by simpa using hx)]; simp [sumGo]
theorem sum1 {x : Int} (hx : Fit x) : sumNum [x] = x ∧ sumErr [x] = 0 := by
  refine sum_go _ _ ?_
  unfold sumGo; rw [if_pos (by simpa using hx)]; simp [sumGo]
theorem fit_small {x : Int} (h : Small x) : Fit x := ⟨by omega, by omega⟩
theorem sum_at3 (x y z : Int) (hx : Small x) (hy : Small y) (hz : Small z) (b : Nat) (w : World) (h0 : w.cell? ⟨b, 0, none⟩ = some (.int .i64 x)) (h1 : w.cell? ⟨b, 1, none⟩ = some (.int .i64 y)) (h2 : w.cell? ⟨b, 2, none⟩ = some (.int .i64 z)) :
    Calls Try.prog 17 #[.slice (some ⟨b, 0, none⟩) 3 3] w fun e w' => e = .returned (.tuple #[.int .i64 (x + y + z), .int .i64 0]) ∧ w' = w := by
  have h := sum_some b 0 3 [x, y, z] w (by simp) (fun j hj => by
    match j, hj with
    | 0, _ => exact h0
    | 1, _ => exact h1
    | 2, _ => exact h2) (by
    intro n hn
    simp at hn
    rcases hn with rfl | rfl | rfl
    · exact fit_small hx
    · exact fit_small hy
    · exact fit_small hz)
  rw [(sum3 hx hy hz).1, (sum3 hx hy hz).2] at h
  exact h
theorem sum_at2 (x : Int) (hx : Fit x) (b : Nat) (w : World) (h0 : w.cell? ⟨b, 0, none⟩ = some (.int .i64 x)) (h1 : w.cell? ⟨b, 1, none⟩ = some (.int .i64 0)) :
    Calls Try.prog 17 #[.slice (some ⟨b, 0, none⟩) 2 2] w fun e w' => e = .returned (.tuple #[.int .i64 x, .int .i64 0]) ∧ w' = w := by
  have h := sum_some b 0 2 [x, 0] w (by simp) (fun j hj => by
    match j, hj with
    | 0, _ => exact h0
    | 1, _ => exact h1) (by
    intro n hn
    simp at hn
    rcases hn with rfl | rfl
    · exact hx
    · exact ⟨by omega, by omega⟩)
  rw [(sum2 hx).1, (sum2 hx).2] at h
  exact h
theorem sum_at1 (x : Int) (hx : Fit x) (b : Nat) (w : World) (h0 : w.cell? ⟨b, 0, none⟩ = some (.int .i64 x)) :
    Calls Try.prog 17 #[.slice (some ⟨b, 0, none⟩) 1 1] w fun e w' => e = .returned (.tuple #[.int .i64 x, .int .i64 0]) ∧ w' = w := by
  have h := sum_some b 0 1 [x] w (by simp) (fun j hj => by
    match j, hj with
    | 0, _ => exact h0) (by
    intro n hn
    simp at hn
    subst hn
    exact hx)
  rw [(sum1 hx).1, (sum1 hx).2] at h
  exact h

/-! ### the walk -/
set_option maxRecDepth 100000 in
set_option maxHeartbeats 1000000 in
theorem low0 (a b c x : Int)  (h : a < -1000000) (w : World) : Calls Try.prog 5 #[.agg #[.int .i64 a, .int .i64 b, .int .i64 c], .int .i64 x] w (Yes w) := by
  have e1 : decide (a < -1000000) = true := by simp; omega
  clear  h
  go_enter Try.func5, Try.ntmps5
  go_wp2_with fail
  refine wp_loop_rounds 1 ?_
  rw [rounds_succ]
  go_wp2_with (go_at_call 12; refine (awake_yes _).mono ?_; rintro e w' ⟨rfl, hb⟩)
  go_ret
  refine ⟨rfl, bel_end ?_ hb⟩
  repeat (first | with_reducible refine bel_alloc ?_ | with_reducible refine bel_drew ?_)
  with_reducible exact Below.refl _ _
set_option maxRecDepth 100000 in
set_option maxHeartbeats 1000000 in
theorem high0 (a b c x : Int)  (h : 1000000 < a) (w : World) : Calls Try.prog 5 #[.agg #[.int .i64 a, .int .i64 b, .int .i64 c], .int .i64 x] w (Yes w) := by
  have e1 : decide (a < -1000000) = false := by simp; omega
  have e2 : decide (1000000 < a) = true := by simp; omega
  clear  h
  go_enter Try.func5, Try.ntmps5
  go_wp2_with fail
  refine wp_loop_rounds 1 ?_
  rw [rounds_succ]
  go_wp2_with (go_at_call 12; refine (awake_yes _).mono ?_; rintro e w' ⟨rfl, hb⟩)
  go_ret
  refine ⟨rfl, bel_end ?_ hb⟩
  repeat (first | with_reducible refine bel_alloc ?_ | with_reducible refine bel_drew ?_)
  with_reducible exact Below.refl _ _
set_option maxRecDepth 100000 in
set_option maxHeartbeats 1000000 in
theorem low1 (a b c x : Int) (ha : Small a) (h : b < -1000000) (w : World) : Calls Try.prog 5 #[.agg #[.int .i64 a, .int .i64 b, .int .i64 c], .int .i64 x] w (Yes w) := by
  have da1 : decide (a < -1000000) = false := by simp; omega
  have da2 : decide (1000000 < a) = false := by simp; omega
  have e1 : decide (b < -1000000) = true := by simp; omega
  clear ha h
  go_enter Try.func5, Try.ntmps5
  go_wp2_with fail
  refine wp_loop_rounds 2 ?_
  rw [rounds_succ]
  go_wp2_with (go_at_call 12; refine (awake_yes _).mono ?_; rintro e w' ⟨rfl, hb⟩)
  rw [rounds_succ]
  go_wp2_with (go_at_call 12; refine (awake_yes _).mono ?_; rintro e w' ⟨rfl, hb⟩)
  go_ret
  refine ⟨rfl, bel_end ?_ hb⟩
  repeat (first | with_reducible refine bel_alloc ?_ | with_reducible refine bel_drew ?_)
  with_reducible exact Below.refl _ _
set_option maxRecDepth 100000 in
set_option maxHeartbeats 1000000 in
theorem high1 (a b c x : Int) (ha : Small a) (h : 1000000 < b) (w : World) : Calls Try.prog 5 #[.agg #[.int .i64 a, .int .i64 b, .int .i64 c], .int .i64 x] w (Yes w) := by
  have da1 : decide (a < -1000000) = false := by simp; omega
  have da2 : decide (1000000 < a) = false := by simp; omega
  have e1 : decide (b < -1000000) = false := by simp; omega
  have e2 : decide (1000000 < b) = true := by simp; omega
  clear ha h
  go_enter Try.func5, Try.ntmps5
  go_wp2_with fail
  refine wp_loop_rounds 2 ?_
  rw [rounds_succ]
  go_wp2_with (go_at_call 12; refine (awake_yes _).mono ?_; rintro e w' ⟨rfl, hb⟩)
  rw [rounds_succ]
  go_wp2_with (go_at_call 12; refine (awake_yes _).mono ?_; rintro e w' ⟨rfl, hb⟩)
  go_ret
  refine ⟨rfl, bel_end ?_ hb⟩
  repeat (first | with_reducible refine bel_alloc ?_ | with_reducible refine bel_drew ?_)
  with_reducible exact Below.refl _ _
set_option maxRecDepth 100000 in
set_option maxHeartbeats 1000000 in
theorem low2 (a b c x : Int) (ha : Small a) (hb : Small b) (h : c < -1000000) (w : World) : Calls Try.prog 5 #[.agg #[.int .i64 a, .int .i64 b, .int .i64 c], .int .i64 x] w (Yes w) := by
  have da1 : decide (a < -1000000) = false := by simp; omega
  have da2 : decide (1000000 < a) = false := by simp; omega
  have db1 : decide (b < -1000000) = false := by simp; omega
  have db2 : decide (1000000 < b) = false := by simp; omega
  have e1 : decide (c < -1000000) = true := by simp; omega
  clear ha hb h
  go_enter Try.func5, Try.ntmps5
  go_wp2_with fail
  refine wp_loop_rounds 3 ?_
  rw [rounds_succ]
  go_wp2_with (go_at_call 12; refine (awake_yes _).mono ?_; rintro e w' ⟨rfl, hb⟩)
  rw [rounds_succ]
  go_wp2_with (go_at_call 12; refine (awake_yes _).mono ?_; rintro e w' ⟨rfl, hb⟩)
  rw [rounds_succ]
  go_wp2_with (go_at_call 12; refine (awake_yes _).mono ?_; rintro e w' ⟨rfl, hb⟩)
  go_ret
  refine ⟨rfl, bel_end ?_ hb⟩
  repeat (first | with_reducible refine bel_alloc ?_ | with_reducible refine bel_drew ?_)
  with_reducible exact Below.refl _ _
set_option maxRecDepth 100000 in
set_option maxHeartbeats 1000000 in
theorem high2 (a b c x : Int) (ha : Small a) (hb : Small b) (h : 1000000 < c) (w : World) : Calls Try.prog 5 #[.agg #[.int .i64 a, .int .i64 b, .int .i64 c], .int .i64 x] w (Yes w) := by
  have da1 : decide (a < -1000000) = false := by simp; omega
  have da2 : decide (1000000 < a) = false := by simp; omega
  have db1 : decide (b < -1000000) = false := by simp; omega
  have db2 : decide (1000000 < b) = false := by simp; omega
  have e1 : decide (c < -1000000) = false := by simp; omega
  have e2 : decide (1000000 < c) = true := by simp; omega
  clear ha hb h
  go_enter Try.func5, Try.ntmps5
  go_wp2_with fail
  refine wp_loop_rounds 3 ?_
  rw [rounds_succ]
  go_wp2_with (go_at_call 12; refine (awake_yes _).mono ?_; rintro e w' ⟨rfl, hb⟩)
  rw [rounds_succ]
  go_wp2_with (go_at_call 12; refine (awake_yes _).mono ?_; rintro e w' ⟨rfl, hb⟩)
  rw [rounds_succ]
  go_wp2_with (go_at_call 12; refine (awake_yes _).mono ?_; rintro e w' ⟨rfl, hb⟩)
  go_ret
  refine ⟨rfl, bel_end ?_ hb⟩
  repeat (first | with_reducible refine bel_alloc ?_ | with_reducible refine bel_drew ?_)
  with_reducible exact Below.refl _ _
set_option maxRecDepth 100000 in
set_option maxHeartbeats 8000000 in
theorem inside (a b c x : Int) (ha : Small a) (hb : Small b) (hc : Small c) (hx : Fit x) (w : World) : Calls Try.prog 5 #[.agg #[.int .i64 a, .int .i64 b, .int .i64 c], .int .i64 x] w (Yes w) := by
  have da1 : decide (a < -1000000) = false := by simp; omega
  have da2 : decide (1000000 < a) = false := by simp; omega
  have db1 : decide (b < -1000000) = false := by simp; omega
  have db2 : decide (1000000 < b) = false := by simp; omega
  have dc1 : decide (c < -1000000) = false := by simp; omega
  have dc2 : decide (1000000 < c) = false := by simp; omega
  have m1 := abs_mul (M := 1000000) (N := 1000000) ha hb (by omega) (by omega)
  have m2 := abs_mul (M := 1000000) (N := 1000000) hb hc (by omega) (by omega)
  have m3 := abs_mul (M := 1000000000000) (N := 1000000) m1 hc (by omega) (by omega)
  obtain ⟨r, hr⟩ : ∃ r, a * b * c = r := ⟨_, rfl⟩
  have hr2 : a * (b * c) = r := by rw [← Int.mul_assoc]; exact hr
  rw [hr] at m3
  have S1 := Lib.hid (sum_at3 a b c ha hb hc)
  have S2 := Lib.hid (sum_at3 c a b hc ha hb)
  rw [show c + a + b = a + b + c by omega] at S2
  have M1 := Lib.hid (mul_any a b (fit_small ha) (fit_small hb))
  have M2 := Lib.hid (mul_any b a (fit_small hb) (fit_small ha))
  have M3 := Lib.hid (mul_any (a * b) c ⟨by omega, by omega⟩ (fit_small hc))
  have M4 := Lib.hid (mul_any a (b * c) (fit_small ha) ⟨by omega, by omega⟩)
  have M5 := Lib.hid (mul_any x 1 hx ⟨by omega, by omega⟩)
  have S3 := Lib.hid (sum_at2 x hx)
  have S4 := Lib.hid (sum_at1 x hx)
  rw [(mulRes_fit (a := a) (b := b) (by omega)).1, (mulRes_fit (a := a) (b := b) (by omega)).2] at M1
  rw [(mulRes_fit (a := b) (b := a) (by rw [Int.mul_comm]; omega)).1, (mulRes_fit (a := b) (b := a) (by rw [Int.mul_comm]; omega)).2, Int.mul_comm] at M2
  rw [(mulRes_fit (a := a * b) (b := c) (by rw [hr]; omega)).1, (mulRes_fit (a := a * b) (b := c) (by rw [hr]; omega)).2, hr] at M3
  rw [(mulRes_fit (a := a) (b := b * c) (by rw [hr2]; omega)).1, (mulRes_fit (a := a) (b := b * c) (by rw [hr2]; omega)).2, hr2] at M4
  rw [(mulRes_fit (a := x) (b := 1) (by omega)).1, (mulRes_fit (a := x) (b := 1) (by omega)).2, Int.mul_one] at M5
  obtain ⟨m11, m12⟩ := m1
  obtain ⟨m21, m22⟩ := m2
  obtain ⟨a1, a2⟩ := ha
  obtain ⟨b1, b2⟩ := hb
  obtain ⟨c1, c2⟩ := hc
  have u1 : -1000000000000 ≤ a * b := by omega
  have u2 : a * b ≤ 1000000000000 := by omega
  have u3 : -1000000000000 ≤ b * c := by omega
  have u4 : b * c ≤ 1000000000000 := by omega
  clear hr hr2 m3 m11 m12 m21 m22 hx
  go_enter Try.func5, Try.ntmps5
  go_wp2_with fail
  refine wp_loop_rounds 4 ?_
  rw [rounds_succ]
  go_wp2_with fail
  rw [rounds_succ]
  go_wp2_with fail
  rw [rounds_succ]
  go_wp2_with fail
  rw [rounds_succ]
  go_wp2_with fail
  refine (S1.out _ _ (by go_simp) (by go_simp) (by go_simp)).mono ?_
  rintro e w1 ⟨rfl, rfl⟩
  go_wp2_with fail
  refine (S2.out _ _ (by go_simp) (by go_simp) (by go_simp)).mono ?_
  rintro e w1 ⟨rfl, rfl⟩
  go_wp2_with fail
  refine (M1.out _).mono ?_
  rintro e w1 ⟨rfl, rfl⟩
  go_wp2_with fail
  refine (M2.out _).mono ?_
  rintro e w1 ⟨rfl, rfl⟩
  go_wp2_with fail
  refine (M3.out _).mono ?_
  rintro e w1 ⟨rfl, rfl⟩
  go_wp2_with fail
  refine (M4.out _).mono ?_
  rintro e w1 ⟨rfl, rfl⟩
  go_wp2_with fail
  refine (M5.out _).mono ?_
  rintro e w1 ⟨rfl, rfl⟩
  go_wp2_with fail
  refine (S3.out _ _ (by go_simp) (by go_simp)).mono ?_
  rintro e w1 ⟨rfl, rfl⟩
  go_wp2_with fail
  refine (S4.out _ _ (by go_simp)).mono ?_
  rintro e w1 ⟨rfl, rfl⟩
  go_wp2_with (go_at_call 12; refine (awake_yes _).mono ?_; rintro e w' ⟨rfl, hb⟩)
  go_ret
  refine ⟨rfl, bel_end ?_ hb⟩
  repeat (first | with_reducible refine bel_alloc ?_ | with_reducible refine bel_drew ?_)
  with_reducible exact Below.refl _ _

theorem walk (a b c x : Int) (_ : (Lit.int .i64 a).wf = true) (_ : (Lit.int .i64 b).wf = true) (_ : (Lit.int .i64 c).wf = true) (wx : (Lit.int .i64 x).wf = true) (w : World) : Calls Try.prog 5 #[.agg #[.int .i64 a, .int .i64 b, .int .i64 c], .int .i64 x] w (Yes w) := by
  by_cases h0 : a < -1000000
  · exact low0 a b c x h0 w
  by_cases h1 : 1000000 < a
  · exact high0 a b c x h1 w
  have ha : Small a := ⟨by omega, by omega⟩
  by_cases h2 : b < -1000000
  · exact low1 a b c x ha h2 w
  by_cases h3 : 1000000 < b
  · exact high1 a b c x ha h3 w
  have hb : Small b := ⟨by omega, by omega⟩
  by_cases h4 : c < -1000000
  · exact low2 a b c x ha hb h4 w
  by_cases h5 : 1000000 < c
  · exact high2 a b c x ha hb h5 w
  exact inside a b c x ha hb ⟨by omega, by omega⟩ (bounds_i64 wx) w

set_option maxRecDepth 100000 in
theorem lifted (os : Os) (started : os.Started) (H : Type) (enc : TypeId × Value → H) :
    ReturnsInHanded {} Try.checked os 5 .any (Rows.numOrderSpec.pre6 enc Try.prog Try.f5 Rows.numOrderRow.domain false) (Rows.numOrderSpec.post enc Try.prog Try.f5 false true false false) := by
  refine returnsInHanded_of_change (C := Try.checked) own started (by kernel_rfl) Try.func5
    (ChangeSpec.witness6 (enc := enc) (C := Try.checked) false ⟨#[], #[.agg #[.int .i64 0, .int .i64 0, .int .i64 0], .int .i64 0], []⟩ 8 (by kernel_rfl) (by kernel_rfl) (by kernel_rfl) (by kernel_rfl)) ?_
  intro W base args ds gs before hval0 hW hcnd _
  have hval : ∀ (j : Nat) t v, Try.f5.params[j]? = some t → args[j]? = some v → Value.okWide Try.prog W .any base t v := hval0
  have hW' := hW
  obtain ⟨p, q, hA0, hV, _, hfz, hnd⟩ := hW'
  have hA : DataW.TrodAll enc Try.prog W 0 (fun _ => true) true Try.f5.params.toList args.toList ds p := hA0
  rw [Try.params5] at hA hval
  obtain ⟨v0, v1, d0, d1, p0, p1, rfl, _, _, h0, h1⟩ := trodAll_two hA
  obtain ⟨a, b, c, rfl, wa, wb, wc⟩ := open_arr3 Try.underlying22 Try.underlying3 (by kernel_rfl) (by kernel_rfl) (hval 0 22 v0 rfl rfl) h0
  obtain ⟨x, rfl, _, _, wx⟩ := open_int Try.underlying3 (hval 1 3 v1 rfl rfl) h1
  refine (walk a b c x wa wb wc wx W).mono fun e W' h => ?_
  exact law_post (f := Try.f5) rfl rfl Try.underlying4 (by kernel_rfl) (fun ds hd => by
    match ds, hd with
    | [_, _], _ => rfl) hW h

theorem over : Rows.numOrderRow.holds Try.pinned (OpenSpec.ofChange Rows.numOrderSpec) :=
  OpenClaim.holds_of_wide 5 Try.f5 rfl rfl rfl rfl rfl rfl rfl ⟨rfl, rfl, rfl, rfl, rfl⟩ rfl rfl rfl rfl rfl (by kernel_rfl) Try.func5 (by kernel_rfl)
    (of_decide_eq_true (by kernel_rfl)) (by unfold Func.isWrapper; first | (rw [if_pos (by decide +kernel)]; kernel_rfl) | (rw [if_neg (by decide +kernel)]; exact ⟨rfl, rfl⟩))
    (fun os started H enc _ => lifted os started H enc)

/-- THE STATEMENT. -/
theorem proved : Rows.NumOrderSaid := over
end Go.Proofs.Ytgdgfcogmfhpcaa.numOrder
