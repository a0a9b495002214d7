/- GrubMore answers true at every meter, times and rates. No condition. -/
import Derived.Test.YtnahedmccbkflaaGrubAwake
import Derived.WalkLawsBesides
import Derived.WalkSpells
import Derived.Outline
namespace Go.Proofs.Ytnahedmccbkflaa.grubMore
open Go.ChangeShapes Go.WideShapes Go.ChangeAt Go.RowKit Go.Joins

/-! ### the plain law -/
theorem mul_more {t m p : Int} (hm : 0 ≤ m) (hp : 0 ≤ p) (hp' : p ≤ 1048576) : t * p ≤ (t + m) * p ∧ (t + m) * p ≤ t * p + m * 1048576 := by
  have h1 : 0 ≤ m * p := Int.mul_nonneg hm hp
  have h2 : m * p ≤ m * 1048576 := Int.mul_le_mul_of_nonneg_left hp' hm
  rw [Int.add_mul]; omega
theorem mul_rate {t p q : Int} (ht : 0 ≤ t) (h : p ≤ q) : t * p ≤ t * q := Int.mul_le_mul_of_nonneg_left h ht

/-! ### the walk -/
set_option maxRecDepth 100000 in
set_option maxHeartbeats 1000000 in
theorem out0 (r t m p q : Int)  (h : r < 0) (w : World) : Calls Try.prog 5 #[.agg #[.int .i64 r], .agg #[.int .i64 t, .int .i64 m], .agg #[.int .i64 p, .int .i64 q]] w (Yes w) := by
  go_enter Try.func5, Try.ntmps5
  go_wp2_with (go_at_call 13; refine (awake_yes _).mono ?_; rintro e w' ⟨rfl, hb⟩)
  go_ret
  refine ⟨rfl, bel_end ?_ hb⟩
  repeat (with_reducible refine bel_alloc ?_)
  with_reducible exact Below.refl _ _
set_option maxRecDepth 100000 in
set_option maxHeartbeats 1000000 in
theorem out1 (r t m p q : Int) (h0 : 0 ≤ r) (h : 1048575 < r) (w : World) : Calls Try.prog 5 #[.agg #[.int .i64 r], .agg #[.int .i64 t, .int .i64 m], .agg #[.int .i64 p, .int .i64 q]] w (Yes w) := by
  go_enter Try.func5, Try.ntmps5
  go_wp2_with (go_at_call 13; refine (awake_yes _).mono ?_; rintro e w' ⟨rfl, hb⟩)
  go_ret
  refine ⟨rfl, bel_end ?_ hb⟩
  repeat (with_reducible refine bel_alloc ?_)
  with_reducible exact Below.refl _ _
set_option maxRecDepth 100000 in
set_option maxHeartbeats 1000000 in
theorem out2 (r t m p q : Int) (h0 : 0 ≤ r) (h1 : r ≤ 1048575) (h : t < 0) (w : World) : Calls Try.prog 5 #[.agg #[.int .i64 r], .agg #[.int .i64 t, .int .i64 m], .agg #[.int .i64 p, .int .i64 q]] w (Yes w) := by
  go_enter Try.func5, Try.ntmps5
  go_wp2_with (go_at_call 13; refine (awake_yes _).mono ?_; rintro e w' ⟨rfl, hb⟩)
  go_ret
  refine ⟨rfl, bel_end ?_ hb⟩
  repeat (with_reducible refine bel_alloc ?_)
  with_reducible exact Below.refl _ _
set_option maxRecDepth 100000 in
set_option maxHeartbeats 1000000 in
theorem out3 (r t m p q : Int) (h0 : 0 ≤ r) (h1 : r ≤ 1048575) (h2 : 0 ≤ t) (h : m < 0) (w : World) : Calls Try.prog 5 #[.agg #[.int .i64 r], .agg #[.int .i64 t, .int .i64 m], .agg #[.int .i64 p, .int .i64 q]] w (Yes w) := by
  go_enter Try.func5, Try.ntmps5
  go_wp2_with (go_at_call 13; refine (awake_yes _).mono ?_; rintro e w' ⟨rfl, hb⟩)
  go_ret
  refine ⟨rfl, bel_end ?_ hb⟩
  repeat (with_reducible refine bel_alloc ?_)
  with_reducible exact Below.refl _ _
set_option maxRecDepth 100000 in
set_option maxHeartbeats 1000000 in
theorem out4 (r t m p q : Int) (h0 : 0 ≤ r) (h1 : r ≤ 1048575) (h2 : 0 ≤ t) (h3 : 0 ≤ m) (h : 549755813888 ≤ t) (w : World) : Calls Try.prog 5 #[.agg #[.int .i64 r], .agg #[.int .i64 t, .int .i64 m], .agg #[.int .i64 p, .int .i64 q]] w (Yes w) := by
  go_enter Try.func5, Try.ntmps5
  go_wp2_with (go_at_call 13; refine (awake_yes _).mono ?_; rintro e w' ⟨rfl, hb⟩)
  go_ret
  refine ⟨rfl, bel_end ?_ hb⟩
  repeat (with_reducible refine bel_alloc ?_)
  with_reducible exact Below.refl _ _
set_option maxRecDepth 100000 in
set_option maxHeartbeats 1000000 in
theorem out5 (r t m p q : Int) (h0 : 0 ≤ r) (h1 : r ≤ 1048575) (h2 : 0 ≤ t) (h3 : 0 ≤ m) (h4 : t < 549755813888) (h : 549755813888 ≤ m) (w : World) : Calls Try.prog 5 #[.agg #[.int .i64 r], .agg #[.int .i64 t, .int .i64 m], .agg #[.int .i64 p, .int .i64 q]] w (Yes w) := by
  go_enter Try.func5, Try.ntmps5
  go_wp2_with (go_at_call 13; refine (awake_yes _).mono ?_; rintro e w' ⟨rfl, hb⟩)
  go_ret
  refine ⟨rfl, bel_end ?_ hb⟩
  repeat (with_reducible refine bel_alloc ?_)
  with_reducible exact Below.refl _ _
set_option maxRecDepth 100000 in
set_option maxHeartbeats 1000000 in
theorem out6 (r t m p q : Int) (h0 : 0 ≤ r) (h1 : r ≤ 1048575) (h2 : 0 ≤ t) (h3 : 0 ≤ m) (h4 : t < 549755813888) (h5 : m < 549755813888) (h : p < 0) (w : World) : Calls Try.prog 5 #[.agg #[.int .i64 r], .agg #[.int .i64 t, .int .i64 m], .agg #[.int .i64 p, .int .i64 q]] w (Yes w) := by
  go_enter Try.func5, Try.ntmps5
  go_wp2_with (go_at_call 13; refine (awake_yes _).mono ?_; rintro e w' ⟨rfl, hb⟩)
  go_ret
  refine ⟨rfl, bel_end ?_ hb⟩
  repeat (with_reducible refine bel_alloc ?_)
  with_reducible exact Below.refl _ _
set_option maxRecDepth 100000 in
set_option maxHeartbeats 1000000 in
theorem out7 (r t m p q : Int) (h0 : 0 ≤ r) (h1 : r ≤ 1048575) (h2 : 0 ≤ t) (h3 : 0 ≤ m) (h4 : t < 549755813888) (h5 : m < 549755813888) (h6 : 0 ≤ p) (h : q < p) (w : World) : Calls Try.prog 5 #[.agg #[.int .i64 r], .agg #[.int .i64 t, .int .i64 m], .agg #[.int .i64 p, .int .i64 q]] w (Yes w) := by
  go_enter Try.func5, Try.ntmps5
  go_wp2_with (go_at_call 13; refine (awake_yes _).mono ?_; rintro e w' ⟨rfl, hb⟩)
  go_ret
  refine ⟨rfl, bel_end ?_ hb⟩
  repeat (with_reducible refine bel_alloc ?_)
  with_reducible exact Below.refl _ _
set_option maxRecDepth 100000 in
set_option maxHeartbeats 1000000 in
theorem out8 (r t m p q : Int) (h0 : 0 ≤ r) (h1 : r ≤ 1048575) (h2 : 0 ≤ t) (h3 : 0 ≤ m) (h4 : t < 549755813888) (h5 : m < 549755813888) (h6 : 0 ≤ p) (h7 : p ≤ q) (h : 1048576 < q) (w : World) : Calls Try.prog 5 #[.agg #[.int .i64 r], .agg #[.int .i64 t, .int .i64 m], .agg #[.int .i64 p, .int .i64 q]] w (Yes w) := by
  go_enter Try.func5, Try.ntmps5
  go_wp2_with (go_at_call 13; refine (awake_yes _).mono ?_; rintro e w' ⟨rfl, hb⟩)
  go_ret
  refine ⟨rfl, bel_end ?_ hb⟩
  repeat (with_reducible refine bel_alloc ?_)
  with_reducible exact Below.refl _ _
set_option maxRecDepth 100000 in
set_option maxHeartbeats 2000000 in
theorem inside (r t m p q : Int) (h0 : 0 ≤ r) (h1 : r ≤ 1048575) (h2 : 0 ≤ t) (h3 : 0 ≤ m) (h4 : t < 549755813888) (h5 : m < 549755813888) (h6 : 0 ≤ p) (h7 : p ≤ q) (h8 : q ≤ 1048576) (w : World) : Calls Try.prog 5 #[.agg #[.int .i64 r], .agg #[.int .i64 t, .int .i64 m], .agg #[.int .i64 p, .int .i64 q]] w (Yes w) := by
  have m1 := mul_more (t := t) h3 h6 (by omega : p ≤ 1048576)
  have m2 := mul_more (t := t) (m := 1) (by omega) h6 (by omega : p ≤ 1048576)
  have m3 := mul_rate h2 h7
  have C1 := Lib.hid (charge_ok r t p h0 h1 h2 (by omega) h6 (by omega))
  have C2 := Lib.hid (charge_ok r (t + m) p h0 h1 (by omega) (by omega) h6 (by omega))
  have C3 := Lib.hid (charge_ok r t q h0 h1 h2 (by omega) (by omega) h8)
  have C4 := Lib.hid (charge_ok r (t + 1) p h0 h1 (by omega) (by omega) h6 (by omega))
  obtain ⟨A, hA⟩ : ∃ A, (t * p + r) / 1048576 = A := ⟨_, rfl⟩
  obtain ⟨B, hB⟩ : ∃ A, ((t + m) * p + r) / 1048576 = A := ⟨_, rfl⟩
  obtain ⟨C, hC⟩ : ∃ A, (t * q + r) / 1048576 = A := ⟨_, rfl⟩
  obtain ⟨D, hD⟩ : ∃ A, ((t + 1) * p + r) / 1048576 = A := ⟨_, rfl⟩
  have f1 : A ≤ B := by omega
  have f2 : B ≤ A + m := by omega
  have f3 : A ≤ C := by omega
  have f4 : A ≤ D := by omega
  have f5 : D ≤ A + 1 := by omega
  have b1 := mul_time (t := t) h2 (by omega) h6 (by omega : p ≤ 1048576)
  have f6 : 0 ≤ A := by omega
  have f7 : A ≤ 1099511627776 := by omega
  rw [hA] at C1
  rw [hB] at C2
  rw [hC] at C3
  rw [hD] at C4
  generalize (t * p + r) % 1048576 = x1 at C1
  generalize ((t + m) * p + r) % 1048576 = x2 at C2
  generalize (t * q + r) % 1048576 = x3 at C3
  generalize ((t + 1) * p + r) % 1048576 = x4 at C4
  clear m1 m2 m3 hA hB hC hD b1
  go_enter Try.func5, Try.ntmps5
  go_wp2_with (first | (go_at_call 15; (with_reducible refine (C1.out _).mono ?_); rintro e w' ⟨rfl, rfl⟩; unfold meterBox; clear C1) | (go_at_call 15; (with_reducible refine (C2.out _).mono ?_); rintro e w' ⟨rfl, rfl⟩; unfold meterBox; clear C2) | (go_at_call 15; (with_reducible refine (C3.out _).mono ?_); rintro e w' ⟨rfl, rfl⟩; unfold meterBox; clear C3) | (go_at_call 15; (with_reducible refine (C4.out _).mono ?_); rintro e w' ⟨rfl, rfl⟩; unfold meterBox; clear C4) | (go_at_call 13; refine (awake_yes _).mono ?_; rintro e w' ⟨rfl, hb⟩))

  go_ret
  refine ⟨rfl, bel_end ?_ hb⟩
  repeat (with_reducible refine bel_alloc ?_)
  with_reducible exact Below.refl _ _

theorem walk (r t m p q : Int) (_ : (Lit.int .i64 r).wf = true) (_ : (Lit.int .i64 t).wf = true) (_ : (Lit.int .i64 m).wf = true) (_ : (Lit.int .i64 p).wf = true) (_ : (Lit.int .i64 q).wf = true) (w : World) : Calls Try.prog 5 #[.agg #[.int .i64 r], .agg #[.int .i64 t, .int .i64 m], .agg #[.int .i64 p, .int .i64 q]] w (Yes w) := by
  by_cases h0 : 0 ≤ r
  case neg => exact out0 r t m p q  (by omega) w
  by_cases h1 : r ≤ 1048575
  case neg => exact out1 r t m p q h0 (by omega) w
  by_cases h2 : 0 ≤ t
  case neg => exact out2 r t m p q h0 h1 (by omega) w
  by_cases h3 : 0 ≤ m
  case neg => exact out3 r t m p q h0 h1 h2 (by omega) w
  by_cases h4 : t < 549755813888
  case neg => exact out4 r t m p q h0 h1 h2 h3 (by omega) w
  by_cases h5 : m < 549755813888
  case neg => exact out5 r t m p q h0 h1 h2 h3 h4 (by omega) w
  by_cases h6 : 0 ≤ p
  case neg => exact out6 r t m p q h0 h1 h2 h3 h4 h5 (by omega) w
  by_cases h7 : p ≤ q
  case neg => exact out7 r t m p q h0 h1 h2 h3 h4 h5 h6 (by omega) w
  by_cases h8 : q ≤ 1048576
  case neg => exact out8 r t m p q h0 h1 h2 h3 h4 h5 h6 h7 (by omega) w
  exact inside r t m p q h0 h1 h2 h3 h4 h5 h6 h7 h8 w

set_option maxRecDepth 100000 in
theorem lifted (os : Os) (started : os.Started) (H : Type) (enc : TypeId × Value → H) :
    ReturnsInHanded {} Try.checked os 5 .any (Rows.grubMoreSpec.pre6 enc Try.prog Try.f5 Rows.grubMoreRow.domain false) (Rows.grubMoreSpec.post enc Try.prog Try.f5 false true false false) := by
  refine returnsInHanded_of_change (C := Try.checked) own started (by kernel_rfl) Try.func5
    (ChangeSpec.witness6 (enc := enc) (C := Try.checked) false ⟨#[], #[.agg #[.int .i64 0], .agg #[.int .i64 0, .int .i64 0], .agg #[.int .i64 0, .int .i64 0]], []⟩ 8 (by kernel_rfl) (by kernel_rfl) (by kernel_rfl) (by kernel_rfl)) ?_
  intro W base args ds gs before hval0 hW hcnd _
  have hval : ∀ (j : Nat) t v, Try.f5.params[j]? = some t → args[j]? = some v → Value.okWide Try.prog W .any base t v := hval0
  have hW' := hW
  obtain ⟨p, q, hA0, hV, _, hfz, hnd⟩ := hW'
  have hA : DataW.TrodAll enc Try.prog W 0 (fun _ => true) true Try.f5.params.toList args.toList ds p := hA0
  rw [Try.params5] at hA hval
  obtain ⟨v0, v1, v2, d0, d1, d2, p0, p1, p2, rfl, _, _, h0, h1, h2⟩ := trodAll_three hA
  obtain ⟨c00, y00, m0, rfl, hy00⟩ := open_agg1 Try.underlying35 (by kernel_rfl) (by kernel_rfl) (hval 0 35 v0 rfl rfl) h0
  obtain ⟨r, e00, _, wr⟩ := DataW.trod_int Try.underlying3 hy00
  simp at e00
  subst e00
  obtain ⟨t, m, rfl, wt, wm⟩ := open_arr2 Try.underlying36 Try.underlying3 (by kernel_rfl) (by kernel_rfl) (hval 1 36 v1 rfl rfl) h1
  obtain ⟨p, q, rfl, wp, wq⟩ := open_arr2 Try.underlying36 Try.underlying3 (by kernel_rfl) (by kernel_rfl) (hval 2 36 v2 rfl rfl) h2
  refine (walk r t m p q wr wt wm wp wq W).mono fun e W' h => ?_
  exact law_post (f := Try.f5) rfl rfl Try.underlying4 (by kernel_rfl) (fun ds hd => by
    match ds, hd with
    | [_, _, _], _ => rfl) hW h

theorem over : Rows.grubMoreRow.holds Try.pinned (OpenSpec.ofChange Rows.grubMoreSpec) :=
  OpenClaim.holds_of_wide 5 Try.f5 rfl rfl rfl rfl rfl rfl rfl ⟨rfl, rfl, rfl, rfl, rfl⟩ rfl rfl rfl rfl rfl (by kernel_rfl) Try.func5 (by kernel_rfl)
    (of_decide_eq_true (by kernel_rfl)) (by unfold Func.isWrapper; first | (rw [if_pos (by decide +kernel)]; kernel_rfl) | (rw [if_neg (by decide +kernel)]; exact ⟨rfl, rfl⟩))
    (fun os started H enc _ => lifted os started H enc)

/-- THE STATEMENT. -/
theorem proved : Rows.GrubMoreSaid := over
end Go.Proofs.Ytnahedmccbkflaa.grubMore
