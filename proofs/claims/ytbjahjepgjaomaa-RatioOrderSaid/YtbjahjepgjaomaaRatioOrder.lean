/- RatioOrder answers true at every budget and time, and how much more they are. No condition. -/
import Derived.Test.YtbjahjepgjaomaaRatioAwake
import Derived.Test.YtbjahjepgjaomaaQuotLaws
import Derived.WalkLawsBesides
import Derived.WalkSpells
import Derived.Outline
namespace Go.Proofs.Ytbjahjepgjaomaa.ratioOrder
open Go.ChangeShapes Go.WideShapes Go.ChangeAt Go.RowKit Go.Joins

/-! ### the plain law -/
theorem plain (q t m n : Nat) (hq : q ≤ 1099511627776) (ht : 1 ≤ t) (ht' : t ≤ 1099511627776) (hm : m ≤ 1099511627776) :
    ∃ a b c d y z : Nat, divNum q 1048576 t true = a ∧ divErr q 1048576 t true = 0 ∧ divNum q 1048576 t false = b ∧ divErr q 1048576 t false = 0 ∧ divNum (q + m : Nat) 1048576 t true = c ∧ divErr (q + m : Nat) 1048576 t true = 0 ∧
      divNum q 1048576 (t + n : Nat) false = d ∧ divErr q 1048576 (t + n : Nat) false = 0 ∧ divNum 1048576 t 1048576 true = t ∧ divErr 1048576 t 1048576 true = 0 ∧ divNum a t 1048576 true = y ∧ divErr a t 1048576 true = 0 ∧
      divNum b t 1048576 false = z ∧ divErr b t 1048576 false = 0 ∧ b ≤ a ∧ a ≤ b + 1 ∧ a ≤ c ∧ d ≤ b ∧ q ≤ y ∧ z ≤ q ∧ a ≤ 1152921504606846976 := by
  have m1 : q * 1048576 ≤ 1099511627776 * 1048576 := Nat.mul_le_mul_right _ hq
  have m2 : (q + m) * 1048576 ≤ 2199023255552 * 1048576 := Nat.mul_le_mul_right _ (by omega)
  have f1 (up : Bool) : quot up (q * 1048576) t ≤ 1152921504606846976 := quot_fit up ht (Nat.le_trans m1 (by have : 1152921504606846976 * 1 ≤ 1152921504606846976 * t := Nat.mul_le_mul_left _ ht; omega))
  have f2 : quot true ((q + m) * 1048576) t ≤ 2305843009213693952 := quot_fit true ht (Nat.le_trans m2 (by have : 2305843009213693952 * 1 ≤ 2305843009213693952 * t := Nat.mul_le_mul_left _ ht; omega))
  have f3 : quot false (q * 1048576) (t + n) ≤ quot false (q * 1048576) t := quot_anti false ht (by omega)
  have f4 : quot true (1048576 * t) 1048576 = t := by rw [Nat.mul_comm]; exact quot_exact true (by omega)
  have u := quot_up_le (n := q * 1048576) ht
  have v := quot_down_le (n := q * 1048576) ht
  have f5 : quot true (quot true (q * 1048576) t * t) 1048576 ≤ 1099512676352 := quot_fit true (by omega) (by omega)
  have f6 : quot false (quot false (q * 1048576) t * t) 1048576 ≤ q := quot_fit false (by omega) v.1
  have f7 : q ≤ quot true (quot true (q * 1048576) t * t) 1048576 := by
    have := quot_mono true (show 0 < 1048576 by omega) u.1
    rw [quot_exact true (by omega)] at this; exact this
  have bo := quot_both (q * 1048576) t
  have mo := quot_mono true ht (show q * 1048576 ≤ (q + m) * 1048576 from Nat.mul_le_mul_right _ (by omega))
  have f1t := f1 true
  have f1f := f1 false
  have r1 := divRes_nat (x := q) (y := 1048576) (c := t) (up := true) ht (Nat.le_trans f1t (by omega))
  have r2 := divRes_nat (x := q) (y := 1048576) (c := t) (up := false) ht (by omega)
  have r3 := divRes_nat (x := q + m) (y := 1048576) (c := t) (up := true) ht (Nat.le_trans f2 (by omega))
  have r4 := divRes_nat (x := q) (y := 1048576) (c := t + n) (up := false) (by omega) (by omega)
  have r5 := divRes_nat (x := 1048576) (y := t) (c := 1048576) (up := true) (by omega) (by omega)
  have r6 := divRes_nat (x := quot true (q * 1048576) t) (y := t) (c := 1048576) (up := true) (by omega) (by omega)
  have r7 := divRes_nat (x := quot false (q * 1048576) t) (y := t) (c := 1048576) (up := false) (by omega) (by omega)
  rw [f4] at r5
  exact ⟨_, _, _, _, _, _, r1.1, r1.2, r2.1, r2.2, r3.1, r3.2, r4.1, r4.2, r5.1, r5.2, r6.1, r6.2, r7.1, r7.2, bo.1, bo.2, mo, f3, f7, f6, f1t⟩

/-! ### the walk -/
set_option maxRecDepth 100000 in
set_option maxHeartbeats 1000000 in
theorem out0 (q t m n : Int)  (h : q < 0) (w : World) : Calls Try.prog 4 #[.int .i64 q, .int .i64 t, .agg #[.int .i64 m, .int .i64 n]] w (Yes w) := by
  go_enter Try.func4, Try.ntmps4
  go_wp2_with (go_at_call 14; refine (awake_yes _).mono ?_; rintro e w' ⟨rfl, hb⟩)
  go_ret
  refine ⟨rfl, bel_end ?_ hb⟩
  repeat (with_reducible refine bel_alloc ?_)
  with_reducible exact Below.refl _ _
set_option maxRecDepth 100000 in
set_option maxHeartbeats 1000000 in
theorem out1 (q t m n : Int) (h0 : 0 ≤ q) (h : 1099511627776 < q) (w : World) : Calls Try.prog 4 #[.int .i64 q, .int .i64 t, .agg #[.int .i64 m, .int .i64 n]] w (Yes w) := by
  go_enter Try.func4, Try.ntmps4
  go_wp2_with (go_at_call 14; refine (awake_yes _).mono ?_; rintro e w' ⟨rfl, hb⟩)
  go_ret
  refine ⟨rfl, bel_end ?_ hb⟩
  repeat (with_reducible refine bel_alloc ?_)
  with_reducible exact Below.refl _ _
set_option maxRecDepth 100000 in
set_option maxHeartbeats 1000000 in
theorem out2 (q t m n : Int) (h0 : 0 ≤ q) (h1 : q ≤ 1099511627776) (h : t < 1) (w : World) : Calls Try.prog 4 #[.int .i64 q, .int .i64 t, .agg #[.int .i64 m, .int .i64 n]] w (Yes w) := by
  go_enter Try.func4, Try.ntmps4
  go_wp2_with (go_at_call 14; refine (awake_yes _).mono ?_; rintro e w' ⟨rfl, hb⟩)
  go_ret
  refine ⟨rfl, bel_end ?_ hb⟩
  repeat (with_reducible refine bel_alloc ?_)
  with_reducible exact Below.refl _ _
set_option maxRecDepth 100000 in
set_option maxHeartbeats 1000000 in
theorem out3 (q t m n : Int) (h0 : 0 ≤ q) (h1 : q ≤ 1099511627776) (h2 : 1 ≤ t) (h : 1099511627776 < t) (w : World) : Calls Try.prog 4 #[.int .i64 q, .int .i64 t, .agg #[.int .i64 m, .int .i64 n]] w (Yes w) := by
  go_enter Try.func4, Try.ntmps4
  go_wp2_with (go_at_call 14; refine (awake_yes _).mono ?_; rintro e w' ⟨rfl, hb⟩)
  go_ret
  refine ⟨rfl, bel_end ?_ hb⟩
  repeat (with_reducible refine bel_alloc ?_)
  with_reducible exact Below.refl _ _
set_option maxRecDepth 100000 in
set_option maxHeartbeats 1000000 in
theorem out4 (q t m n : Int) (h0 : 0 ≤ q) (h1 : q ≤ 1099511627776) (h2 : 1 ≤ t) (h3 : t ≤ 1099511627776) (h : m < 0) (w : World) : Calls Try.prog 4 #[.int .i64 q, .int .i64 t, .agg #[.int .i64 m, .int .i64 n]] w (Yes w) := by
  go_enter Try.func4, Try.ntmps4
  go_wp2_with (go_at_call 14; refine (awake_yes _).mono ?_; rintro e w' ⟨rfl, hb⟩)
  go_ret
  refine ⟨rfl, bel_end ?_ hb⟩
  repeat (with_reducible refine bel_alloc ?_)
  with_reducible exact Below.refl _ _
set_option maxRecDepth 100000 in
set_option maxHeartbeats 1000000 in
theorem out5 (q t m n : Int) (h0 : 0 ≤ q) (h1 : q ≤ 1099511627776) (h2 : 1 ≤ t) (h3 : t ≤ 1099511627776) (h4 : 0 ≤ m) (h : 1099511627776 < m) (w : World) : Calls Try.prog 4 #[.int .i64 q, .int .i64 t, .agg #[.int .i64 m, .int .i64 n]] w (Yes w) := by
  go_enter Try.func4, Try.ntmps4
  go_wp2_with (go_at_call 14; refine (awake_yes _).mono ?_; rintro e w' ⟨rfl, hb⟩)
  go_ret
  refine ⟨rfl, bel_end ?_ hb⟩
  repeat (with_reducible refine bel_alloc ?_)
  with_reducible exact Below.refl _ _
set_option maxRecDepth 100000 in
set_option maxHeartbeats 1000000 in
theorem out6 (q t m n : Int) (h0 : 0 ≤ q) (h1 : q ≤ 1099511627776) (h2 : 1 ≤ t) (h3 : t ≤ 1099511627776) (h4 : 0 ≤ m) (h5 : m ≤ 1099511627776) (h : n < 0) (w : World) : Calls Try.prog 4 #[.int .i64 q, .int .i64 t, .agg #[.int .i64 m, .int .i64 n]] w (Yes w) := by
  go_enter Try.func4, Try.ntmps4
  go_wp2_with (go_at_call 14; refine (awake_yes _).mono ?_; rintro e w' ⟨rfl, hb⟩)
  go_ret
  refine ⟨rfl, bel_end ?_ hb⟩
  repeat (with_reducible refine bel_alloc ?_)
  with_reducible exact Below.refl _ _
set_option maxRecDepth 100000 in
set_option maxHeartbeats 1000000 in
theorem out7 (q t m n : Int) (h0 : 0 ≤ q) (h1 : q ≤ 1099511627776) (h2 : 1 ≤ t) (h3 : t ≤ 1099511627776) (h4 : 0 ≤ m) (h5 : m ≤ 1099511627776) (h6 : 0 ≤ n) (h : 1099511627776 < n) (w : World) : Calls Try.prog 4 #[.int .i64 q, .int .i64 t, .agg #[.int .i64 m, .int .i64 n]] w (Yes w) := by
  go_enter Try.func4, Try.ntmps4
  go_wp2_with (go_at_call 14; refine (awake_yes _).mono ?_; rintro e w' ⟨rfl, hb⟩)
  go_ret
  refine ⟨rfl, bel_end ?_ hb⟩
  repeat (with_reducible refine bel_alloc ?_)
  with_reducible exact Below.refl _ _
set_option maxRecDepth 100000 in
set_option maxHeartbeats 4000000 in
theorem inside (q t m n : Int) (h0 : 0 ≤ q) (h1 : q ≤ 1099511627776) (h2 : 1 ≤ t) (h3 : t ≤ 1099511627776) (h4 : 0 ≤ m) (h5 : m ≤ 1099511627776) (h6 : 0 ≤ n) (h7 : n ≤ 1099511627776) (w : World) : Calls Try.prog 4 #[.int .i64 q, .int .i64 t, .agg #[.int .i64 m, .int .i64 n]] w (Yes w) := by
  obtain ⟨x, rfl⟩ := Int.eq_ofNat_of_zero_le h0
  obtain ⟨t, rfl⟩ := Int.eq_ofNat_of_zero_le (show 0 ≤ t by omega)
  obtain ⟨m, rfl⟩ := Int.eq_ofNat_of_zero_le h4
  obtain ⟨n, rfl⟩ := Int.eq_ofNat_of_zero_le h6
  obtain ⟨a, b, c, d, y, z, a1, a2, b1, b2, c1, c2, d1, d2, x1, x2, y1, y2, z1, z2, p1, p2, p3, p4, p5, p6, p7⟩ := plain x t m n (by omega) (by omega) (by omega) (by omega)
  have U1 := Lib.hid (up_any (x : Int) (t : Int) (by omega) (by omega))
  have D1 := Lib.hid (down_any (x : Int) (t : Int) (by omega) (by omega))
  have U2 := Lib.hid (up_any ((x : Int) + (m : Int)) (t : Int) (by omega) (by omega))
  have D2 := Lib.hid (down_any (x : Int) ((t : Int) + (n : Int)) (by omega) (by omega))
  have P1 := Lib.hid (part_any 1048576 (t : Int) true (by omega) (by omega))
  have P2 := Lib.hid (part_any (a : Int) (t : Int) true (by omega) (by omega))
  have P3 := Lib.hid (part_any (b : Int) (t : Int) false (by omega) (by omega))
  rw [Int.natCast_add] at c1 c2 d1 d2
  rw [a1, a2] at U1
  rw [b1, b2] at D1
  rw [c1, c2] at U2
  rw [d1, d2] at D2
  rw [x1, x2] at P1
  rw [y1, y2] at P2
  rw [z1, z2] at P3
  clear a1 a2 b1 b2 c1 c2 d1 d2 x1 x2 y1 y2 z1 z2
  have q1 : (b : Int) ≤ (a : Int) := by omega
  have q2 : (a : Int) ≤ (b : Int) + 1 := by omega
  have q3 : (a : Int) ≤ (c : Int) := by omega
  have q4 : (d : Int) ≤ (b : Int) := by omega
  have q5 : (x : Int) ≤ (y : Int) := by omega
  have q6 : (z : Int) ≤ (x : Int) := by omega
  have q7 : (b : Int) ≤ 1152921504606846976 := by omega
  clear p1 p2 p3 p4 p5 p6 p7
  go_enter Try.func4, Try.ntmps4
  go_wp2_with fail
  refine (U1.out _).mono ?_
  rintro e w1 ⟨rfl, b1⟩
  go_wp2_with fail
  refine (D1.out _).mono ?_
  rintro e w2 ⟨rfl, b2⟩
  have s1 := b1.size
  have s2 := b2.size
  simp only [World.size_alloc] at s1
  have l1 : w.heap.size < w1.heap.size := by omega
  have l2 : w.heap.size < w2.heap.size := by omega
  have k1 := bcell b1
  have k2 := bcell b2
  go_wp2_with fail
  refine (U2.out _).mono ?_
  rintro e w3 ⟨rfl, b3⟩
  have k3 := bcell b3
  go_wp2_with fail
  refine (D2.out _).mono ?_
  rintro e w4 ⟨rfl, b4⟩
  go_wp2_with fail
  refine (P1.out _).mono ?_
  rintro e w5 ⟨rfl, b5⟩
  go_wp2_with fail
  refine (P2.out _).mono ?_
  rintro e w6 ⟨rfl, b6⟩
  go_wp2_with fail
  refine (P3.out _).mono ?_
  rintro e w7 ⟨rfl, b7⟩
  go_wp2_with (go_at_call 14; refine (awake_yes _).mono ?_; rintro e w' ⟨rfl, hb⟩)
  go_ret
  exact ⟨rfl, bel_end (bel_end (bel_end (bel_end (bel_end (bel_end (bel_end (bel_end (bel_alloc (Below.refl _ _)) b1) b2) b3) b4) b5) b6) b7) hb⟩

theorem walk (q t m n : Int) (_ : (Lit.int .i64 q).wf = true) (_ : (Lit.int .i64 t).wf = true) (_ : (Lit.int .i64 m).wf = true) (_ : (Lit.int .i64 n).wf = true) (w : World) : Calls Try.prog 4 #[.int .i64 q, .int .i64 t, .agg #[.int .i64 m, .int .i64 n]] w (Yes w) := by
  by_cases h0 : 0 ≤ q
  case neg => exact out0 q t m n   (by omega) w
  by_cases h1 : q ≤ 1099511627776
  case neg => exact out1 q t m n  h0 (by omega) w
  by_cases h2 : 1 ≤ t
  case neg => exact out2 q t m n  h0 h1 (by omega) w
  by_cases h3 : t ≤ 1099511627776
  case neg => exact out3 q t m n  h0 h1 h2 (by omega) w
  by_cases h4 : 0 ≤ m
  case neg => exact out4 q t m n  h0 h1 h2 h3 (by omega) w
  by_cases h5 : m ≤ 1099511627776
  case neg => exact out5 q t m n  h0 h1 h2 h3 h4 (by omega) w
  by_cases h6 : 0 ≤ n
  case neg => exact out6 q t m n  h0 h1 h2 h3 h4 h5 (by omega) w
  by_cases h7 : n ≤ 1099511627776
  case neg => exact out7 q t m n  h0 h1 h2 h3 h4 h5 h6 (by omega) w
  exact inside q t m n  h0 h1 h2 h3 h4 h5 h6 h7 w

set_option maxRecDepth 100000 in
theorem lifted (os : Os) (started : os.Started) (H : Type) (enc : TypeId × Value → H) :
    ReturnsInHanded {} Try.checked os 4 .any (Rows.ratioOrderSpec.pre6 enc Try.prog Try.f4 Rows.ratioOrderRow.domain false) (Rows.ratioOrderSpec.post enc Try.prog Try.f4 false true false false) := by
  refine returnsInHanded_of_change (C := Try.checked) own started (by kernel_rfl) Try.func4
    (ChangeSpec.witness6 (enc := enc) (C := Try.checked) false ⟨#[], #[.int .i64 0, .int .i64 0, .agg #[.int .i64 0, .int .i64 0]], []⟩ 8 (by kernel_rfl) (by kernel_rfl) (by kernel_rfl) (by kernel_rfl)) ?_
  intro W base args ds gs before hval0 hW hcnd _
  have hval : ∀ (j : Nat) t v, Try.f4.params[j]? = some t → args[j]? = some v → Value.okWide Try.prog W .any base t v := hval0
  have hW' := hW
  obtain ⟨p, q, hA0, hV, _, hfz, hnd⟩ := hW'
  have hA : DataW.TrodAll enc Try.prog W 0 (fun _ => true) true Try.f4.params.toList args.toList ds p := hA0
  rw [Try.params4] at hA hval
  obtain ⟨v0, v1, v2, d0, d1, d2, p0, p1, p2, rfl, _, _, h0, h1, h2⟩ := trodAll_three hA
  obtain ⟨q, rfl, _, _, wq⟩ := open_int Try.underlying3 (hval 0 3 v0 rfl rfl) h0
  obtain ⟨t, rfl, _, _, wt⟩ := open_int Try.underlying3 (hval 1 3 v1 rfl rfl) h1
  obtain ⟨m, n, rfl, wm, wn⟩ := open_arr2 Try.underlying30 Try.underlying3 (by kernel_rfl) (by kernel_rfl) (hval 2 30 v2 rfl rfl) h2
  refine (walk q t m n wq wt wm wn W).mono fun e W' h => ?_
  exact law_post (f := Try.f4) rfl rfl Try.underlying4 (by kernel_rfl) (fun ds hd => by
    match ds, hd with
    | [_, _, _], _ => rfl) hW h

theorem over : Rows.ratioOrderRow.holds Try.pinned (OpenSpec.ofChange Rows.ratioOrderSpec) :=
  OpenClaim.holds_of_wide 4 Try.f4 rfl rfl rfl rfl rfl rfl rfl ⟨rfl, rfl, rfl, rfl, rfl⟩ rfl rfl rfl rfl rfl (by kernel_rfl) Try.func4 (by kernel_rfl)
    (of_decide_eq_true (by kernel_rfl)) (by unfold Func.isWrapper; first | (rw [if_pos (by decide +kernel)]; kernel_rfl) | (rw [if_neg (by decide +kernel)]; exact ⟨rfl, rfl⟩))
    (fun os started H enc _ => lifted os started H enc)

/-- THE STATEMENT. -/
theorem proved : Rows.RatioOrderSaid := over
end Go.Proofs.Ytbjahjepgjaomaa.ratioOrder
