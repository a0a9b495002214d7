/- RatioShares answers true at every number of parts, and every time. No condition. -/
import Derived.Test.YtbjahjepgjaomaaRatioAwake
import Derived.Test.YtbjahjepgjaomaaQuotLaws
import Derived.WalkLawsBesides
import Derived.WalkSpells
import Derived.Outline
namespace Go.Proofs.Ytbjahjepgjaomaa.ratioShares
open Go.ChangeShapes Go.WideShapes Go.ChangeAt Go.RowKit Go.Joins

/-! ### the plain law -/
theorem cross_up {n a x t : Nat} (h1 : 1048576 ≤ a * n) (h2 : a * t ≤ x * 1048576) : t ≤ n * x := by
  have h3 : 1048576 * t ≤ a * n * t := Nat.mul_le_mul_right _ h1
  have h4 : n * (a * t) ≤ n * (x * 1048576) := Nat.mul_le_mul_left _ h2
  have e1 : n * (a * t) = a * n * t := by rw [← Nat.mul_assoc, Nat.mul_comm n a]
  have e2 : n * (x * 1048576) = n * x * 1048576 := by rw [Nat.mul_assoc]
  rw [e1, e2] at h4
  omega
theorem cross_down {n b y t : Nat} (h1 : b * n ≤ 1048576) (h2 : y * 1048576 ≤ b * t) : n * y ≤ t := by
  have h3 : b * n * t ≤ 1048576 * t := Nat.mul_le_mul_right _ h1
  have h4 : n * (y * 1048576) ≤ n * (b * t) := Nat.mul_le_mul_left _ h2
  have e1 : n * (b * t) = b * n * t := by rw [← Nat.mul_assoc, Nat.mul_comm n b]
  have e2 : n * (y * 1048576) = n * y * 1048576 := by rw [Nat.mul_assoc]
  rw [e1, e2] at h4
  omega
theorem small {n a k : Nat} (hn : n ≤ 1000) (ha : a ≤ k) : n * a ≤ 1000 * k := Nat.mul_le_mul hn ha
theorem plain (n t : Nat) (h1 : 1 ≤ n) (h2 : n ≤ 1000) (h3 : t ≤ 1099511627776) :
    ∃ a b x y : Nat, divNum 1 1048576 n true = a ∧ divErr 1 1048576 n true = 0 ∧ divNum 1 1048576 n false = b ∧ divErr 1 1048576 n false = 0 ∧ divNum a t 1048576 true = x ∧ divErr a t 1048576 true = 0 ∧ divNum b t 1048576 false = y ∧ divErr b t 1048576 false = 0 ∧
      1048576 ≤ n * a ∧ n * b ≤ 1048576 ∧ t ≤ n * x ∧ n * y ≤ t ∧ a ≤ 1048576 ∧ n * a ≤ 1048576000 ∧ n * x ≤ 1099511627776000 := by
  have m1 : 1048576 * 1 ≤ 1048576 * n := Nat.mul_le_mul_left _ h1
  have f1 (up : Bool) : quot up (1 * 1048576) n ≤ 1048576 := quot_fit up h1 (by omega)
  have u := quot_up_le (n := 1 * 1048576) h1
  have v := quot_down_le (n := 1 * 1048576) h1
  have f1t := f1 true
  have f1f := f1 false
  generalize hA : quot true (1 * 1048576) n = A at *
  generalize hB : quot false (1 * 1048576) n = B at *
  have m2 : A * t ≤ 1048576 * t := Nat.mul_le_mul_right _ f1t
  have m3 : B * t ≤ 1048576 * t := Nat.mul_le_mul_right _ f1f
  have f2 : quot true (A * t) 1048576 ≤ 1099511627776 := quot_fit true (by omega) (by omega)
  have f3 : quot false (B * t) 1048576 ≤ 1099511627776 := quot_fit false (by omega) (by omega)
  have u2 := quot_up_le (n := A * t) (show 0 < 1048576 by omega)
  have v2 := quot_down_le (n := B * t) (show 0 < 1048576 by omega)
  have r1 := divRes_nat (x := 1) (y := 1048576) (c := n) (up := true) h1 (by rw [hA]; omega)
  have r2 := divRes_nat (x := 1) (y := 1048576) (c := n) (up := false) h1 (by rw [hB]; omega)
  have r3 := divRes_nat (x := A) (y := t) (c := 1048576) (up := true) (by omega) (by omega)
  have r4 := divRes_nat (x := B) (y := t) (c := 1048576) (up := false) (by omega) (by omega)
  rw [hA] at r1
  rw [hB] at r2
  exact ⟨_, _, _, _, r1.1, r1.2, r2.1, r2.2, r3.1, r3.2, r4.1, r4.2, by rw [Nat.mul_comm]; omega, by rw [Nat.mul_comm]; omega, cross_up (by omega) u2.1, cross_down (by omega) v2.1, f1t, small h2 f1t, small h2 f2⟩

/-! ### the walk -/
set_option maxRecDepth 100000 in
set_option maxHeartbeats 1000000 in
theorem out0 (n t : Int)  (h : n < 1) (w : World) : Calls Try.prog 6 #[.int .i64 n, .int .i64 t] w (Yes w) := by
  go_enter Try.func6, Try.ntmps6
  go_wp2_with (go_at_call 14; refine (awake_yes _).mono ?_; rintro e w' ⟨rfl, hb⟩)
  go_ret
  refine ⟨rfl, bel_end ?_ hb⟩
  repeat (with_reducible refine bel_alloc ?_)
  with_reducible exact Below.refl _ _
set_option maxRecDepth 100000 in
set_option maxHeartbeats 1000000 in
theorem out1 (n t : Int) (h0 : 1 ≤ n) (h : 1000 < n) (w : World) : Calls Try.prog 6 #[.int .i64 n, .int .i64 t] w (Yes w) := by
  go_enter Try.func6, Try.ntmps6
  go_wp2_with (go_at_call 14; refine (awake_yes _).mono ?_; rintro e w' ⟨rfl, hb⟩)
  go_ret
  refine ⟨rfl, bel_end ?_ hb⟩
  repeat (with_reducible refine bel_alloc ?_)
  with_reducible exact Below.refl _ _
set_option maxRecDepth 100000 in
set_option maxHeartbeats 1000000 in
theorem out2 (n t : Int) (h0 : 1 ≤ n) (h1 : n ≤ 1000) (h : t < 0) (w : World) : Calls Try.prog 6 #[.int .i64 n, .int .i64 t] w (Yes w) := by
  go_enter Try.func6, Try.ntmps6
  go_wp2_with (go_at_call 14; refine (awake_yes _).mono ?_; rintro e w' ⟨rfl, hb⟩)
  go_ret
  refine ⟨rfl, bel_end ?_ hb⟩
  repeat (with_reducible refine bel_alloc ?_)
  with_reducible exact Below.refl _ _
set_option maxRecDepth 100000 in
set_option maxHeartbeats 1000000 in
theorem out3 (n t : Int) (h0 : 1 ≤ n) (h1 : n ≤ 1000) (h2 : 0 ≤ t) (h : 1099511627776 < t) (w : World) : Calls Try.prog 6 #[.int .i64 n, .int .i64 t] w (Yes w) := by
  go_enter Try.func6, Try.ntmps6
  go_wp2_with (go_at_call 14; refine (awake_yes _).mono ?_; rintro e w' ⟨rfl, hb⟩)
  go_ret
  refine ⟨rfl, bel_end ?_ hb⟩
  repeat (with_reducible refine bel_alloc ?_)
  with_reducible exact Below.refl _ _
set_option maxRecDepth 100000 in
set_option maxHeartbeats 4000000 in
theorem inside (n t : Int) (h0 : 1 ≤ n) (h1 : n ≤ 1000) (h2 : 0 ≤ t) (h3 : t ≤ 1099511627776) (w : World) : Calls Try.prog 6 #[.int .i64 n, .int .i64 t] w (Yes w) := by
  obtain ⟨n, rfl⟩ := Int.eq_ofNat_of_zero_le (show 0 ≤ n by omega)
  obtain ⟨t, rfl⟩ := Int.eq_ofNat_of_zero_le h2
  obtain ⟨a, b, x, y, a1, a2, b1, b2, x1, x2, y1, y2, p1, p2, p3, p4, p5, p6, p7⟩ := plain n t (by omega) (by omega) (by omega)
  have U1 := Lib.hid (up_any 1 (n : Int) (by omega) (by omega))
  have D1 := Lib.hid (down_any 1 (n : Int) (by omega) (by omega))
  have hb0 : b ≤ 1048576 := by
    have : 1 * b ≤ n * b := Nat.mul_le_mul_right _ (by omega)
    omega
  have P1 := Lib.hid (part_any (a : Int) (t : Int) true (by omega) (by omega))
  have P2 := Lib.hid (part_any (b : Int) (t : Int) false (by omega) (by omega))
  rw [a1, a2] at U1
  rw [b1, b2] at D1
  rw [x1, x2] at P1
  rw [y1, y2] at P2
  clear a1 a2 b1 b2 x1 x2 y1 y2
  have q1 : (1048576 : Int) ≤ (n : Int) * (a : Int) := by rw [← Int.natCast_mul]; omega
  have q2 : (n : Int) * (b : Int) ≤ 1048576 := by rw [← Int.natCast_mul]; omega
  have q3 : (t : Int) ≤ (n : Int) * (x : Int) := by rw [← Int.natCast_mul]; omega
  have q4 : (n : Int) * (y : Int) ≤ (t : Int) := by rw [← Int.natCast_mul]; omega
  have q5 : (n : Int) * (a : Int) ≤ 1048576000 := by rw [← Int.natCast_mul]; omega
  have q6 : (n : Int) * (x : Int) ≤ 1099511627776000 := by rw [← Int.natCast_mul]; omega
  have q7 : 0 ≤ (n : Int) * (b : Int) := by rw [← Int.natCast_mul]; omega
  have q8 : 0 ≤ (n : Int) * (y : Int) := by rw [← Int.natCast_mul]; omega
  clear p1 p2 p3 p4 p5 p6 p7 hb0
  go_enter Try.func6, Try.ntmps6
  go_wp2_with fail
  refine (U1.out _).mono ?_
  rintro e w1 ⟨rfl, b1⟩
  go_wp2_with fail
  refine (D1.out _).mono ?_
  rintro e w2 ⟨rfl, b2⟩
  go_wp2_with fail
  refine (P1.out _).mono ?_
  rintro e w3 ⟨rfl, b3⟩
  go_wp2_with fail
  refine (P2.out _).mono ?_
  rintro e w4 ⟨rfl, b4⟩
  go_wp2_with (go_at_call 14; refine (awake_yes _).mono ?_; rintro e w' ⟨rfl, hb⟩)
  go_ret
  exact ⟨rfl, bel_end (bel_end (bel_end (bel_end b1 b2) b3) b4) hb⟩

theorem walk (n t : Int) (_ : (Lit.int .i64 n).wf = true) (_ : (Lit.int .i64 t).wf = true) (w : World) : Calls Try.prog 6 #[.int .i64 n, .int .i64 t] w (Yes w) := by
  by_cases h0 : 1 ≤ n
  case neg => exact out0 n t   (by omega) w
  by_cases h1 : n ≤ 1000
  case neg => exact out1 n t  h0 (by omega) w
  by_cases h2 : 0 ≤ t
  case neg => exact out2 n t  h0 h1 (by omega) w
  by_cases h3 : t ≤ 1099511627776
  case neg => exact out3 n t  h0 h1 h2 (by omega) w
  exact inside n t  h0 h1 h2 h3 w

set_option maxRecDepth 100000 in
theorem lifted (os : Os) (started : os.Started) (H : Type) (enc : TypeId × Value → H) :
    ReturnsInHanded {} Try.checked os 6 .any (Rows.ratioSharesSpec.pre6 enc Try.prog Try.f6 Rows.ratioSharesRow.domain false) (Rows.ratioSharesSpec.post enc Try.prog Try.f6 false true false false) := by
  refine returnsInHanded_of_change (C := Try.checked) own started (by kernel_rfl) Try.func6
    (ChangeSpec.witness6 (enc := enc) (C := Try.checked) false ⟨#[], #[.int .i64 0, .int .i64 0], []⟩ 8 (by kernel_rfl) (by kernel_rfl) (by kernel_rfl) (by kernel_rfl)) ?_
  intro W base args ds gs before hval0 hW hcnd _
  have hval : ∀ (j : Nat) t v, Try.f6.params[j]? = some t → args[j]? = some v → Value.okWide Try.prog W .any base t v := hval0
  have hW' := hW
  obtain ⟨p, q, hA0, hV, _, hfz, hnd⟩ := hW'
  have hA : DataW.TrodAll enc Try.prog W 0 (fun _ => true) true Try.f6.params.toList args.toList ds p := hA0
  rw [Try.params6] at hA hval
  obtain ⟨v0, v1, d0, d1, p0, p1, rfl, _, _, h0, h1⟩ := trodAll_two hA
  obtain ⟨n, rfl, _, _, wn⟩ := open_int Try.underlying3 (hval 0 3 v0 rfl rfl) h0
  obtain ⟨t, rfl, _, _, wt⟩ := open_int Try.underlying3 (hval 1 3 v1 rfl rfl) h1
  refine (walk n t wn wt W).mono fun e W' h => ?_
  exact law_post (f := Try.f6) rfl rfl Try.underlying4 (by kernel_rfl) (fun ds hd => by
    match ds, hd with
    | [_, _], _ => rfl) hW h

theorem over : Rows.ratioSharesRow.holds Try.pinned (OpenSpec.ofChange Rows.ratioSharesSpec) :=
  OpenClaim.holds_of_wide 6 Try.f6 rfl rfl rfl rfl rfl rfl rfl ⟨rfl, rfl, rfl, rfl, rfl⟩ rfl rfl rfl rfl rfl (by kernel_rfl) Try.func6 (by kernel_rfl)
    (of_decide_eq_true (by kernel_rfl)) (by unfold Func.isWrapper; first | (rw [if_pos (by decide +kernel)]; kernel_rfl) | (rw [if_neg (by decide +kernel)]; exact ⟨rfl, rfl⟩))
    (fun os started H enc _ => lifted os started H enc)

/-- THE STATEMENT. -/
theorem proved : Rows.RatioSharesSaid := over
end Go.Proofs.Ytbjahjepgjaomaa.ratioShares
