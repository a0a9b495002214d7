/- NumDivs answers true at any three numbers, rounded up or not. No condition. -/
import Derived.Test.YtgdgfcogmfhpcaaDig4
import Derived.Test.YtgdgfcogmfhpcaaNumAwake
namespace Go.Proofs.Ytgdgfcogmfhpcaa.numDivs
open Go.ChangeShapes Go.WideShapes Go.ChangeAt Go.RowKit Go.Joins

set_option maxRecDepth 100000 in
set_option maxHeartbeats 2000000 in
theorem walk_range (a b c : Int) (up : Bool) (ha' : a ≤ 9223372036854775807) (hb' : b ≤ 9223372036854775807) (hc' : c ≤ 9223372036854775807) (h : a < 0 ∨ b < 0 ∨ c < 0) (w : World) : Calls Try.prog 3 #[.agg #[.int .i64 a, .int .i64 b, .int .i64 c], .bool up] w (Yes w) := by
  have D := Lib.hid (div_any a b c up ha' hb' hc')
  rw [(divRes_range h).1, (divRes_range h).2] at D
  clear ha' hb' hc'
  by_cases h1 : a < 0
  · clear h
    go_enter Try.func3, Try.ntmps3
    go_wp2_with fail
    refine (D.out _).mono ?_
    rintro e w1 ⟨rfl, b1⟩
    have k1 := bcell b1
    go_wp2_with (go_at_call 12; refine (awake_yes _).mono ?_; rintro e w' ⟨rfl, hb⟩)
    go_ret
    exact ⟨rfl, bel_end (bel_end (bel_alloc (Below.refl _ _)) b1) hb⟩
  · have h1' : 0 ≤ a := by omega
    by_cases h2 : b < 0
    · clear h h1
      go_enter Try.func3, Try.ntmps3
      go_wp2_with fail
      refine (D.out _).mono ?_
      rintro e w1 ⟨rfl, b1⟩
      have k1 := bcell b1
      go_wp2_with (go_at_call 12; refine (awake_yes _).mono ?_; rintro e w' ⟨rfl, hb⟩)
      go_ret
      exact ⟨rfl, bel_end (bel_end (bel_alloc (Below.refl _ _)) b1) hb⟩
    · have h2' : 0 ≤ b := by omega
      have h3 : c < 0 := by omega
      clear h h1 h2
      go_enter Try.func3, Try.ntmps3
      go_wp2_with fail
      refine (D.out _).mono ?_
      rintro e w1 ⟨rfl, b1⟩
      have k1 := bcell b1
      go_wp2_with (go_at_call 12; refine (awake_yes _).mono ?_; rintro e w' ⟨rfl, hb⟩)
      go_ret
      exact ⟨rfl, bel_end (bel_end (bel_alloc (Below.refl _ _)) b1) hb⟩

set_option maxRecDepth 100000 in
set_option maxHeartbeats 2000000 in
theorem walk_zero (a b : Int) (up : Bool) (ha' : a ≤ 9223372036854775807) (hb' : b ≤ 9223372036854775807) (ha : 0 ≤ a) (hb : 0 ≤ b) (w : World) : Calls Try.prog 3 #[.agg #[.int .i64 a, .int .i64 b, .int .i64 0], .bool up] w (Yes w) := by
  have D := Lib.hid (div_any a b 0 up ha' hb' (by omega))
  rw [(divRes_zero ha hb).1, (divRes_zero ha hb).2] at D
  clear ha' hb'
  go_enter Try.func3, Try.ntmps3
  go_wp2_with fail
  refine (D.out _).mono ?_
  rintro e w1 ⟨rfl, b1⟩
  have k1 := bcell b1
  go_wp2_with (go_at_call 12; refine (awake_yes _).mono ?_; rintro e w' ⟨rfl, hb⟩)
  go_ret
  exact ⟨rfl, bel_end (bel_end (bel_alloc (Below.refl _ _)) b1) hb⟩

set_option maxRecDepth 100000 in
set_option maxHeartbeats 2000000 in
theorem over_true (x y z : Nat) (hx : x ≤ 9223372036854775807) (hy : y ≤ 9223372036854775807) (hz : 1 ≤ z) (hz' : z ≤ 9223372036854775807) (hq : 9223372036854775807 < quot true (x * y) z) (w : World) : Calls Try.prog 3 #[.agg #[.int .i64 x, .int .i64 y, .int .i64 z], .bool true] w (Yes w) := by
  have D := Lib.hid (div_any (x : Int) (y : Int) (z : Int) true (by omega) (by omega) (by omega))
  have r := divRes_over (a := (x : Int)) (b := (y : Int)) (c := (z : Int)) (up := true) (by omega) (by omega) (by omega) (by simpa using hq)
  rw [r.1, r.2] at D
  have e1 := u64_of x hx
  have e2 := u64_of y hy
  have e3 := u64_of z hz'
  have p1 := prod_small hx hy
  have T1 := Lib.hid (times_any x y (by omega) (by omega))
  have O1 := Lib.hid (of_zero z (by omega))
  have z0 : ((z : Int) == 0) = false := by simp; omega
  have T2 := Lib.hid (times_max z (by omega))
  have g : 9223372036854775807 * z < x * y := (quot_up_gt hz).1 hq
  clear hq r
  generalize x * y = N at *
  generalize 9223372036854775807 * z = M at *
  have t1 : decide (M < N) = true := by simp; exact g
  clear p1 g
  go_enter Try.func3, Try.ntmps3
  go_wp2_with fail
  refine (D.out _).mono ?_
  rintro e w1 ⟨rfl, b1⟩
  have k1 := bcell b1
  have s1 := b1.size
  simp only [World.size_alloc] at s1
  have l1 : w.heap.size < w1.heap.size := by omega
  go_wp2_with fail
  refine (T1.out _).mono ?_
  rintro e w2 ⟨v1, rfl, n1, b2⟩
  have k2 := bcell b2
  have s2 := b2.size
  have l2 : w.heap.size < w2.heap.size := by omega
  go_wp2_with fail
  refine (O1.out _).mono ?_
  rintro e w3 ⟨v2, rfl, n2, b3⟩
  have k3 := bcell b3
  go_wp2_with fail
  refine (T2.out _).mono ?_
  rintro e w4 ⟨v3, rfl, n3, b4⟩
  have n1' := (n1.below b3).below b4
  have n2' := n2.below b4
  have bb := Lib.hid (bel_end (bel_end (bel_end (bel_end (bel_alloc (Below.refl _ w)) b1) b2) b3) b4)
  clear k1 k2 k3 s1 s2 l1 l2 b1 b2 b3 b4 n1 n2
  go_wp2_with fail
  refine (under_any v3 v1 M N _ n3 n1').mono ?_
  rw [t1]
  rintro e w5 ⟨rfl, k, rfl⟩
  go_wp2_with (go_at_call 12; refine (awake_yes _).mono ?_; rintro e w' ⟨rfl, hb⟩)
  go_ret
  exact ⟨rfl, bel_end (bel_end bb.out (below_drewN k)) hb⟩

set_option maxRecDepth 100000 in
set_option maxHeartbeats 2000000 in
theorem fits_true (x y z : Nat) (hx : x ≤ 9223372036854775807) (hy : y ≤ 9223372036854775807) (hz : 1 ≤ z) (hz' : z ≤ 9223372036854775807) (n : Nat) (hn : quot true (x * y) z = n) (hn' : n ≤ 9223372036854775807) (w : World) : Calls Try.prog 3 #[.agg #[.int .i64 x, .int .i64 y, .int .i64 z], .bool true] w (Yes w) := by
  have D := Lib.hid (div_any (x : Int) (y : Int) (z : Int) true (by omega) (by omega) (by omega))
  have r := divRes_nat (x := x) (y := y) (c := z) (up := true) hz (by rw [hn]; exact hn')
  rw [hn] at r
  rw [r.1, r.2] at D
  have e1 := u64_of x hx
  have e2 := u64_of y hy
  have e3 := u64_of z hz'
  have p1 := prod_small hx hy
  have T1 := Lib.hid (times_any x y (by omega) (by omega))
  have O1 := Lib.hid (of_zero z (by omega))
  have z0 : ((z : Int) == 0) = false := by simp; omega
  have e4 := u64_of n hn'
  have n0 : ¬ (n : Int) < 0 := by omega
  have T2 := Lib.hid (times_any n z (by omega) (by omega))
  have p2 := prod_small hn' hz'
  have g : x * y ≤ n * z ∧ n * z < x * y + z := by rw [← hn]; exact quot_up_le hz
  clear hn r
  generalize x * y = N at *
  generalize n * z = M at *
  have BN := Lib.hid (big_mod (n := N + z) (by omega))
  have t1 : decide (M < N) = false := by simp; omega
  have t2 : decide (M < N + z) = true := by simp; omega
  clear p1 p2 g
  go_enter Try.func3, Try.ntmps3
  go_wp2_with fail
  refine (D.out _).mono ?_
  rintro e w1 ⟨rfl, b1⟩
  have k1 := bcell b1
  have s1 := b1.size
  simp only [World.size_alloc] at s1
  have l1 : w.heap.size < w1.heap.size := by omega
  go_wp2_with fail
  refine (T1.out _).mono ?_
  rintro e w2 ⟨v1, rfl, n1, b2⟩
  have k2 := bcell b2
  have s2 := b2.size
  have l2 : w.heap.size < w2.heap.size := by omega
  go_wp2_with fail
  refine (O1.out _).mono ?_
  rintro e w3 ⟨v2, rfl, n2, b3⟩
  have k3 := bcell b3
  go_wp2_with fail
  refine (T2.out _).mono ?_
  rintro e w4 ⟨v3, rfl, n3, b4⟩
  have n1' := (n1.below b3).below b4
  have n2' := n2.below b4
  have bb := Lib.hid (bel_end (bel_end (bel_end (bel_end (bel_alloc (Below.refl _ w)) b1) b2) b3) b4)
  clear k1 k2 k3 s1 s2 l1 l2 b1 b2 b3 b4 n1 n2
  go_wp2_with fail
  refine (under_any v3 v1 M N _ n3 n1').mono ?_
  rw [t1]
  rintro e w5 ⟨rfl, k, rfl⟩
  go_wp2_with fail
  refine (plus_any v1 v2 N z _ (n1'.below (below_drewN k)) (n2'.below (below_drewN k))).mono ?_
  rintro e w6 ⟨v6, rfl, n6, b6⟩
  rw [BN.out] at n6
  go_wp2_with fail
  refine (under_any v3 v6 M (N + z) _ ((n3.below (below_drewN k)).below b6) n6).mono ?_
  rw [t2]
  rintro e w7 ⟨rfl, k7, rfl⟩
  go_wp2_with (go_at_call 12; refine (awake_yes _).mono ?_; rintro e w' ⟨rfl, hb⟩)
  go_ret
  exact ⟨rfl, bel_end (bel_end (bel_end (bel_end bb.out (below_drewN k)) b6) (below_drewN k7)) hb⟩

set_option maxRecDepth 100000 in
set_option maxHeartbeats 2000000 in
theorem over_false (x y z : Nat) (hx : x ≤ 9223372036854775807) (hy : y ≤ 9223372036854775807) (hz : 1 ≤ z) (hz' : z ≤ 9223372036854775807) (hq : 9223372036854775807 < quot false (x * y) z) (w : World) : Calls Try.prog 3 #[.agg #[.int .i64 x, .int .i64 y, .int .i64 z], .bool false] w (Yes w) := by
  have D := Lib.hid (div_any (x : Int) (y : Int) (z : Int) false (by omega) (by omega) (by omega))
  have r := divRes_over (a := (x : Int)) (b := (y : Int)) (c := (z : Int)) (up := false) (by omega) (by omega) (by omega) (by simpa using hq)
  rw [r.1, r.2] at D
  have e1 := u64_of x hx
  have e2 := u64_of y hy
  have e3 := u64_of z hz'
  have p1 := prod_small hx hy
  have T1 := Lib.hid (times_any x y (by omega) (by omega))
  have O1 := Lib.hid (of_zero z (by omega))
  have z0 : ((z : Int) == 0) = false := by simp; omega
  have T2 := Lib.hid (times_max z (by omega))
  have p2 := prod_small (show 9223372036854775807 ≤ 9223372036854775807 by omega) hz'
  have g : 9223372036854775807 * z + z ≤ x * y := (quot_down_gt hz).1 hq
  clear hq r
  generalize x * y = N at *
  generalize 9223372036854775807 * z = M at *
  have BM := Lib.hid (big_mod (n := M + z) (by omega))
  have t1 : decide (N < M + z) = false := by simp; exact g
  clear p1 p2 g
  go_enter Try.func3, Try.ntmps3
  go_wp2_with fail
  refine (D.out _).mono ?_
  rintro e w1 ⟨rfl, b1⟩
  have k1 := bcell b1
  have s1 := b1.size
  simp only [World.size_alloc] at s1
  have l1 : w.heap.size < w1.heap.size := by omega
  go_wp2_with fail
  refine (T1.out _).mono ?_
  rintro e w2 ⟨v1, rfl, n1, b2⟩
  have k2 := bcell b2
  have s2 := b2.size
  have l2 : w.heap.size < w2.heap.size := by omega
  go_wp2_with fail
  refine (O1.out _).mono ?_
  rintro e w3 ⟨v2, rfl, n2, b3⟩
  have k3 := bcell b3
  go_wp2_with fail
  refine (T2.out _).mono ?_
  rintro e w4 ⟨v3, rfl, n3, b4⟩
  have n1' := (n1.below b3).below b4
  have n2' := n2.below b4
  have bb := Lib.hid (bel_end (bel_end (bel_end (bel_end (bel_alloc (Below.refl _ w)) b1) b2) b3) b4)
  clear k1 k2 k3 s1 s2 l1 l2 b1 b2 b3 b4 n1 n2
  go_wp2_with fail
  refine (plus_any v3 v2 M z _ n3 n2').mono ?_
  rintro e w5 ⟨v5, rfl, n5, b5⟩
  rw [BM.out] at n5
  go_wp2_with fail
  refine (under_any v1 v5 N (M + z) _ (n1'.below b5) n5).mono ?_
  rw [t1]
  rintro e w6 ⟨rfl, k, rfl⟩
  go_wp2_with (go_at_call 12; refine (awake_yes _).mono ?_; rintro e w' ⟨rfl, hb⟩)
  go_ret
  exact ⟨rfl, bel_end (bel_end (bel_end bb.out b5) (below_drewN k)) hb⟩

set_option maxRecDepth 100000 in
set_option maxHeartbeats 2000000 in
theorem fits_false (x y z : Nat) (hx : x ≤ 9223372036854775807) (hy : y ≤ 9223372036854775807) (hz : 1 ≤ z) (hz' : z ≤ 9223372036854775807) (n : Nat) (hn : quot false (x * y) z = n) (hn' : n ≤ 9223372036854775807) (w : World) : Calls Try.prog 3 #[.agg #[.int .i64 x, .int .i64 y, .int .i64 z], .bool false] w (Yes w) := by
  have D := Lib.hid (div_any (x : Int) (y : Int) (z : Int) false (by omega) (by omega) (by omega))
  have r := divRes_nat (x := x) (y := y) (c := z) (up := false) hz (by rw [hn]; exact hn')
  rw [hn] at r
  rw [r.1, r.2] at D
  have e1 := u64_of x hx
  have e2 := u64_of y hy
  have e3 := u64_of z hz'
  have p1 := prod_small hx hy
  have T1 := Lib.hid (times_any x y (by omega) (by omega))
  have O1 := Lib.hid (of_zero z (by omega))
  have z0 : ((z : Int) == 0) = false := by simp; omega
  have e4 := u64_of n hn'
  have n0 : ¬ (n : Int) < 0 := by omega
  have T2 := Lib.hid (times_any n z (by omega) (by omega))
  have p2 := prod_small hn' hz'
  have g : n * z ≤ x * y ∧ x * y < n * z + z := by rw [← hn]; exact quot_down_le hz
  clear hn r
  generalize x * y = N at *
  generalize n * z = M at *
  have BM := Lib.hid (big_mod (n := M + z) (by omega))
  have t1 : decide (N < M) = false := by simp; omega
  have t2 : decide (N < M + z) = true := by simp; omega
  clear p1 p2 g
  go_enter Try.func3, Try.ntmps3
  go_wp2_with fail
  refine (D.out _).mono ?_
  rintro e w1 ⟨rfl, b1⟩
  have k1 := bcell b1
  have s1 := b1.size
  simp only [World.size_alloc] at s1
  have l1 : w.heap.size < w1.heap.size := by omega
  go_wp2_with fail
  refine (T1.out _).mono ?_
  rintro e w2 ⟨v1, rfl, n1, b2⟩
  have k2 := bcell b2
  have s2 := b2.size
  have l2 : w.heap.size < w2.heap.size := by omega
  go_wp2_with fail
  refine (O1.out _).mono ?_
  rintro e w3 ⟨v2, rfl, n2, b3⟩
  have k3 := bcell b3
  go_wp2_with fail
  refine (T2.out _).mono ?_
  rintro e w4 ⟨v3, rfl, n3, b4⟩
  have n1' := (n1.below b3).below b4
  have n2' := n2.below b4
  have bb := Lib.hid (bel_end (bel_end (bel_end (bel_end (bel_alloc (Below.refl _ w)) b1) b2) b3) b4)
  clear k1 k2 k3 s1 s2 l1 l2 b1 b2 b3 b4 n1 n2
  go_wp2_with fail
  refine (under_any v1 v3 N M _ n1' n3).mono ?_
  rw [t1]
  rintro e w5 ⟨rfl, k, rfl⟩
  go_wp2_with fail
  refine (plus_any v3 v2 M z _ (n3.below (below_drewN k)) (n2'.below (below_drewN k))).mono ?_
  rintro e w6 ⟨v6, rfl, n6, b6⟩
  rw [BM.out] at n6
  go_wp2_with fail
  refine (under_any v1 v6 N (M + z) _ ((n1'.below (below_drewN k)).below b6) n6).mono ?_
  rw [t2]
  rintro e w7 ⟨rfl, k7, rfl⟩
  go_wp2_with (go_at_call 12; refine (awake_yes _).mono ?_; rintro e w' ⟨rfl, hb⟩)
  go_ret
  exact ⟨rfl, bel_end (bel_end (bel_end (bel_end bb.out (below_drewN k)) b6) (below_drewN k7)) hb⟩

theorem walk (a b c : Int) (up : Bool) (wa : (Lit.int .i64 a).wf = true) (wb : (Lit.int .i64 b).wf = true) (wc : (Lit.int .i64 c).wf = true) (w : World) : Calls Try.prog 3 #[.agg #[.int .i64 a, .int .i64 b, .int .i64 c], .bool up] w (Yes w) := by
  have ha' := (bounds_i64 wa).2
  have hb' := (bounds_i64 wb).2
  have hc' := (bounds_i64 wc).2
  by_cases h : a < 0 ∨ b < 0 ∨ c < 0
  · exact walk_range a b c up ha' hb' hc' h w
  · obtain ⟨x, rfl⟩ := Int.eq_ofNat_of_zero_le (show 0 ≤ a by omega)
    obtain ⟨y, rfl⟩ := Int.eq_ofNat_of_zero_le (show 0 ≤ b by omega)
    obtain ⟨z, rfl⟩ := Int.eq_ofNat_of_zero_le (show 0 ≤ c by omega)
    by_cases h0 : z = 0
    · subst h0
      exact walk_zero (x : Int) (y : Int) up ha' hb' (by omega) (by omega) w
    · rcases Nat.lt_or_ge 9223372036854775807 (quot up (x * y) z) with h2 | h2
      · cases up with
        | true => exact over_true x y z (by omega) (by omega) (by omega) (by omega) h2 w
        | false => exact over_false x y z (by omega) (by omega) (by omega) (by omega) h2 w
      · cases up with
        | true => exact fits_true x y z (by omega) (by omega) (by omega) (by omega) _ rfl h2 w
        | false => exact fits_false x y z (by omega) (by omega) (by omega) (by omega) _ rfl h2 w

set_option maxRecDepth 100000 in
theorem lifted (os : Os) (started : os.Started) (H : Type) (enc : TypeId × Value → H) :
    ReturnsInHanded {} Try.checked os 3 .any (Rows.numDivsSpec.pre6 enc Try.prog Try.f3 Rows.numDivsRow.domain false) (Rows.numDivsSpec.post enc Try.prog Try.f3 false true false false) := by
  refine returnsInHanded_of_change (C := Try.checked) own started (by kernel_rfl) Try.func3
    (ChangeSpec.witness6 (enc := enc) (C := Try.checked) false ⟨#[], #[.agg #[.int .i64 0, .int .i64 0, .int .i64 0], .bool false], []⟩ 8 (by kernel_rfl) (by kernel_rfl) (by kernel_rfl) (by kernel_rfl)) ?_
  intro W base args ds gs before hval0 hW hcnd _
  have hval : ∀ (j : Nat) t v, Try.f3.params[j]? = some t → args[j]? = some v → Value.okWide Try.prog W .any base t v := hval0
  have hW' := hW
  obtain ⟨p, q, hA0, hV, _, hfz, hnd⟩ := hW'
  have hA : DataW.TrodAll enc Try.prog W 0 (fun _ => true) true Try.f3.params.toList args.toList ds p := hA0
  rw [Try.params3] at hA hval
  obtain ⟨v0, v1, d0, d1, p0, p1, rfl, _, _, h0, h1⟩ := trodAll_two hA
  obtain ⟨a, b, c, rfl, wa, wb, wc⟩ := open_arr3 Try.underlying22 Try.underlying3 (by kernel_rfl) (by kernel_rfl) (hval 0 22 v0 rfl rfl) h0
  obtain ⟨up, rfl, _, _⟩ := open_bool Try.underlying4 (hval 1 4 v1 rfl rfl) h1
  refine (walk a b c up wa wb wc W).mono fun e W' h => ?_
  exact law_post (f := Try.f3) rfl rfl Try.underlying4 (by kernel_rfl) (fun ds hd => by
    match ds, hd with
    | [_, _], _ => rfl) hW h

theorem over : Rows.numDivsRow.holds Try.pinned (OpenSpec.ofChange Rows.numDivsSpec) :=
  OpenClaim.holds_of_wide 3 Try.f3 rfl rfl rfl rfl rfl rfl rfl ⟨rfl, rfl, rfl, rfl, rfl⟩ rfl rfl rfl rfl rfl (by kernel_rfl) Try.func3 (by kernel_rfl)
    (of_decide_eq_true (by kernel_rfl)) (by unfold Func.isWrapper; first | (rw [if_pos (by decide +kernel)]; kernel_rfl) | (rw [if_neg (by decide +kernel)]; exact ⟨rfl, rfl⟩))
    (fun os started H enc _ => lifted os started H enc)

/-- THE STATEMENT. -/
theorem proved : Rows.NumDivsSaid := over
end Go.Proofs.Ytgdgfcogmfhpcaa.numDivs
