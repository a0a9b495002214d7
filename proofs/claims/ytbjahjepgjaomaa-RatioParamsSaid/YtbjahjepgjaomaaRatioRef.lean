/- What the reference of layer 2 answers: Over, Wrong, Is; and told of the statements. Each theorem's premises are its conditions. -/
import Derived.Test.YtbjahjepgjaomaaRatioOps
import Derived.Test.YtbjahjepgjaomaaQuotLaws
import Derived.Test.YtbjahjepgjaomaaDig3
namespace Go.Proofs.Ytbjahjepgjaomaa
open Go.RowKit

theorem of_zero (low : Nat) (hl : low < 18446744073709551616) (w : World) : Calls Try.prog 33 #[.int .u64 0, .int .u64 low] w (GivesNum low w) := by
  have := of_any 0 low (by omega) hl w
  rw [Nat.zero_mul, Nat.zero_add] at this
  exact this
theorem times_max (z : Nat) (hz : z < 18446744073709551616) (w : World) : Calls Try.prog 32 #[.int .u64 9223372036854775807, .int .u64 z] w (GivesNum (9223372036854775807 * z) w) :=
  times_any 9223372036854775807 z (by omega) hz w
theorem big_mod {n : Nat} (h : n < 680564733841876926926749214863536422912) : n % 65536 ^ 12 = n := by
  apply Nat.mod_eq_of_lt
  have e2 : (65536 : Nat) ^ 12 = 6277101735386680763835789423207666416102355444464034512896 := by decide
  rw [e2]; omega
theorem prod_small {x y : Nat} (hx : x ≤ 9223372036854775807) (hy : y ≤ 9223372036854775807) : x * y ≤ 85070591730234615847396907784232501249 := Nat.mul_le_mul hx hy
theorem u64_of (x : Nat) (h : x ≤ 9223372036854775807) : IntKind.u64.wrap (x : Int) = (x : Int) := by rw [IntKind.wrap_u64]; omega
def arr3Box (x y z : Int) : Obj := .cells #[.int .i64 x, .int .i64 y, .int .i64 z] 27

set_option maxHeartbeats 1000000 in
theorem over_any (x y z : Nat) (hx : x ≤ 9223372036854775807) (hy : y ≤ 9223372036854775807) (hz : 1 ≤ z) (hz' : z ≤ 9223372036854775807) (up : Bool) (w : World) :
    Calls Try.prog 31 #[.agg #[.int .i64 x, .int .i64 y, .int .i64 z], .bool up] w (Gives (.bool (decide (9223372036854775807 < quot up (x * y) z))) w) := by
  have e1 := u64_of x hx
  have e2 := u64_of y hy
  have e3 := u64_of z hz'
  have p1 := prod_small hx hy
  have p2 := prod_small (show 9223372036854775807 ≤ 9223372036854775807 by omega) hz'
  have T1 := Lib.hid (times_any x y (by omega) (by omega))
  have O1 := Lib.hid (of_zero z (by omega))
  have T2 := Lib.hid (times_max z (by omega))
  have BM := Lib.hid (big_mod (n := 9223372036854775807 * z + z) (by omega))
  have G1 := Lib.hid (quot_up_gt (n := x * y) (c := z) (k := 9223372036854775807) hz)
  have G2 := Lib.hid (quot_down_gt (n := x * y) (c := z) (k := 9223372036854775807) hz)
  generalize x * y = N at *
  generalize 9223372036854775807 * z = M at *
  have D1 : Hid (decide (9223372036854775807 < quot true N z) = decide (M < N)) := decide_eq_decide.2 G1.out
  have D2 : Hid (decide (9223372036854775807 < quot false N z) = !decide (N < M + z)) := by
    show _ = _
    rw [← decide_not]
    exact decide_eq_decide.2 (G2.out.trans Nat.not_lt.symm)
  clear p1 p2 G1 G2
  go_enter Try.func31, Try.ntmps31
  go_wp2_with fail
  refine (T1.out _).mono ?_
  rintro e w1 ⟨v1, rfl, n1, b1⟩
  have k1 := bcell b1
  have s1 := b1.size
  simp only [World.size_alloc] at s1
  have l1 : w.heap.size < w1.heap.size := by omega
  go_wp2_with fail
  refine (O1.out _).mono ?_
  rintro e w2 ⟨v2, rfl, n2, b2⟩
  have k2 := bcell b2
  go_wp2_with fail
  refine (T2.out _).mono ?_
  rintro e w3 ⟨v3, rfl, n3, b3⟩
  have n1' := (n1.below b2).below b3
  have n2' := n2.below b3
  have bb := Lib.hid (bel_end (bel_end (bel_end (bel_alloc (Below.refl _ w)) b1) b2) b3)
  clear k1 k2 s1 l1 b1 b2 b3 n1 n2
  cases up with
  | true =>
    go_wp2_with fail
    refine (under_any v3 v1 M N _ n3 n1').mono ?_
    rintro e w4 ⟨rfl, k, rfl⟩
    go_wp2_with fail
    go_ret
    exact ⟨ret1 (by rw [D1.out]; rfl), bb.out.trans ⟨rfl, rfl, rfl, Nat.le_refl _, fun _ _ => rfl⟩⟩
  | false =>
    go_wp2_with fail
    refine (plus_any v3 v2 M z _ n3 n2').mono ?_
    rintro e w4 ⟨v4, rfl, n4, b4⟩
    rw [BM.out] at n4
    go_wp2_with fail
    refine (under_any v1 v4 N (M + z) _ (n1'.below b4) n4).mono ?_
    rintro e w5 ⟨rfl, k, rfl⟩
    go_wp2_with fail
    go_ret
    exact ⟨ret1 (by rw [D2.out]; rfl), (bel_end bb.out b4).trans ⟨rfl, rfl, rfl, Nat.le_refl _, fun _ _ => rfl⟩⟩


set_option maxHeartbeats 1000000 in
theorem is_yes (x y z n : Nat) (hx : x ≤ 9223372036854775807) (hy : y ≤ 9223372036854775807) (hz : 1 ≤ z) (hz' : z ≤ 9223372036854775807) (up : Bool) (hn : quot up (x * y) z = n) (hn' : n ≤ 9223372036854775807) (w : World) :
    Calls Try.prog 24 #[.int .i64 n, .agg #[.int .i64 x, .int .i64 y, .int .i64 z], .bool up] w (Gives (.bool true) w) := by
  have e1 := u64_of x hx
  have e2 := u64_of y hy
  have e3 := u64_of z hz'
  have e4 := u64_of n hn'
  have p1 := prod_small hx hy
  have p2 := prod_small hn' hz'
  have T1 := Lib.hid (times_any x y (by omega) (by omega))
  have O1 := Lib.hid (of_zero z (by omega))
  have T2 := Lib.hid (times_any n z (by omega) (by omega))
  have i0 : ¬ (n : Int) < 0 := by omega
  have Q : Hid ((up = true → x * y ≤ n * z ∧ n * z < x * y + z) ∧ (up = false → n * z ≤ x * y ∧ x * y < n * z + z)) := by
    constructor
    · rintro rfl; rw [← hn]; exact quot_up_le hz
    · rintro rfl; rw [← hn]; exact quot_down_le hz
  clear hn
  generalize x * y = N at *
  generalize n * z = M at *
  have BM := Lib.hid (big_mod (n := M + z) (by omega))
  have BN := Lib.hid (big_mod (n := N + z) (by omega))
  clear p1 p2
  go_enter Try.func24, Try.ntmps24
  go_wp2_with fail
  refine (T1.out _).mono ?_
  rintro e w1 ⟨v1, rfl, n1, b1⟩
  have k1 := bcell b1
  have s1 := b1.size
  simp only [World.size_alloc] at s1
  have l1 : w.heap.size < w1.heap.size := by omega
  go_wp2_with fail
  refine (O1.out _).mono ?_
  rintro e w2 ⟨v2, rfl, n2, b2⟩
  have k2 := bcell b2
  go_wp2_with fail
  refine (T2.out _).mono ?_
  rintro e w3 ⟨v3, rfl, n3, b3⟩
  have n1' := (n1.below b2).below b3
  have n2' := n2.below b3
  have bb := Lib.hid (bel_end (bel_end (bel_end (bel_alloc (Below.refl _ w)) b1) b2) b3)
  clear k1 k2 s1 l1 b1 b2 b3 n1 n2
  cases up with
  | true =>
    obtain ⟨q1, q2⟩ := Q.out.1 rfl
    have t1 : decide (M < N) = false := by simp; omega
    have t2 : decide (M < N + z) = true := by simp; omega
    go_wp2_with fail
    refine (under_any v3 v1 M N _ n3 n1').mono ?_
    rw [t1]
    rintro e w4 ⟨rfl, k, rfl⟩
    go_wp2_with fail
    refine (plus_any v1 v2 N z _ (n1'.below (below_drewN k)) (n2'.below (below_drewN k))).mono ?_
    rintro e w5 ⟨v5, rfl, n5, b5⟩
    rw [BN.out] at n5
    go_wp2_with fail
    refine (under_any v3 v5 M (N + z) _ ((n3.below (below_drewN k)).below b5) n5).mono ?_
    rw [t2]
    rintro e w6 ⟨rfl, k6, rfl⟩
    go_wp2_with fail
    go_ret
    exact ⟨rfl, bel_end (bel_end (bel_end bb.out (below_drewN k)) b5) (below_drewN k6)⟩
  | false =>
    obtain ⟨q1, q2⟩ := Q.out.2 rfl
    have t1 : decide (N < M) = false := by simp; omega
    have t2 : decide (N < M + z) = true := by simp; omega
    go_wp2_with fail
    refine (under_any v1 v3 N M _ n1' n3).mono ?_
    rw [t1]
    rintro e w4 ⟨rfl, k, rfl⟩
    go_wp2_with fail
    refine (plus_any v3 v2 M z _ (n3.below (below_drewN k)) (n2'.below (below_drewN k))).mono ?_
    rintro e w5 ⟨v5, rfl, n5, b5⟩
    rw [BM.out] at n5
    go_wp2_with fail
    refine (under_any v1 v5 N (M + z) _ ((n1'.below (below_drewN k)).below b5) n5).mono ?_
    rw [t2]
    rintro e w6 ⟨rfl, k6, rfl⟩
    go_wp2_with fail
    go_ret
    exact ⟨rfl, bel_end (bel_end (bel_end bb.out (below_drewN k)) b5) (below_drewN k6)⟩

set_option maxHeartbeats 1000000 in
theorem wrong_any (a b c : Int) (ha : a ≤ 9223372036854775807) (hb : b ≤ 9223372036854775807) (hc : c ≤ 9223372036854775807) (up : Bool) (w : World) :
    Calls Try.prog 23 #[.agg #[.int .i64 a, .int .i64 b, .int .i64 c], .bool up] w (Gives (.int .i64 (divErr a b c up)) w) := by
  by_cases h : a < 0 ∨ b < 0 ∨ c < 0
  · rw [(divRes_range h).2]
    by_cases h1 : a < 0
    · clear h
      go_enter Try.func23, Try.ntmps23
      go_wp2
      go_ret
      exact ⟨rfl, bel_alloc (Below.refl _ _)⟩
    · have h1' : 0 ≤ a := by omega
      by_cases h2 : b < 0
      · clear h h1
        go_enter Try.func23, Try.ntmps23
        go_wp2
        go_ret
        exact ⟨rfl, bel_alloc (Below.refl _ _)⟩
      · have h2' : 0 ≤ b := by omega
        have h3 : c < 0 := by omega
        clear h h1 h2
        go_enter Try.func23, Try.ntmps23
        go_wp2
        go_ret
        exact ⟨rfl, bel_alloc (Below.refl _ _)⟩
  · obtain ⟨x, rfl⟩ := Int.eq_ofNat_of_zero_le (show 0 ≤ a by omega)
    obtain ⟨y, rfl⟩ := Int.eq_ofNat_of_zero_le (show 0 ≤ b by omega)
    obtain ⟨z, rfl⟩ := Int.eq_ofNat_of_zero_le (show 0 ≤ c by omega)
    clear h
    by_cases h0 : z = 0
    · subst h0
      have e := (divRes_zero (a := (x : Int)) (b := (y : Int)) (up := up) (by omega) (by omega)).2
      rw [show (((0 : Nat) : Int)) = 0 from rfl, e]
      clear e
      go_enter Try.func23, Try.ntmps23
      go_wp2
      go_ret
      exact ⟨rfl, bel_alloc (Below.refl _ _)⟩
    · have O := Lib.hid (over_any x y z (by omega) (by omega) (by omega) (by omega) up)
      have h1 : ((z : Int) == 0) = false := by simp; omega
      rcases Nat.lt_or_ge 9223372036854775807 (quot up (x * y) z) with h2 | h2
      · have e := (divRes_over (a := (x : Int)) (b := (y : Int)) (c := (z : Int)) (up := up) (by omega) (by omega) (by omega) (by simpa using h2)).2
        rw [e]
        rw [show decide (9223372036854775807 < quot up (x * y) z) = true by simpa using h2] at O
        clear e h2 h0
        go_enter Try.func23, Try.ntmps23
        go_wp2_with (go_at_call 31; refine (O.out _).mono ?_; rintro e w' ⟨rfl, hb⟩)
        go_ret
        exact ⟨rfl, bel_end (bel_alloc (Below.refl _ _)) hb⟩
      · have e := (divRes_ok (a := (x : Int)) (b := (y : Int)) (c := (z : Int)) (up := up) (by omega) (by omega) (by omega) (by simpa using h2)).2
        rw [e]
        rw [show decide (9223372036854775807 < quot up (x * y) z) = false by simpa using h2] at O
        clear e h2 h0
        go_enter Try.func23, Try.ntmps23
        go_wp2_with (go_at_call 31; refine (O.out _).mono ?_; rintro e w' ⟨rfl, hb⟩)
        go_ret
        exact ⟨rfl, bel_end (bel_alloc (Below.refl _ _)) hb⟩

set_option maxHeartbeats 1000000 in
theorem told_yes (a b c : Int) (ha : a ≤ 9223372036854775807) (hb : b ≤ 9223372036854775807) (hc : c ≤ 9223372036854775807) (up : Bool) (n x : Int) (hn : Hid (n = divNum a b c up)) (hx : Hid (x = divErr a b c up)) (w : World) :
    Calls Try.prog 13 #[.int .i64 n, .int .i64 x, .agg #[.int .i64 a, .int .i64 b, .int .i64 c], .bool up] w (Yes w) := by
  have W := Lib.hid (wrong_any a b c ha hb hc up)
  rw [← hx.out] at W
  by_cases h : divErr a b c up = 0
  · have hnn : 0 ≤ a ∧ 0 ≤ b ∧ 1 ≤ c ∧ quot up (a.toNat * b.toNat) c.toNat ≤ 9223372036854775807 := by
      unfold divErr at h
      by_cases h1 : a < 0 ∨ b < 0 ∨ c < 0
      · rw [if_pos h1] at h; omega
      · rw [if_neg h1] at h
        by_cases h2 : c = 0
        · rw [if_pos h2] at h; omega
        · rw [if_neg h2] at h
          by_cases h3 : 9223372036854775807 < quot up (a.toNat * b.toNat) c.toNat
          · rw [if_pos h3] at h; omega
          · omega
    obtain ⟨g1, g2, g3, g4⟩ := hnn
    have e1 := (divRes_ok (up := up) g1 g2 g3 g4).1
    obtain ⟨a, rfl⟩ := Int.eq_ofNat_of_zero_le g1
    obtain ⟨b, rfl⟩ := Int.eq_ofNat_of_zero_le g2
    obtain ⟨c, rfl⟩ := Int.eq_ofNat_of_zero_le (show 0 ≤ c by omega)
    simp only [Int.toNat_natCast] at g4 e1
    obtain ⟨m, hm⟩ : ∃ m, quot up (a * b) c = m := ⟨_, rfl⟩
    rw [hm] at e1 g4
    have I := Lib.hid (is_yes a b c m (by omega) (by omega) (by omega) (by omega) up hm g4)
    obtain rfl : n = (m : Int) := hn.out.trans e1
    obtain rfl : x = 0 := hx.out.trans h
    clear h g1 g2 g3 g4 e1 hm hn hx
    go_enter Try.func13, Try.ntmps13
    go_wp2_with fail
    refine (W.out _).mono ?_
    rintro e w1 ⟨rfl, b1⟩
    have k1 := bcell b1
    go_wp2_with fail
    refine (I.out _).mono ?_
    rintro e w2 ⟨rfl, b2⟩
    go_wp2_with fail
    go_ret
    exact ⟨rfl, bel_end (bel_end (bel_alloc (Below.refl _ _)) b1) b2⟩
  · have hn0 : divNum a b c up = 0 := by
      unfold divErr at h
      unfold divNum
      by_cases h1 : a < 0 ∨ b < 0 ∨ c < 0
      · rw [if_pos h1]
      · rw [if_neg h1] at h ⊢
        by_cases h2 : c = 0
        · rw [if_pos h2]
        · rw [if_neg h2] at h ⊢
          by_cases h3 : 9223372036854775807 < quot up (a.toNat * b.toNat) c.toNat
          · rw [if_pos h3]
          · rw [if_neg h3] at h; omega
    obtain rfl : n = 0 := hn.out.trans hn0
    have hx0 : ¬ x = 0 := by rw [hx.out]; exact h
    have t1 : (x == 0) = false := by simp; exact hx0
    have t2 : (x != 0) = true := by simp; exact hx0
    clear h hn0 hn hx hx0
    go_enter Try.func13, Try.ntmps13
    go_wp2_with fail
    refine (W.out _).mono ?_
    rintro e w1 ⟨rfl, b1⟩
    go_wp2_with fail
    go_ret
    exact ⟨rfl, bel_end (bel_alloc (Below.refl _ _)) b1⟩

end Go.Proofs.Ytbjahjepgjaomaa
