/- What num's Less of wide numbers and of products answer. Each theorem's premises are its conditions. -/
import Derived.Test.YtgdgfcogmfhpcaaNumDiv
import Derived.WalkLawsBesides
import Derived.WalkSpells
import Derived.Outline
namespace Go.Proofs.Ytgdgfcogmfhpcaa
open Go.RowKit

set_option maxHeartbeats 800000 in
theorem wide_less (h l k m : Nat) (hl : l < 18446744073709551616) (hm : m < 18446744073709551616) (w : World) :
    Calls Try.prog 27 #[.agg #[.int .u64 h, .int .u64 l], .agg #[.int .u64 k, .int .u64 m]] w fun e w' =>
      e = .returned (.bool (decide (h * 18446744073709551616 + l < k * 18446744073709551616 + m))) ∧ w' = (w.alloc (wideBox h l)).alloc (wideBox k m) := by
  unfold wideBox
  by_cases h1 : h = k
  · subst h1
    have d : decide (h * 18446744073709551616 + l < h * 18446744073709551616 + m) = decide (l < m) := decide_eq_decide.2 (by omega)
    rw [d]
    clear d
    go_enter Try.func27, Try.ntmps27
    go_wp2
    go_ret
    exact ⟨by simp, rfl⟩
  · have d : decide (h * 18446744073709551616 + l < k * 18446744073709551616 + m) = decide (h < k) := decide_eq_decide.2 (by omega)
    rw [d]
    have t : ((h : Int) == (k : Int)) = false := by simp; omega
    clear d h1
    go_enter Try.func27, Try.ntmps27
    go_wp2
    go_ret
    exact ⟨by simp, rfl⟩

set_option maxHeartbeats 1600000 in
theorem less_ok (a b c d : Int) (ha : 0 ≤ a) (hb : 0 ≤ b) (hc : 0 ≤ c) (hd : 0 ≤ d) (ha' : a ≤ 9223372036854775807) (hb' : b ≤ 9223372036854775807) (hc' : c ≤ 9223372036854775807) (hd' : d ≤ 9223372036854775807) (w : World) :
    Calls Try.prog 24 #[.int .i64 a, .int .i64 b, .int .i64 c, .int .i64 d] w (Gives (.tuple #[.bool (decide (a.toNat * b.toNat < c.toNat * d.toNat)), .int .i64 0]) w) := by
  have hmf : ∀ (fn : Fn) (first cap : Array Value) (w : World), (Instr.makeFunc fn first cap).run Try.prog w = .ok (.func fn first cap) w := fun _ _ _ _ => rfl
  have P1 := Lib.hid (product_ok a b ha hb ha' hb')
  have P2 := Lib.hid (product_ok c d hc hd hc' hd')
  have e1 := Nat.div_add_mod' (a.toNat * b.toNat) 18446744073709551616
  have e2 := Nat.div_add_mod' (c.toNat * d.toNat) 18446744073709551616
  have m1 := Nat.mod_lt (a.toNat * b.toNat) (show 0 < 18446744073709551616 by omega)
  have m2 := Nat.mod_lt (c.toNat * d.toNat) (show 0 < 18446744073709551616 by omega)
  generalize a.toNat * b.toNat / 18446744073709551616 = h at *
  generalize a.toNat * b.toNat % 18446744073709551616 = l at *
  generalize c.toNat * d.toNat / 18446744073709551616 = k at *
  generalize c.toNat * d.toNat % 18446744073709551616 = m at *
  have L := Lib.hid (wide_less h l k m m1 m2)
  rw [← e1, ← e2]
  by_cases hx : h = k ∧ l = m
  · obtain ⟨rfl, rfl⟩ := hx
    have D : Hid (decide (h * 18446744073709551616 + l < h * 18446744073709551616 + l) = false) := by show _ = _; simp
    rw [D.out]
    unfold wideBox at *
    clear ha hb hc hd ha' hb' hc' hd' e1 e2
    go_enter Try.func24, Try.ntmps24
    go_wp2_with fail
    refine (P1.out _).mono ?_
    rintro e w1 ⟨rfl, rfl⟩
    go_wp2_with fail
    refine (P2.out _).mono ?_
    rintro e w1 ⟨rfl, rfl⟩
    go_wp2_with fail
    go_ret2
    refine ⟨rfl, ?_⟩
    repeat (with_reducible refine bel_alloc ?_)
    with_reducible exact Below.refl _ _
  · clear e1 e2
    generalize decide (h * 18446744073709551616 + l < k * 18446744073709551616 + m) = z at *
    unfold wideBox at *
    by_cases h1 : h = k
    · have t1 : ((l : Int) == (m : Int)) = false := by simp; omega
      subst h1
      clear hx ha hb hc hd ha' hb' hc' hd'
      go_enter Try.func24, Try.ntmps24
      go_wp2_with fail
      refine (P1.out _).mono ?_
      rintro e w1 ⟨rfl, rfl⟩
      go_wp2_with fail
      refine (P2.out _).mono ?_
      rintro e w1 ⟨rfl, rfl⟩
      go_wp2_with (go_at_call 27; refine (L.out _).mono ?_; rintro e w1 ⟨rfl, rfl⟩)
      go_ret2
      refine ⟨rfl, ?_⟩
      repeat (with_reducible refine bel_alloc ?_)
      with_reducible exact Below.refl _ _
    · have t1 : ((h : Int) == (k : Int)) = false := by simp; omega
      clear h1 hx ha hb hc hd ha' hb' hc' hd'
      go_enter Try.func24, Try.ntmps24
      go_wp2_with fail
      refine (P1.out _).mono ?_
      rintro e w1 ⟨rfl, rfl⟩
      go_wp2_with fail
      refine (P2.out _).mono ?_
      rintro e w1 ⟨rfl, rfl⟩
      go_wp2_with (go_at_call 27; refine (L.out _).mono ?_; rintro e w1 ⟨rfl, rfl⟩)
      go_ret2
      refine ⟨rfl, ?_⟩
      repeat (with_reducible refine bel_alloc ?_)
      with_reducible exact Below.refl _ _

set_option maxHeartbeats 800000 in
theorem less_bad (a b c d : Int) (ha' : a ≤ 9223372036854775807) (hb' : b ≤ 9223372036854775807) (hc' : c ≤ 9223372036854775807) (hd' : d ≤ 9223372036854775807) (h : a < 0 ∨ b < 0 ∨ c < 0 ∨ d < 0) (w : World) :
    Calls Try.prog 24 #[.int .i64 a, .int .i64 b, .int .i64 c, .int .i64 d] w (Gives (.tuple #[.bool false, .int .i64 10]) w) := by
  by_cases h1 : a < 0 ∨ b < 0
  · have P1 := Lib.hid (product_bad a b h1)
    by_cases h2 : c < 0 ∨ d < 0
    · have P2 := Lib.hid (product_bad c d h2)
      unfold wideBox at *
      clear h h1 h2
      go_enter Try.func24, Try.ntmps24
      go_wp2_with fail
      refine (P1.out _).mono ?_
      rintro e w1 ⟨rfl, rfl⟩
      go_wp2_with fail
      refine (P2.out _).mono ?_
      rintro e w1 ⟨rfl, rfl⟩
      go_wp2_with fail
      go_ret2
      refine ⟨rfl, ?_⟩
      repeat (with_reducible refine bel_alloc ?_)
      with_reducible exact Below.refl _ _
    · have P2 := Lib.hid (product_ok c d (by omega) (by omega) hc' hd')
      generalize c.toNat * d.toNat / 18446744073709551616 = k at *
      generalize c.toNat * d.toNat % 18446744073709551616 = m at *
      unfold wideBox at *
      clear h h1 h2
      go_enter Try.func24, Try.ntmps24
      go_wp2_with fail
      refine (P1.out _).mono ?_
      rintro e w1 ⟨rfl, rfl⟩
      go_wp2_with fail
      refine (P2.out _).mono ?_
      rintro e w1 ⟨rfl, rfl⟩
      go_wp2_with fail
      go_ret2
      refine ⟨rfl, ?_⟩
      repeat (with_reducible refine bel_alloc ?_)
      with_reducible exact Below.refl _ _
  · have P1 := Lib.hid (product_ok a b (by omega) (by omega) ha' hb')
    have P2 := Lib.hid (product_bad c d (by omega))
    generalize a.toNat * b.toNat / 18446744073709551616 = k at *
    generalize a.toNat * b.toNat % 18446744073709551616 = m at *
    unfold wideBox at *
    clear h h1
    go_enter Try.func24, Try.ntmps24
    go_wp2_with fail
    refine (P1.out _).mono ?_
    rintro e w1 ⟨rfl, rfl⟩
    go_wp2_with fail
    refine (P2.out _).mono ?_
    rintro e w1 ⟨rfl, rfl⟩
    go_wp2_with fail
    go_ret2
    refine ⟨rfl, ?_⟩
    repeat (with_reducible refine bel_alloc ?_)
    with_reducible exact Below.refl _ _

end Go.Proofs.Ytgdgfcogmfhpcaa
