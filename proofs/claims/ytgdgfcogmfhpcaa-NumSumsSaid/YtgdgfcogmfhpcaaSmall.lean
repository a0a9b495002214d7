/- What the reference's Small and Half, and same of metronomelaw01, answer of numbers. Each theorem's premises are its conditions. -/
import Derived.Test.YtgdgfcogmfhpcaaDig4
import Derived.Test.YtgdgfcogmfhpcaaDig3
import Derived.Test.YtgdgfcogmfhpcaaNumDiv
namespace Go.Proofs.Ytgdgfcogmfhpcaa
open Go.RowKit

/-! ### same: a wide number and digits -/
set_option maxHeartbeats 1000000 in
theorem same_any (h l : Nat) (hh : h < 18446744073709551616) (hl : l < 18446744073709551616) (v : Value) (M : Nat) (w : World) (hv : IsNum w v M) :
    Calls Try.prog 25 #[.agg #[.int .u64 h, .int .u64 l], v] w (Gives (.bool (decide (h * 18446744073709551616 + l = M))) w) := by
  have O := Lib.hid (of_any h l hh hl)
  have V := Lib.hid hv
  clear hh hl hv
  obtain ⟨A, hA⟩ : ∃ A, h * 18446744073709551616 + l = A := ⟨_, rfl⟩
  rw [hA] at O ⊢
  clear hA
  obtain ⟨r, hr⟩ : ∃ r, decide (A = M) = r := ⟨_, rfl⟩
  rw [hr]
  have HR := Lib.hid hr
  clear hr
  go_enter Try.func25, Try.ntmps25
  go_wp2_with fail
  refine (O.out _).mono ?_
  rintro e w1 ⟨v1, rfl, n1, b1⟩
  have n0 := (V.out.below (bel_alloc (Below.refl _ w))).below b1
  have bb := Lib.hid (bel_end (bel_alloc (Below.refl _ w)) b1)
  have N1 := Lib.hid n1
  have N0 := Lib.hid n0
  clear n1 n0 b1
  go_wp2_with fail
  refine (under_any v1 v A M _ N1.out N0.out).mono ?_
  rintro e w2 ⟨rfl, k, rfl⟩
  by_cases h1 : A < M
  · have d1 : decide (A < M) = true := by simp; exact h1
    have d2 : Hid (false = r) := by show _ = _; rw [← HR.out]; symm; simp; omega
    rw [d1]
    clear d1 h1
    go_wp2_with fail
    go_ret
    exact ⟨ret1 (congrArg Value.bool d2.out), bel_end bb.out (below_drewN k)⟩
  · have d1 : decide (A < M) = false := by simp; omega
    rw [d1]
    clear d1
    go_wp2_with fail
    refine (under_any v v1 M A _ (N0.out.below (below_drewN k)) (N1.out.below (below_drewN k))).mono ?_
    by_cases h2 : M < A
    · have e1 : decide (M < A) = true := by simp; exact h2
      have d2 : Hid (false = r) := by show _ = _; rw [← HR.out]; symm; simp; omega
      rw [e1]
      clear e1 h1 h2
      rintro e w3 ⟨rfl, k2, rfl⟩
      go_wp2_with fail
      go_ret
      exact ⟨ret1 (congrArg Value.bool d2.out), bel_end bb.out (below_drewN _)⟩
    · have e1 : decide (M < A) = false := by simp; omega
      have d2 : Hid (true = r) := by show _ = _; rw [← HR.out]; symm; simp; omega
      rw [e1]
      clear e1 h1 h2
      rintro e w3 ⟨rfl, k2, rfl⟩
      go_wp2_with fail
      go_ret
      exact ⟨ret1 (congrArg Value.bool d2.out), bel_end bb.out (below_drewN _)⟩

/-! ### Small: no more than eight digits -/
def SmallRel (f : Nat → Nat) (w : World) (i : Value) (wr : World) : Prop := ∃ k : Nat, 8 ≤ k ∧ k ≤ 12 ∧ i = .int .i64 k ∧ (∀ j, 8 ≤ j → j < k → f j = 0) ∧ ∃ n, wr = w.drewN n
theorem V_8 {f : Nat → Nat} (h : ∀ j, 8 ≤ j → j < 12 → f j = 0) (hf : ∀ i, i < 12 → f i < 65536) : Dig.V f 12 < 18446744073709551616 * 18446744073709551616 := by
  rw [Dig.V_more 12 (by omega) h]
  have := Dig.V_lt (f := f) (k := 8) (fun i hi => hf i (by omega))
  exact this
theorem V_8_ge {f : Nat → Nat} {j : Nat} (h0 : 8 ≤ j) (h1 : j < 12) (h : f j ≠ 0) : 18446744073709551616 * 18446744073709551616 ≤ Dig.V f 12 := by
  rw [show (12 : Nat) = 8 + 4 from rfl, Dig.V_shift]
  have h2 : 1 ≤ Dig.V (fun i => f (8 + i)) 4 := by
    obtain ⟨i, rfl⟩ : ∃ i, j = 8 + i := ⟨j - 8, by omega⟩
    have h3 : i = 0 ∨ i = 1 ∨ i = 2 ∨ i = 3 := by omega
    simp only [Dig.V]
    rcases h3 with rfl | rfl | rfl | rfl <;> omega
  have h3 : 1 * 65536 ^ 8 ≤ Dig.V (fun i => f (8 + i)) 4 * 65536 ^ 8 := Nat.mul_le_mul_right _ h2
  have h4 : 1 * 65536 ^ 8 = 18446744073709551616 * 18446744073709551616 := by decide
  rw [← h4]
  exact Nat.le_trans h3 (Nat.le_add_left _ _)

set_option maxHeartbeats 800000 in
theorem small_any (v : Value) (M : Nat) (w : World) (hv : IsNum w v M) :
    Calls Try.prog 28 #[v, .int .i64 8] w (Draws (.bool (decide (M < 18446744073709551616 * 18446744073709551616))) w) := by
  obtain ⟨f, ⟨b1, c1, rfl, _, hc1⟩, hf, hA⟩ := hv
  obtain ⟨r, hr⟩ : ∃ r, decide (M < 18446744073709551616 * 18446744073709551616) = r := ⟨_, rfl⟩
  rw [hr]
  subst hA
  have HR := Lib.hid hr
  have HC := Lib.hid hc1
  have HF := Lib.hid hf
  clear hr hc1 hf
  go_enter Try.func28, Try.ntmps28
  go_wp2
  go_loopw [5] (fun i wr => SmallRel f w i wr) (fun i _ => 12 - (intOf i).toNat)
  case atStart => exact ⟨8, by omega, by omega, rfl, fun j h1 h2 => by omega, 0, rfl⟩
  case round =>
    obtain ⟨k, h8, hk, rfl, he, n, rfl⟩ := hrel
    have HE := Lib.hid he
    clear he
    by_cases hlt : k < 12
    · have x1 : w.cell? ⟨b1, k, none⟩ = some (.int .i64 ((f k : Nat) : Int)) := HC.out k hlt
      have i1 : (k : Int) < 12 := by omega
      have i0 : (0 : Int) ≤ (k : Int) := by omega
      by_cases h0 : f k = 0
      · have t1 : (((f k : Nat) : Int) != 0) = false := by rw [h0]; rfl
        have HE2 : Hid (∀ j, 8 ≤ j → j < k + 1 → f j = 0) := fun j h1 h2 => by
          by_cases e : j = k
          · subst e; exact h0
          · exact HE.out j h1 (by omega)
        clear h0
        generalize f k = x at *
        go_wp2
        exact ⟨⟨k + 1, by omega, by omega, by go_num, HE2.out, _, rfl⟩, by simp [intOf]; omega⟩
      · have t1 : (((f k : Nat) : Int) != 0) = true := by simp; omega
        have d2 : Hid (false = r) := by show _ = _; rw [← HR.out]; symm; exact decide_eq_false (Nat.not_lt.2 (V_8_ge h8 hlt h0))
        clear h0
        generalize f k = x at *
        go_wp2
        go_ret
        exact ⟨ret1 (congrArg Value.bool d2.out), _, rfl⟩
    · obtain rfl : k = 12 := by omega
      have d2 : Hid (true = r) := by show _ = _; rw [← HR.out]; symm; exact decide_eq_true (V_8 (fun j h1 h2 => HE.out j h1 h2) HF.out)
      go_wp2
      go_ret
      exact ⟨ret1 (congrArg Value.bool d2.out), _, rfl⟩
end Go.Proofs.Ytgdgfcogmfhpcaa
