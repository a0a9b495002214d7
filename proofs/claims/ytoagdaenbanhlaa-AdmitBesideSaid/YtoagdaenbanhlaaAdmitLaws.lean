/- Plain laws of what servers ask for: sums, the greatest, bounds. Each theorem's premises are its conditions. -/
import Derived.Test.YtoagdaenbanhlaaAdmitBox
namespace Go.Proofs.Ytoagdaenbanhlaa
open Go.RowKit

theorem test_zero_iff {hard : Bool} {c k : Int} {ps : List P3} : testNum hard c k ps = 0 ↔ RuleMay c k ∧ allMay ps = true ∧ (((asked hard ps).1 : Nat) : Int) ≤ boundOf hard c k ((asked hard ps).2 : Nat) := by
  constructor
  · intro h
    obtain ⟨hr, ha⟩ := test_zero h
    rw [test_ok hr ha] at h
    refine ⟨hr, ha, ?_⟩
    apply Classical.byContradiction
    intro hn
    rw [if_pos (by omega)] at h
    cases h
  · rintro ⟨hr, ha, hs⟩
    rw [test_ok hr ha, if_neg (by omega)]
theorem test_empty {hard : Bool} {c k : Int} (hr : RuleMay c k) : testNum hard c k [] = 0 := by
  rw [test_zero_iff]
  refine ⟨hr, rfl, ?_⟩
  have := (bound_range hard hr (M := 0) (by omega)).1
  exact this
theorem asked_one (hard : Bool) (p : P3) : asked hard [p] = (askOf hard p, askOf hard p) := by simp [asked, sumGo2]
theorem hard_one {c k : Int} {p : P3} (hr : RuleMay c k) (hp : May p) : testNum true c k [p] = 0 := by
  rw [test_zero_iff, asked_one, boundOf_hard]
  refine ⟨hr, by simp [allMay, hp], ?_⟩
  have hq := askOf_le true hp
  obtain ⟨_, _, h3, h4⟩ := hr
  have p2 : (k - 1) * ((askOf true p : Nat) : Int) ≤ (k - 1) * 1048576 := Int.mul_le_mul_of_nonneg_left (by omega) (by omega)
  simp only
  omega
theorem row_one {w : World} {b : Nat} {p : P3} (h : ParamAt w b 0 p) : ParamRow w (.slice (some ⟨b, 0, none⟩) 1 1) [p] :=
  .inr ⟨b, 0, 1, rfl, cell_lt h.1, by simp, fun j hj => by
    match j, hj with
    | 0, _ => exact h⟩
/-- what two kinds ask for, one by one no less: the sums, and the greatest. -/
theorem go_mono (hard hard' : Bool) : ∀ (l : List P3) (s s' : Nat × Nat), (∀ p ∈ l, askOf hard p ≤ askOf hard' p) → s.1 ≤ s'.1 → s.2 ≤ s'.2 → (sumGo2 hard s l).1 ≤ (sumGo2 hard' s' l).1 ∧ (sumGo2 hard s l).2 ≤ (sumGo2 hard' s' l).2
  | [], _, _, _, h1, h2 => ⟨h1, h2⟩
  | p :: l, s, s', h, h1, h2 => by
    have hp := h p (List.mem_cons_self ..)
    unfold sumGo2
    exact go_mono hard hard' l _ _ (fun q hq => h q (List.mem_cons_of_mem _ hq)) (by simp only; omega) (by simp only; omega)
theorem may_of {ps : List P3} (h : allMay ps = true) : ∀ p ∈ ps, May p := by
  intro p hp
  unfold allMay at h
  rw [List.all_eq_true] at h
  simpa using h p hp
theorem hard_soft {k : Int} {ps : List P3} (hk : 1 ≤ k) (hk' : k ≤ 16) (ht : testNum true 0 k ps = 0) :
    (asked false ps).1 ≤ (asked true ps).1 ∧ (asked true ps).2 ≤ 1048576 ∧ (((asked true ps).1 : Nat) : Int) ≤ k * 1048576 ∧ testNum false 1048576 k ps = 0 := by
  obtain ⟨hr, ha, hs⟩ := test_zero_iff.1 ht
  have h1 := go_mono false true ps (0, 0) (0, 0) (fun p hp => askOf_soft_le (may_of ha p hp)) (Nat.le_refl _) (Nat.le_refl _)
  have h2 := (sumGo2_le true ps (0, 0) ha (by simp)).2.1
  have h3 := (bound_range true hr h2).2.2 rfl
  refine ⟨h1.1, h2, by unfold asked at *; omega, ?_⟩
  rw [test_zero_iff, boundOf_soft]
  refine ⟨⟨by omega, by omega, hk, hk'⟩, ha, ?_⟩
  have h4 := h1.1
  unfold asked at *
  omega
end Go.Proofs.Ytoagdaenbanhlaa
