/- What lies in a window is no more above a server's part of it than the excess: plain numbers, no program. Each theorem's premises are its conditions. -/
import Derived.Test.YtfpifaccjfgfkaaTraceLaws
namespace Go.Proofs.Ytfpifaccjfgfkaa

/-- does it lie in the window? -/
def Ins (f t : Int) (c : VC) : Prop := f ≤ c.1.fr ∧ c.1.to ≤ t
/-- what of the first k lies in the window. -/
def pre (f t : Int) (ts : List VC) (k : Nat) : Int := sumOf (fun c => inWin f t c.1) (ts.take k)
theorem pre_succ (f t : Int) (ts : List VC) {k : Nat} (hk : k < ts.length) : pre f t ts (k + 1) = pre f t ts k + inWin f t (ts.getD k default).1 := by
  unfold pre
  rw [List.take_succ_eq_append_getElem hk, sumOf_snoc, get_vd hk]
theorem in_ins {f t : Int} {c : VC} (h : Ins f t c) : inWin f t c.1 = c.1.n := by
  obtain ⟨h1, h2⟩ := h
  unfold inWin
  rw [if_neg (by omega)]
theorem in_not {f t : Int} {c : VC} (h : ¬ Ins f t c) : inWin f t c.1 = 0 := by
  unfold Ins at h
  unfold inWin
  rw [if_pos (by omega)]
theorem mul_le {a x y : Int} (ha : 0 ≤ a) (h : x ≤ y) : a * x ≤ a * y := Int.mul_le_mul_of_nonneg_left h ha
theorem exc_law (q t : Int) (ts : List VC) (hq : 0 ≤ q) (hc : Chain ts) (f e : Int) : ∀ k, k ≤ ts.length →
    (∀ j, k = j + 1 → Ins f e (ts.getD j default) → t * pre f e ts k - q * ((ts.getD j default).1.to - f) ≤ (excAt q t ts k).2) ∧
    ((∃ j, j < k ∧ Ins f e (ts.getD j default)) → t * pre f e ts k - q * (e - f) ≤ (excAt q t ts k).1) ∧
    ((∀ j, j < k → ¬ Ins f e (ts.getD j default)) → pre f e ts k = 0) := by
  intro k
  induction k with
  | zero =>
    intro _
    exact ⟨fun j h => absurd h (by omega), fun ⟨j, h, _⟩ => absurd h (by omega), fun _ => rfl⟩
  | succ k ih =>
    intro hk
    obtain ⟨i1, i2, i3⟩ := ih (by omega)
    have hp := pre_succ f e ts (k := k) (by omega)
    have none : (∀ j, j < k + 1 → ¬ Ins f e (ts.getD j default)) → pre f e ts (k + 1) = 0 := fun h => by
      rw [hp, in_not (h k (by omega)), i3 (fun j hj => h j (by omega))]
      rfl
    by_cases hin : Ins f e (ts.getD k default)
    · have hn := in_ins hin
      obtain ⟨w1, w2⟩ := hin
      have key : t * pre f e ts (k + 1) - q * ((ts.getD k default).1.to - f) ≤ (excAt q t ts (k + 1)).2 := by
        by_cases hany : ∃ j, j < k ∧ Ins f e (ts.getD j default)
        · obtain ⟨j, hj, z1, z2⟩ := hany
          obtain ⟨m, rfl⟩ : ∃ m, k = m + 1 := ⟨k - 1, by omega⟩
          have hm : Ins f e (ts.getD m default) := by
            have := hc m (m + 1) (by omega) (by omega)
            obtain ⟨_, _, _, _, _, _, _, b1, _, _, _⟩ := (ts.getD (m + 1) default).2
            refine ⟨?_, by omega⟩
            by_cases e : j = m
            · rw [← e]; exact z1
            · have := hc j m (by omega) (by omega)
              obtain ⟨_, _, _, _, _, _, _, b2, _, _, _⟩ := (ts.getD j default).2
              omega
          have r := i1 m rfl hm
          rw [hp, hn]
          rw [excAt]
          simp only [Nat.add_one_ne_zero, if_false, Nat.add_sub_cancel]
          unfold ownOf
          generalize (excAt q t ts (m + 1)).2 = R at *
          generalize pre f e ts (m + 1) = S at *
          generalize (ts.getD (m + 1) default).1.to = T1 at *
          generalize (ts.getD (m + 1) default).1.fr = F1 at *
          generalize (ts.getD (m + 1) default).1.n = N1 at *
          generalize (ts.getD m default).1.to = T0 at *
          have e1 : t * (S + N1) = t * S + t * N1 := Int.mul_add _ _ _
          have e2 : q * (T1 - f) = q * (T1 - F1) + q * (F1 - T0) + q * (T0 - f) := by rw [← Int.mul_add, ← Int.mul_add]; congr 1; omega
          rw [e1, e2]
          generalize t * S = x1 at *
          generalize t * N1 = x2 at *
          generalize q * (T1 - F1) = x3 at *
          generalize q * (F1 - T0) = x4 at *
          generalize q * (T0 - f) = x5 at *
          omega
        · have h0 := i3 (fun j hj hq => hany ⟨j, hj, hq⟩)
          rw [hp, hn, h0, Int.zero_add]
          have own : t * (ts.getD k default).1.n - q * ((ts.getD k default).1.to - f) ≤ ownOf q t (ts.getD k default).1 := by
            unfold ownOf
            have := mul_le hq (show (ts.getD k default).1.to - (ts.getD k default).1.fr ≤ (ts.getD k default).1.to - f by omega)
            omega
          refine Int.le_trans own ?_
          rw [excAt]
          by_cases e : k = 0
          · simp only [e, if_true]
            exact Int.le_refl _
          · simp only [e, if_false]
            omega
      have grow : (excAt q t ts (k + 1)).2 ≤ (excAt q t ts (k + 1)).1 := by
        rw [excAt]
        by_cases e : k = 0
        · simp only [e, if_true]
          exact Int.le_refl _
        · simp only [e, if_false]
          omega
      refine ⟨fun j hj hi => ?_, fun _ => ?_, none⟩
      · obtain rfl : j = k := by omega
        exact key
      · have := mul_le hq (show (ts.getD k default).1.to - f ≤ e - f by omega)
        omega
    · have hn := in_not hin
      rw [hn, Int.add_zero] at hp
      refine ⟨fun j hj hi => ?_, fun ⟨j, hj, hi⟩ => ?_, none⟩
      · obtain rfl : j = k := by omega
        exact absurd hi hin
      · have hjk : j < k := by
          by_cases e : j = k
          · rw [e] at hi; exact absurd hi hin
          · omega
        have r := i2 ⟨j, hjk, hi⟩
        rw [hp]
        refine Int.le_trans r ?_
        rw [excAt]
        have e : k ≠ 0 := by omega
        simp only [e, if_false]
        omega
theorem exc_window (q t : Int) (ts : List VC) (hq : 0 ≤ q) (hc : Chain ts) (f e : Int) (h : sumOf (fun c => inWin f e c.1) ts ≠ 0) : t * sumOf (fun c => inWin f e c.1) ts - q * (e - f) ≤ (excAt q t ts ts.length).1 := by
  obtain ⟨_, h2, h3⟩ := exc_law q t ts hq hc f e ts.length (Nat.le_refl _)
  have hp : pre f e ts ts.length = sumOf (fun c => inWin f e c.1) ts := by unfold pre; rw [List.take_length]
  rw [hp] at h2 h3
  by_cases hany : ∃ j, j < ts.length ∧ Ins f e (ts.getD j default)
  · exact h2 hany
  · exact absurd (h3 (fun j hj hi => hany ⟨j, hj, hi⟩)) h
end Go.Proofs.Ytfpifaccjfgfkaa
