/- Plain laws of how much one more server may ask for, and how many of a kind may be taken. Each theorem's premises are its conditions. -/
import Derived.Test.YtoagdaenbanhlaaAdmitLess0
namespace Go.Proofs.Ytoagdaenbanhlaa
open Go.RowKit

/-- would all together not ask for more than the bound, if one more asked for u? -/
def Fits (hard : Bool) (c k S M u : Int) : Prop := S + u ≤ boundOf hard c k (max M u)
instance (hard : Bool) (c k S M u : Int) : Decidable (Fits hard c k S M u) := by unfold Fits; exact inferInstance
theorem room_soft_spec {c k : Int} {S M : Nat} (hs : (S : Int) ≤ c * k) {u : Int} (h1 : u ≤ 1048576) : (Fits false c k S M u ↔ u ≤ roomOf false c k S M) ∧ 0 ≤ roomOf false c k S M ∧ roomOf false c k S M ≤ 1048576 := by
  unfold Fits roomOf
  simp only [Bool.false_eq_true, if_false, boundOf_soft]
  generalize c * k = B at *
  omega
theorem room_hard_spec {c k : Int} {S M : Nat} (hk : 1 ≤ k) (hM : M ≤ 1048576) (hs : (S : Int) ≤ k * 1048576 - (k - 1) * M) {u : Int} (h0 : 0 ≤ u) (h1 : u ≤ 1048576) : (Fits true c k S M u ↔ u ≤ roomOf true c k S M) ∧ 0 ≤ roomOf true c k S M ∧ roomOf true c k S M ≤ 1048576 := by
  unfold Fits roomOf
  simp only [if_true, boundOf_hard]
  have p1 : 0 ≤ (k - 1) * (M : Int) := Int.mul_nonneg (by omega) (by omega)
  have g1 : u ≤ (k * 1048576 - S) / k ↔ u * k ≤ k * 1048576 - S := Int.le_ediv_iff_mul_le (by omega)
  have g2 : 0 ≤ (k * 1048576 - S) / k := Int.ediv_nonneg (by omega) (by omega)
  have e1 : (k - 1) * u = u * k - u := by rw [Int.sub_mul, Int.one_mul, Int.mul_comm]
  have f1 : (M : Int) ≤ u → (k - 1) * (M : Int) ≤ (k - 1) * u := fun h => Int.mul_le_mul_of_nonneg_left h (by omega)
  have gM : (M : Int) ≤ (k * 1048576 - S) / k ↔ (M : Int) * k ≤ k * 1048576 - S := Int.le_ediv_iff_mul_le (by omega)
  have eM : (M : Int) * k = (k - 1) * M + M := by rw [Int.sub_mul, Int.one_mul, Int.mul_comm k]; omega
  have eU : u = (M : Int) → u * k = (k - 1) * M + M := fun h => by rw [h]; exact eM
  rw [eM] at gM
  clear eM
  generalize (k * 1048576 - (S : Int)) / k = G at *
  by_cases hu : (M : Int) ≤ u
  · rw [Int.max_eq_right hu, e1]
    have f2 := f1 hu
    rw [e1] at f2
    clear f1 e1
    generalize (k - 1) * (M : Int) = X at *
    generalize u * k = Y at *
    by_cases hG : (M : Int) < G
    · rw [if_pos hG]; omega
    · rw [if_neg hG]
      by_cases hq : u = (M : Int)
      · have := eU hq
        omega
      · omega
  · rw [Int.max_eq_left (by omega)]
    clear f1 e1 eU g1
    generalize (k - 1) * (M : Int) = X at *
    by_cases hG : (M : Int) < G
    · rw [if_pos hG]
      have := gM.1 (by omega)
      omega
    · rw [if_neg hG]
      omega
theorem room_spec {hard : Bool} {c k : Int} {ps : List P3} (h : testNum hard c k ps = 0) {u : Int} (h0 : 0 ≤ u) (h1 : u ≤ 1048576) :
    (Fits hard c k (asked hard ps).1 (asked hard ps).2 u ↔ u ≤ roomOf hard c k (asked hard ps).1 (asked hard ps).2) ∧ 0 ≤ roomOf hard c k (asked hard ps).1 (asked hard ps).2 ∧ roomOf hard c k (asked hard ps).1 (asked hard ps).2 ≤ 1048576 := by
  obtain ⟨hr, ha, hb⟩ := test_zero_iff.1 h
  have hm := (sumGo2_le hard ps (0, 0) ha (by simp)).2.1
  cases hard with
  | false => rw [boundOf_soft] at hb; exact room_soft_spec hb h1
  | true => rw [boundOf_hard] at hb; exact room_hard_spec hr.2.2.1 hm hb h0 h1
/-- one more server passes just if what it asks for fits. -/
theorem test_one_more {hard : Bool} {c k : Int} {ps : List P3} {p : P3} (h : testNum hard c k ps = 0) (hp : May p) : testNum hard c k (ps ++ [p]) = 0 ↔ Fits hard c k (asked hard ps).1 (asked hard ps).2 (askOf hard p : Nat) := by
  obtain ⟨hr, ha, _⟩ := test_zero_iff.1 h
  rw [test_zero_iff, asked_app, asked_one]
  unfold Fits
  simp only
  have e : ((max (asked hard ps).2 (askOf hard p) : Nat) : Int) = max (((asked hard ps).2 : Nat) : Int) ((askOf hard p : Nat) : Int) := by omega
  rw [e]
  constructor
  · rintro ⟨_, _, h3⟩
    omega
  · intro h3
    refine ⟨hr, allMay_app.2 ⟨ha, by simp [allMay, hp]⟩, ?_⟩
    omega
theorem bound_anti {hard : Bool} {c k m m' : Int} (hk : 1 ≤ k) (h : m ≤ m') : boundOf hard c k m' ≤ boundOf hard c k m := by
  cases hard with
  | false => rw [boundOf_soft, boundOf_soft]; exact Int.le_refl _
  | true =>
    rw [boundOf_hard, boundOf_hard]
    have := Int.mul_le_mul_of_nonneg_left h (show 0 ≤ k - 1 by omega)
    omega
/-- behind one more server there is no more room. -/
theorem room_less {hard : Bool} {c k : Int} {ps : List P3} {p : P3} (h : testNum hard c k ps = 0) (hq : testNum hard c k (ps ++ [p]) = 0) :
    roomOf hard c k (asked hard (ps ++ [p])).1 (asked hard (ps ++ [p])).2 ≤ roomOf hard c k (asked hard ps).1 (asked hard ps).2 := by
  have hr := (test_zero_iff.1 h).1
  obtain ⟨_, b1, b2⟩ := room_spec hq (u := 0) (by omega) (by omega)
  have h1 := (room_spec hq b1 b2).1.2 (Int.le_refl _)
  refine (room_spec h b1 b2).1.1 ?_
  generalize roomOf hard c k (asked hard (ps ++ [p])).1 (asked hard (ps ++ [p])).2 = u at *
  unfold Fits at *
  rw [asked_app, asked_one] at h1
  simp only at h1
  have h2 : boundOf hard c k (max ((max (asked hard ps).2 (askOf hard p) : Nat) : Int) u) ≤ boundOf hard c k (max (((asked hard ps).2 : Nat) : Int) u) := bound_anti hr.2.2.1 (by omega)
  omega
theorem room_soft_exact {c k : Int} {ps : List P3} {p : P3} (hn : roomOf false c k (asked false ps).1 (asked false ps).2 < 1048576) :
    roomOf false c k (asked false (ps ++ [p])).1 (asked false (ps ++ [p])).2 = roomOf false c k (asked false ps).1 (asked false ps).2 - ((askOf false p : Nat) : Int) := by
  rw [asked_app, asked_one]
  unfold roomOf at *
  simp only [Bool.false_eq_true, if_false, boundOf_soft] at *
  generalize c * k = B at *
  generalize askOf false p = q at *
  omega

/-! ### copies -/
/-- from n on, fuel more at most: how many servers like p may be taken besides. -/
def cntFrom (hard : Bool) (c k : Int) (ps : List P3) (p : P3) : Nat → Nat → Nat
  | 0, n => n
  | fuel + 1, n => if testNum hard c k (ps ++ List.replicate (n + 1) p) = 0 then cntFrom hard c k ps p fuel (n + 1) else n
def copiesOf (hard : Bool) (c k : Int) (ps : List P3) (p : P3) : Nat := cntFrom hard c k ps p 64 0
theorem cnt_step {hard : Bool} {c k : Int} {ps : List P3} {p : P3} {n : Nat} (hn : n < 64) (h : testNum hard c k (ps ++ List.replicate (n + 1) p) = 0) : cntFrom hard c k ps p (64 - n) n = cntFrom hard c k ps p (64 - (n + 1)) (n + 1) := by
  rw [show 64 - n = (64 - (n + 1)) + 1 by omega]
  conv => lhs; unfold cntFrom
  rw [if_pos h]
theorem cnt_stop {hard : Bool} {c k : Int} {ps : List P3} {p : P3} {n : Nat} (hn : n < 64) (h : testNum hard c k (ps ++ List.replicate (n + 1) p) ≠ 0) : cntFrom hard c k ps p (64 - n) n = n := by
  rw [show 64 - n = (64 - (n + 1)) + 1 by omega]
  unfold cntFrom
  rw [if_neg h]
theorem cnt_ge (hard : Bool) (c k : Int) (ps : List P3) (p : P3) : ∀ fuel n, n ≤ cntFrom hard c k ps p fuel n ∧ cntFrom hard c k ps p fuel n ≤ n + fuel
  | 0, n => ⟨Nat.le_refl _, Nat.le_refl _⟩
  | fuel + 1, n => by
    unfold cntFrom
    split
    · have := cnt_ge hard c k ps p fuel (n + 1)
      omega
    · omega
theorem copies_pos {hard : Bool} {c k : Int} {ps : List P3} {p : P3} : 0 < copiesOf hard c k ps p ↔ testNum hard c k (ps ++ [p]) = 0 := by
  unfold copiesOf cntFrom
  rw [show List.replicate (0 + 1) p = [p] from rfl]
  constructor
  · intro h
    apply Classical.byContradiction
    intro hn
    rw [if_neg hn] at h
    omega
  · intro h
    rw [if_pos h]
    exact (cnt_ge hard c k ps p 63 1).1
theorem rep_snoc (n : Nat) (p : P3) (ps : List P3) : ps ++ List.replicate n p ++ [p] = ps ++ List.replicate (n + 1) p := by
  rw [List.append_assoc]
  congr 1
  exact (List.replicate_succ' ..).symm
end Go.Proofs.Ytoagdaenbanhlaa
