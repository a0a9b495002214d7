/- Plain laws of what servers ask for: parts, order, one of them less. Each theorem's premises are its conditions. -/
import Derived.Test.YtoagdaenbanhlaaAdmitLaws
import Derived.Test.YtoagdaenbanhlaaParamOwn
namespace Go.Proofs.Ytoagdaenbanhlaa
open Go.RowKit

theorem sumGo2_from (hard : Bool) : ∀ (l : List P3) (s : Nat × Nat), sumGo2 hard s l = (s.1 + (sumGo2 hard (0, 0) l).1, max s.2 (sumGo2 hard (0, 0) l).2)
  | [], s => by simp [sumGo2]
  | p :: l, s => by
    unfold sumGo2
    rw [sumGo2_from hard l (s.1 + askOf hard p, max s.2 (askOf hard p)), sumGo2_from hard l (0 + askOf hard p, max 0 (askOf hard p))]
    simp only [Prod.mk.injEq]
    omega
theorem sumGo2_app (hard : Bool) : ∀ (l m : List P3) (s : Nat × Nat), sumGo2 hard s (l ++ m) = sumGo2 hard (sumGo2 hard s l) m
  | [], _, _ => rfl
  | p :: l, m, s => by rw [List.cons_append, sumGo2, sumGo2]; exact sumGo2_app hard l m _
theorem asked_app (hard : Bool) (l m : List P3) : asked hard (l ++ m) = ((asked hard l).1 + (asked hard m).1, max (asked hard l).2 (asked hard m).2) := by
  unfold asked
  rw [sumGo2_app, sumGo2_from]
theorem asked_cons (hard : Bool) (p : P3) (l : List P3) : asked hard (p :: l) = (askOf hard p + (asked hard l).1, max (askOf hard p) (asked hard l).2) := by
  rw [show p :: l = [p] ++ l from rfl, asked_app, asked_one]
theorem asked_reverse (hard : Bool) : ∀ l : List P3, asked hard l.reverse = asked hard l
  | [] => rfl
  | p :: l => by
    rw [List.reverse_cons, asked_app, asked_reverse hard l, asked_one, asked_cons]
    simp only [Prod.mk.injEq]
    omega
theorem allMay_app {l m : List P3} : allMay (l ++ m) = true ↔ allMay l = true ∧ allMay m = true := by simp [allMay]
theorem allMay_cons {p : P3} {l : List P3} : allMay (p :: l) = true ↔ May p ∧ allMay l = true := by simp [allMay]
theorem allMay_reverse {l : List P3} : allMay l.reverse = allMay l := by simp [allMay]
/-- what passes passes where less is asked for, in all and at most. -/
theorem test_less {hard : Bool} {c k : Int} {ps qs : List P3} (h : testNum hard c k ps = 0) (ha : allMay qs = true) (hs : (asked hard qs).1 ≤ (asked hard ps).1) (hm : (asked hard qs).2 ≤ (asked hard ps).2) : testNum hard c k qs = 0 := by
  obtain ⟨hr, _, hb⟩ := test_zero_iff.1 h
  rw [test_zero_iff]
  refine ⟨hr, ha, ?_⟩
  obtain ⟨_, _, r3, _⟩ := hr
  cases hard with
  | false =>
    rw [boundOf_soft] at hb ⊢
    omega
  | true =>
    rw [boundOf_hard] at hb ⊢
    have p2 : (k - 1) * (((asked true qs).2 : Nat) : Int) ≤ (k - 1) * (((asked true ps).2 : Nat) : Int) := Int.mul_le_mul_of_nonneg_left (by omega) (by omega)
    omega
theorem split_at {ps : List P3} {i : Nat} (hi : i < ps.length) : ps = ps.take i ++ ps.getD i p0 :: ps.drop (i + 1) := by
  rw [← drop_p hi, List.take_append_drop]
theorem test_rest {hard : Bool} {c k : Int} {ps : List P3} {i : Nat} (hi : i < ps.length) (h : testNum hard c k ps = 0) : testNum hard c k (ps.take i ++ ps.drop (i + 1)) = 0 := by
  have ha := (test_zero_iff.1 h).2.1
  have e := split_at hi
  have e2 : asked hard ps = asked hard (ps.take i ++ ps.getD i p0 :: ps.drop (i + 1)) := congrArg _ e
  rw [e, allMay_app, allMay_cons] at ha
  refine test_less h (allMay_app.2 ⟨ha.1, ha.2.2⟩) ?_ ?_
  · rw [e2, asked_app, asked_app, asked_cons]; simp only; omega
  · rw [e2, asked_app, asked_app, asked_cons]; simp only; omega
theorem test_other {hard : Bool} {c k : Int} {ps : List P3} (h : testNum hard c k ps = 0) : testNum hard c k ps.reverse = 0 :=
  test_less h (by rw [allMay_reverse]; exact (test_zero_iff.1 h).2.1) (by rw [asked_reverse]; exact Nat.le_refl _) (by rw [asked_reverse]; exact Nat.le_refl _)
theorem test_more {hard : Bool} {c k : Int} {ps : List P3} (h : testNum hard c k ps = 0) : testNum hard c (min 16 (k + 1)) ps = 0 := by
  obtain ⟨⟨r1, r2, r3, r4⟩, ha, hb⟩ := test_zero_iff.1 h
  have hm := (sumGo2_le hard ps (0, 0) ha (by simp)).2.1
  by_cases hk : k = 16
  · subst hk
    exact h
  · rw [show min (16 : Int) (k + 1) = k + 1 by omega, test_zero_iff]
    refine ⟨⟨r1, r2, by omega, by omega⟩, ha, ?_⟩
    unfold asked at *
    cases hard with
    | false =>
      rw [boundOf_soft] at hb ⊢
      have e : c * (k + 1) = c * k + c := by rw [Int.mul_add, Int.mul_one]
      omega
    | true =>
      rw [boundOf_hard] at hb ⊢
      have e : (k + 1 - 1) * (((sumGo2 true (0, 0) ps).2 : Nat) : Int) = (k - 1) * (((sumGo2 true (0, 0) ps).2 : Nat) : Int) + (((sumGo2 true (0, 0) ps).2 : Nat) : Int) := by
        rw [show k + 1 - 1 = (k - 1) + 1 by omega, Int.add_mul, Int.one_mul]
      omega
theorem askOf_mono {hard : Bool} {q q' d t : Int} (h : q' ≤ q) (hd : 0 < d) (ht : 0 < t) : askOf hard (q', d, t) ≤ askOf hard (q, d, t) := by
  unfold askOf
  cases hard
  · exact quot_mono true (by simp; omega) (Nat.mul_le_mul_right _ (by simp only; omega))
  · exact quot_mono true (by simp; omega) (Nat.mul_le_mul_right _ (by simp only; omega))
theorem test_set {hard : Bool} {c k : Int} {ps : List P3} {i : Nat} {q Q D T : Int} (hi : i < ps.length) (hp : ps.getD i p0 = (Q, D, T)) (h : testNum hard c k ps = 0) (hq : 1 ≤ q) (hq' : q ≤ Q) : testNum hard c k (ps.set i (q, D, T)) = 0 := by
  have ha := (test_zero_iff.1 h).2.1
  have e := split_at hi
  rw [hp] at e
  have e2 : asked hard ps = asked hard (ps.take i ++ (Q, D, T) :: ps.drop (i + 1)) := congrArg _ e
  rw [e, allMay_app, allMay_cons] at ha
  have es : ∀ p : P3, ps.set i p = ps.take i ++ p :: ps.drop (i + 1) := fun p => by rw [List.set_eq_take_append_cons_drop, if_pos hi]
  rw [es]
  obtain ⟨a1, hm0, a3⟩ := ha
  have hm1 : 1 ≤ Q ∧ Q ≤ D ∧ D ≤ T ∧ T ≤ 1073741824 := hm0
  have hm2 : May (q, D, T) := show 1 ≤ q ∧ q ≤ D ∧ D ≤ T ∧ T ≤ 1073741824 by omega
  have hm : askOf hard (q, D, T) ≤ askOf hard (Q, D, T) := askOf_mono hq' (by omega) (by omega)
  refine test_less h (allMay_app.2 ⟨a1, allMay_cons.2 ⟨hm2, a3⟩⟩) ?_ ?_
  · rw [e2, asked_app, asked_app, asked_cons, asked_cons]
    clear e2 e es hm0 hm2
    generalize askOf hard (q, D, T) = x at *
    generalize askOf hard (Q, D, T) = y at *
    simp only
    omega
  · rw [e2, asked_app, asked_app, asked_cons, asked_cons]
    clear e2 e es hm0 hm2
    generalize askOf hard (q, D, T) = x at *
    generalize askOf hard (Q, D, T) = y at *
    simp only
    omega

/-! ### a row behind its end -/
theorem rev_take {ps : List P3} {t : Nat} (ht : t < ps.length) : ps.reverse.take (ps.length - t) = ps.reverse.take (ps.length - (t + 1)) ++ [ps.getD t p0] := by
  have e : ps.length - t = ps.length - (t + 1) + 1 := by omega
  have hl : ps.length - (t + 1) < ps.reverse.length := by rw [List.length_reverse]; omega
  rw [e, List.take_succ_eq_append_getElem hl]
  congr 1
  rw [List.getElem_reverse]
  have e2 : ps.length - 1 - (ps.length - (t + 1)) = t := by omega
  simp [List.getD, e2, ht]
theorem rev_all {w : World} {B : Nat} {v : Value} {ps : List P3} (h : Owns w B v (ps.reverse.take (ps.length - 0))) : Owns w B v ps.reverse := by
  rw [Nat.sub_zero, ← List.length_reverse, List.take_length] at h
  exact h
theorem row_at {w : World} {b off cap len : Nat} {ps : List P3} (h : ParamRow w (.slice (some ⟨b, off, none⟩) len cap) ps) {t : Nat} (ht : t < ps.length) : ParamAt w b (off + t * 3) (ps.getD t p0) := by
  rcases h with ⟨a, cap', e, rfl⟩ | ⟨b', off', cap', e, _, _, hc⟩
  · simp at ht
  · cases e
    exact hc t ht
end Go.Proofs.Ytoagdaenbanhlaa
