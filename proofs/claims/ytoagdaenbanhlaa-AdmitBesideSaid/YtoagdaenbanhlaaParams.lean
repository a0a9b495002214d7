/- A slice of servers' params, as a list: how it comes in, and that it stays; what servers ask for, in plain words. Each theorem's premises are its conditions. -/
import Derived.Test.YtoagdaenbanhlaaOpenRows
import Derived.Test.YtoagdaenbanhlaaQuotLaws
import Derived.Test.YtoagdaenbanhlaaRatioParams0
namespace Go.Proofs.Ytoagdaenbanhlaa
open Go.ChangeShapes Go.WideShapes Go.ChangeAt Go.RowKit Go.Deep

/-- params: Q, D, T. -/
abbrev P3 := Int × Int × Int
def pval (p : P3) : Value := .agg #[.int .i64 p.1, .int .i64 p.2.1, .int .i64 p.2.2]
/-- params lie there. -/
def ParamAt (w : World) (b o : Nat) (p : P3) : Prop := w.cell? ⟨b, o, none⟩ = some (.int .i64 p.1) ∧ w.cell? ⟨b, o + 1, none⟩ = some (.int .i64 p.2.1) ∧ w.cell? ⟨b, o + 2, none⟩ = some (.int .i64 p.2.2)
theorem ParamAt.below {w w' : World} {b o : Nat} {p : P3} (h : ParamAt w b o p) (hb : b < w.heap.size) (k : Below w.heap.size w w') : ParamAt w' b o p :=
  ⟨(k.cell (p := ⟨b, o, none⟩) hb).trans h.1, (k.cell (p := ⟨b, o + 1, none⟩) hb).trans h.2.1, (k.cell (p := ⟨b, o + 2, none⟩) hb).trans h.2.2⟩
def p0 : P3 := (0, 0, 0)
/-- v is a slice of the params ps. -/
def ParamRow (w : World) (v : Value) (ps : List P3) : Prop :=
  (∃ a cap, v = .slice a 0 cap ∧ ps = []) ∨ ∃ b off cap, v = .slice (some ⟨b, off, none⟩) ps.length cap ∧ b < w.heap.size ∧ 0 < ps.length ∧ ∀ j, j < ps.length → ParamAt w b (off + j * 3) (ps.getD j p0)
theorem ParamRow.below {w w' : World} {v : Value} {ps : List P3} (h : ParamRow w v ps) (hb : Below w.heap.size w w') : ParamRow w' v ps := by
  rcases h with h | ⟨b, off, cap, rfl, hlt, h0, hc⟩
  · exact .inl h
  · exact .inr ⟨b, off, cap, rfl, Nat.lt_of_lt_of_le hlt hb.size, h0, fun j hj => (hc j hj).below hlt hb⟩
/-- each of the numbers has 64 bits. -/
def Fit3 (p : P3) : Prop := Fit p.1 ∧ Fit p.2.1 ∧ Fit p.2.2

section
variable {H : Type} {enc : TypeId × Value → H} {P : Program} {w : World} {base : Nat} {spare : Nat → Bool} {held : Bool}
theorem open_params {r : Reach} {b0 : Nat} {t e : TypeId} {fs : Array Field} {v : Value} {d : DataW H} {p : List MemPlace} (ht : P.underlying t = some (.slice e)) (he : P.underlying e = some (.struct fs)) (ce : P.cellsOf e = 3)
    (hfs : ∀ j, j < 3 → ∃ f, fs[j]? = some f ∧ f.offset = j ∧ P.cellsOf f.type = 1 ∧ P.underlying f.type = some (.int .i64))
    (hv : Value.okWide P w r b0 t v) (h : DataW.Trod enc P w base spare held t v d p) : ∃ ps, ParamRow w v ps ∧ (∀ p ∈ ps, Fit3 p) ∧ ps.length ≤ maxLen := by
  obtain ⟨a, len, cap, rfl, hl, h0 | ⟨b, off, Z, rfl, hb, hZ⟩⟩ := open_rows ht he ce (by omega) hfs hv h
  · subst h0
    exact ⟨[], .inl ⟨_, _, rfl, rfl⟩, (by intro p hp; cases hp), Nat.zero_le _⟩
  · by_cases h0 : len = 0
    · subst h0
      exact ⟨[], .inl ⟨_, _, rfl, rfl⟩, (by intro p hp; cases hp), Nat.zero_le _⟩
    refine ⟨(List.range len).map fun i => (Z i 0, Z i 1, Z i 2), .inr ⟨b, off, cap, by simp, hb, by simp; omega, fun j hj => ?_⟩, fun p hp => ?_, by simpa using hl⟩
    · have hj' : j < len := by simpa using hj
      have e : ((List.range len).map fun i => ((Z i 0, Z i 1, Z i 2) : P3)).getD j p0 = (Z j 0, Z j 1, Z j 2) := by simp [List.getD, hj']
      rw [e]
      exact ⟨(hZ j hj' 0 (by omega)).1, by have := (hZ j hj' 1 (by omega)).1; rwa [← Nat.add_assoc] at this, by have := (hZ j hj' 2 (by omega)).1; rwa [← Nat.add_assoc] at this⟩
    · obtain ⟨i, hi, rfl⟩ := List.mem_map.1 hp
      have hi' : i < len := List.mem_range.1 hi
      exact ⟨(hZ i hi' 0 (by omega)).2, (hZ i hi' 1 (by omega)).2, (hZ i hi' 2 (by omega)).2⟩
end

/-! ### what servers ask for -/
def May (p : P3) : Prop := ParamsMay p.1 p.2.1 p.2.2
instance (p : P3) : Decidable (May p) := by unfold May ParamsMay; exact inferInstance
def askOf (hard : Bool) (p : P3) : Nat := quot true (p.1.toNat * 1048576) (if hard then p.2.1.toNat else p.2.2.toNat)
theorem askOf_le (hard : Bool) {p : P3} (h : May p) : askOf hard p ≤ 1048576 := by
  obtain ⟨h1, h2, h3, h4⟩ := h
  unfold askOf
  cases hard
  · exact quot_fit true (by simp; omega) (by simp only [Bool.false_eq_true, if_false]; rw [Nat.mul_comm]; exact Nat.mul_le_mul_left _ (by omega))
  · exact quot_fit true (by simp; omega) (by simp only [if_true]; rw [Nat.mul_comm]; exact Nat.mul_le_mul_left _ (by omega))
theorem askOf_soft_le {p : P3} (h : May p) : askOf false p ≤ askOf true p := by
  obtain ⟨h1, h2, h3, h4⟩ := h
  exact quot_anti true (by simp; omega) (by simp; omega)
/-- may all be? -/
def allMay (ps : List P3) : Bool := ps.all fun p => decide (May p)
/-- the sum and the greatest of what the first ones ask for. -/
def sumGo2 (hard : Bool) : Nat × Nat → List P3 → Nat × Nat
  | s, [] => s
  | s, p :: l => sumGo2 hard (s.1 + askOf hard p, max s.2 (askOf hard p)) l
def asked (hard : Bool) (ps : List P3) : Nat × Nat := sumGo2 hard (0, 0) ps
theorem sumGo2_le (hard : Bool) : ∀ (l : List P3) (s : Nat × Nat), allMay l = true → s.2 ≤ 1048576 → (sumGo2 hard s l).1 ≤ s.1 + l.length * 1048576 ∧ (sumGo2 hard s l).2 ≤ 1048576 ∧ s.1 ≤ (sumGo2 hard s l).1
  | [], s, _, h => ⟨by simp [sumGo2], h, Nat.le_refl _⟩
  | p :: l, s, ha, h => by
    simp only [allMay, List.all_cons, Bool.and_eq_true, decide_eq_true_eq] at ha
    have h1 := askOf_le hard ha.1
    have := sumGo2_le hard l (s.1 + askOf hard p, max s.2 (askOf hard p)) ha.2 (by simp only [Nat.max_le]; exact ⟨h, h1⟩)
    simp only [List.length_cons]
    unfold sumGo2
    refine ⟨?_, this.2.1, ?_⟩
    · have := this.1; simp only at this; omega
    · have := this.2.2; simp only at this; omega
theorem drop_p {zs : List P3} {k : Nat} (hk : k < zs.length) : zs.drop k = zs.getD k p0 :: zs.drop (k + 1) := by
  rw [List.drop_eq_getElem_cons hk]
  simp [List.getD, hk]
theorem allMay_at {ps : List P3} (h : allMay ps = true) {k : Nat} (hk : k < ps.length) : May (ps.getD k p0) := by
  unfold allMay at h
  rw [List.all_eq_true] at h
  have e : ps.getD k p0 = ps[k] := by simp [List.getD, hk]
  rw [e]
  simpa using h _ (List.getElem_mem hk)
/-- the first one that may not be. -/
theorem allMay_not {ps : List P3} {k : Nat} (hk : k < ps.length) (h : ¬ May (ps.getD k p0)) : allMay ps = false := by
  cases e : allMay ps with
  | false => rfl
  | true => exact absurd (allMay_at e hk) h
theorem allMay_upto : ∀ {ps : List P3}, (∀ k, k < ps.length → May (ps.getD k p0)) → allMay ps = true := by
  intro ps h
  unfold allMay
  rw [List.all_eq_true]
  intro p hp
  obtain ⟨k, hk, rfl⟩ := List.mem_iff_getElem.1 hp
  have := h k hk
  have e : ps.getD k p0 = ps[k] := by simp [List.getD, hk]
  rw [e] at this
  simpa using this
end Go.Proofs.Ytoagdaenbanhlaa
