/- A slice of ints, as a list of numbers: how it comes in, and that it stays. Each theorem's premises are its conditions. -/
import Derived.Test.YtmcilmmnpolieaaK08
import Derived.ChangeSlices
import Derived.Deep.Slices
/- A slice of ints, as a list of numbers: how it comes in, and that it stays. Each theorem's premises are its conditions. -/
namespace Go.Proofs.Ytmcilmmnpolieaa
open Go.ChangeShapes Go.WideShapes Go.ChangeAt Go.RowKit

/-- v is a slice of the numbers xs. -/
def IntRow (w : World) (v : Value) (xs : List Int) : Prop :=
  (∃ a cap, v = .slice a 0 cap ∧ xs = []) ∨ (∃ b off cap, v = .slice (some ⟨b, off, none⟩) xs.length cap ∧ b < w.heap.size ∧ 0 < xs.length ∧ ∀ j, j < xs.length → w.cell? ⟨b, off + j, none⟩ = some (.int .i64 (xs.getD j 0)))
theorem IntRow.below {w w' : World} {v : Value} {xs : List Int} (h : IntRow w v xs) (hb : Below w.heap.size w w') : IntRow w' v xs := by
  rcases h with h | ⟨b, off, cap, rfl, hlt, h0, hc⟩
  · exact .inl h
  · exact .inr ⟨b, off, cap, rfl, Nat.lt_of_lt_of_le hlt hb.size, h0, fun j hj => by rw [hb.cell (p := ⟨b, off + j, none⟩) hlt]; exact hc j hj⟩
/-- a number of 64 bits. -/
abbrev Fit (n : Int) : Prop := -9223372036854775808 ≤ n ∧ n ≤ 9223372036854775807
theorem fit_get {xs : List Int} (h : ∀ n ∈ xs, Fit n) (j : Nat) : Fit (xs.getD j 0) := by
  by_cases hj : j < xs.length
  · have : xs.getD j 0 = xs[j] := by simp [List.getD, hj]
    rw [this]; exact h _ (List.getElem_mem hj)
  · have : xs.getD j 0 = 0 := by simp [List.getD, Nat.not_lt.1 hj]
    rw [this]; exact ⟨by omega, by omega⟩
theorem cell_lt {w : World} {b o : Nat} {s : Option Nat} {v : Value} (h : w.cell? ⟨b, o, s⟩ = some v) : b < w.heap.size := by
  rcases Nat.lt_or_ge b w.heap.size with h1 | h1
  · exact h1
  · simp [World.cell?, Array.getElem?_eq_none h1] at h

section
variable {H : Type} {enc : TypeId × Value → H} {P : Program} {w : World} {base : Nat} {spare : Nat → Bool} {held : Bool}
theorem open_introw {r : Reach} {b0 : Nat} {t e : TypeId} {v : Value} {d : DataW H} {p : List MemPlace} (ht : P.underlying t = some (.slice e)) (he : P.underlying e = some (.int .i64)) (hc : P.cellsOf e = 1)
    (hv : Value.okWide P w r b0 t v) (h : DataW.Trod enc P w base spare held t v d p) : ∃ xs, IntRow w v xs ∧ (∀ n ∈ xs, Fit n) ∧ xs.length ≤ maxLen := by
  obtain ⟨a0, len, cap, rfl⟩ := okWide_slice ht hv
  obtain ⟨fuel, hf⟩ := h
  rcases open_ints ht he hc hf with ⟨hcs, _⟩ | ⟨a, len', cap', zs, hcs, _, hl, hm, hz, _, hcell, hw⟩
  · simp [Value.cells] at hcs
    obtain ⟨rfl, rfl, rfl⟩ := hcs
    exact ⟨[], .inl ⟨_, _, rfl, rfl⟩, (by intro n hn; cases hn), Nat.zero_le _⟩
  · simp [Value.cells] at hcs
    obtain ⟨rfl, rfl, rfl⟩ := hcs
    have hlz : len ≤ zs.length := by rw [hz]; split <;> omega
    have hlen : (zs.take len).length = len := by rw [List.length_take]; omega
    refine ⟨zs.take len, ?_, fun n hn => bounds_i64 (hw n (List.mem_of_mem_take hn)), by rw [hlen]; omega⟩
    by_cases h0 : len = 0
    · subst h0
      exact .inl ⟨_, _, rfl, rfl⟩
    · have hc0 := hcell 0 (by omega)
      have h00 : a.add 0 = a := by simp [Addr.add]
      rw [h00] at hc0
      have hsp : a.spot = none := World.cell?_spot hc0
      obtain ⟨b, off, spot⟩ := a
      simp only at hsp
      subst hsp
      refine .inr ⟨b, off, cap, by rw [hlen], cell_lt hc0, by omega, fun j hj => ?_⟩
      rw [hlen] at hj
      have := hcell j (by omega)
      have e1 : (Addr.mk b off none).add j = ⟨b, off + j, none⟩ := by unfold Addr.add; split <;> simp_all
      rw [e1] at this
      rw [this]
      simp [List.getD, hj]
end

/-! ### the plain sum -/
/-- the sum, number by number, if it fits at each. -/
def sumGo (t : Int) : List Int → Option Int
  | [] => some t
  | x :: l => if -9223372036854775808 ≤ t + x ∧ t + x ≤ 9223372036854775807 then sumGo (t + x) l else none
def sumNum (xs : List Int) : Int := (sumGo 0 xs).getD 0
def sumErr (xs : List Int) : Int := if (sumGo 0 xs).isSome then 0 else 11
theorem drop_step {zs : List Int} {k : Nat} (hk : k < zs.length) : zs.drop k = zs.getD k 0 :: zs.drop (k + 1) := by
  rw [List.drop_eq_getElem_cons hk]
  simp [List.getD, hk]
theorem sumGo_fit : ∀ (xs : List Int) (t r : Int), Fit t → sumGo t xs = some r → Fit r
  | [], t, r, h, e => by simp [sumGo] at e; subst e; exact h
  | x :: l, t, r, h, e => by
    unfold sumGo at e
    split at e
    · rename_i h1; exact sumGo_fit l _ r h1 e
    · cases e
theorem sumNum_fit (xs : List Int) : Fit (sumNum xs) := by
  unfold sumNum
  cases h : sumGo 0 xs with
  | none => exact ⟨by simp, by simp⟩
  | some r => exact sumGo_fit xs 0 r ⟨by omega, by omega⟩ h
end Go.Proofs.Ytmcilmmnpolieaa
