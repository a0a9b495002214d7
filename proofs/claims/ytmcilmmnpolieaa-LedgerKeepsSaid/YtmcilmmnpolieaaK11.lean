/- A slice of structs of k numbers each: how it comes in. Each theorem's premises are its conditions. -/
import Derived.Test.YtmcilmmnpolieaaK10
import Derived.Deep.SlicePairs
/- A slice of structs of k numbers each: how it comes in. Each theorem's premises are its conditions. -/
namespace Go.Proofs.Ytmcilmmnpolieaa
open Go.ChangeShapes Go.WideShapes Go.ChangeAt Go.RowKit Go.Deep

section
variable {H : Type} {enc : TypeId × Value → H} {P : Program} {w : World} {base : Nat} {spare : Nat → Bool} {held : Bool}
/-- row i's number j is Z i j. -/
theorem open_rows {r : Reach} {b0 : Nat} {t e : TypeId} {fs : Array Field} {k : Nat} {v : Value} {d : DataW H} {p : List MemPlace} (ht : P.underlying t = some (.slice e)) (he : P.underlying e = some (.struct fs)) (ce : P.cellsOf e = k) (hk : 0 < k)
    (hfs : ∀ j, j < k → ∃ f, fs[j]? = some f ∧ f.offset = j ∧ P.cellsOf f.type = 1 ∧ P.underlying f.type = some (.int .i64))
    (hv : Value.okWide P w r b0 t v) (h : DataW.Trod enc P w base spare held t v d p) :
    ∃ a len cap, v = .slice a len cap ∧ len ≤ maxLen ∧ (len = 0 ∨ ∃ (b off : Nat) (Z : Nat → Nat → Int), a = some ⟨b, off, none⟩ ∧ b < w.heap.size ∧ ∀ i, i < len → ∀ j, j < k → w.cell? ⟨b, off + (i * k + j), none⟩ = some (.int .i64 (Z i j)) ∧ Fit (Z i j)) := by
  obtain ⟨a0, len0, cap0, rfl⟩ := okWide_slice ht hv
  obtain ⟨fuel, hf⟩ := h
  rcases open_slice ht hf with ⟨hcs, _⟩ | ⟨a, len, cap, m, n, D, Pl, hcs, hb, hl, hm, hmm, _, hx⟩
  · simp [Value.cells] at hcs
    obtain ⟨rfl, rfl, rfl⟩ := hcs
    exact ⟨_, _, _, rfl, Nat.zero_le _, .inl rfl⟩
  simp [Value.cells] at hcs
  obtain ⟨rfl, rfl, rfl⟩ := hcs
  refine ⟨_, _, _, rfl, Nat.le_trans hl hm, ?_⟩
  by_cases h0 : len0 = 0
  · exact .inl h0
  right
  have each : ∀ i, i < len0 → ∃ Z : Nat → Int, ∀ j, j < k → w.cell? (a.add (i * k + j)) = some (.int .i64 (Z j)) ∧ Fit (Z j) := by
    intro i hi
    obtain ⟨cs, h1, h2⟩ := hx i (by rw [hmm]; split <;> omega)
    rw [ce] at h1
    obtain ⟨_, hlen, hcell⟩ := World.cells?_some h1
    obtain ⟨xs, q, _, _, _, hxl, hg⟩ := DataW.trod_struct he h2
    refine choose_lt (α := Int) (p := fun j z => w.cell? (a.add (i * k + j)) = some (.int .i64 z) ∧ Fit z) fun j hj => ?_
    obtain ⟨f, hfj, ho, hc, hu⟩ := hfs j hj
    have h3 := hg j f hfj
    rw [ho, hc] at h3
    have hj' : j < xs.length := by
      have := (Array.getElem?_eq_some_iff.1 hfj).1
      omega
    rw [List.getElem?_eq_getElem hj'] at h3
    obtain ⟨z, h4, _, h5⟩ := DataW.trod_int hu h3
    have h6 := hcell j hj
    rw [add_add] at h6
    have h7 : cs[j]? = some (.int .i64 z) := by
      have := congrArg (fun l => l[0]?) h4
      simpa [List.getElem?_take, List.getElem?_drop] using this
    exact ⟨z, h6.trans h7, bounds_i64 h5⟩
  obtain ⟨Z, hZ⟩ := choose_lt (α := Nat → Int) (p := fun i Z => ∀ j, j < k → w.cell? (a.add (i * k + j)) = some (.int .i64 (Z j)) ∧ Fit (Z j)) each
  have hc0 := (hZ 0 (by omega) 0 hk).1
  have h00 : a.add (0 * k + 0) = a := by simp [Addr.add]
  rw [h00] at hc0
  have hsp : a.spot = none := World.cell?_spot hc0
  obtain ⟨b, off, spot⟩ := a
  simp only at hsp
  subst hsp
  refine ⟨b, off, Z, rfl, cell_lt hc0, fun i hi j hj => ⟨?_, (hZ i hi j hj).2⟩⟩
  have e1 : (Addr.mk b off none).add (i * k + j) = ⟨b, off + (i * k + j), none⟩ := by unfold Addr.add; split <;> simp_all
  rw [← e1]
  exact (hZ i hi j hj).1
end
end Go.Proofs.Ytmcilmmnpolieaa
