/- A slice of params that a function itself has made: its cells, and that it is a row of params; slices.Clone of params. Each theorem's premises are its conditions. -/
import Derived.Test.YtmcilmmnpolieaaK14
import Derived.RangeFuncRecord
import Derived.WalkLawsBesides
import Derived.WalkSpells
import Derived.Outline
/- A slice of params that a function itself has made: its cells, and that it is a row of params; slices.Clone of params. Each theorem's premises are its conditions. -/
namespace Go.Proofs.Ytmcilmmnpolieaa
open Go.ChangeShapes Go.WideShapes Go.ChangeAt Go.RowKit Go.Deep Go.Joins

/-- one of the three numbers. -/
def pc (p : P3) : Nat → Value
  | 0 => .int .i64 p.1
  | 1 => .int .i64 p.2.1
  | _ => .int .i64 p.2.2
/-- the cells of params, one behind the other. -/
def pcells : List P3 → List Value
  | [] => []
  | p :: l => pc p 0 :: pc p 1 :: pc p 2 :: pcells l
theorem pcells_append : ∀ (l m : List P3), pcells (l ++ m) = pcells l ++ pcells m
  | [], _ => rfl
  | p :: l, m => by rw [List.cons_append, pcells, pcells_append l m]; rfl
theorem pcells_length : ∀ l : List P3, (pcells l).length = l.length * 3
  | [] => rfl
  | p :: l => by simp only [pcells, List.length_cons, pcells_length l]; omega
theorem pcells_get : ∀ (l : List P3) (i c : Nat), i < l.length → c < 3 → (pcells l)[i * 3 + c]? = some (pc (l.getD i p0) c)
  | [], _, _, h, _ => absurd h (by simp)
  | p :: l, 0, c, _, hc => by
    match c, hc with
    | 0, _ => rfl
    | 1, _ => rfl
    | 2, _ => rfl
  | p :: l, i + 1, c, h, hc => by
    have e : (i + 1) * 3 + c = (i * 3 + c) + 1 + 1 + 1 := by omega
    rw [e]
    simp only [pcells, List.getElem?_cons_succ]
    rw [pcells_get l i c (by simpa using h) hc]
    rfl
theorem pcells_at {l : List P3} {j : Nat} {u : Value} (h : (pcells l)[j]? = some u) : ∃ i c, i < l.length ∧ c < 3 ∧ j = i * 3 + c ∧ u = pc (l.getD i p0) c := by
  have hj : j < l.length * 3 := by rw [← pcells_length]; exact (List.getElem?_eq_some_iff.1 h).1
  refine ⟨j / 3, j % 3, by omega, by omega, by omega, ?_⟩
  have := pcells_get l (j / 3) (j % 3) (by omega) (by omega)
  rw [show j / 3 * 3 + j % 3 = j by omega, h] at this
  exact Option.some.inj this
theorem pc_one (p : P3) (c : Nat) : (pc p c).oneCell' = true := by
  match c with
  | 0 => rfl
  | 1 => rfl
  | _ + 2 => rfl
theorem pcells_one (l : List P3) : ∀ u ∈ pcells l, u.oneCell' = true := by
  intro u hu
  obtain ⟨j, hj, rfl⟩ := List.mem_iff_getElem.1 hu
  obtain ⟨i, c, _, _, _, e⟩ := pcells_at (List.getElem?_eq_getElem hj)
  rw [e]; exact pc_one _ _
theorem param_pc {w : World} {b o : Nat} {p : P3} (h : ParamAt w b o p) {c : Nat} (hc : c < 3) : w.cell? ⟨b, o + c, none⟩ = some (pc p c) := by
  match c, hc with
  | 0, _ => exact h.1
  | 1, _ => exact h.2.1
  | 2, _ => exact h.2.2
theorem param_of {w : World} {b o : Nat} {p : P3} (h : ∀ c, c < 3 → w.cell? ⟨b, o + c, none⟩ = some (pc p c)) : ParamAt w b o p := ⟨h 0 (by omega), h 1 (by omega), h 2 (by omega)⟩
/-- a nil slice is empty, without room. -/
def NilOk (v : Value) : Prop := ∀ len cap, v = .slice none len cap → len = 0 ∧ cap = 0
/-- a slice is no longer than its room. -/
def CapOk (v : Value) : Prop := ∀ a len cap, v = .slice a len cap → len ≤ cap ∧ cap ≤ maxLen
/-- v owns the params ps. -/
abbrev Owns (w : World) (B : Nat) (v : Value) (ps : List P3) : Prop := w.ownsRow B 24 3 v ps.length (pcells ps)
theorem owns_row {w : World} {B : Nat} {v : Value} {ps : List P3} (h : Owns w B v ps) : ParamRow w v ps ∧ NilOk v := by
  obtain ⟨_, ⟨rfl, h0⟩ | ⟨g, cap, cur, rfl, _, hg, hn, _, hs, hc⟩⟩ := h
  · exact ⟨.inl ⟨_, _, rfl, List.length_eq_zero_iff.1 h0⟩, fun len cap e => by cases e; exact ⟨rfl, rfl⟩⟩
  · refine ⟨?_, fun len cap e => by cases e⟩
    by_cases h0 : ps.length = 0
    · rw [h0]
      exact .inl ⟨_, _, rfl, List.length_eq_zero_iff.1 h0⟩
    · refine .inr ⟨g, 0, cap, rfl, (Array.getElem?_eq_some_iff.1 hg).1, by omega, fun j hj => param_of fun c hc' => ?_⟩
      have h1 := pcells_get ps j c hj hc'
      rw [← hc, List.getElem?_take] at h1
      split at h1
      · simp only [World.cell?, hg]
        have e : 0 + j * 3 + c = j * 3 + c := by omega
        rw [e]
        simpa using h1
      · cases h1

theorem Try.infoParams : (Try.prog.info? 24).map (fun i => (i.zero, i.size, i.bytes)) = some (some (.agg #[.int .i64 0, .int .i64 0, .int .i64 0]), 3, 24) := by kernel_rfl
theorem own_nil (w : World) (B : Nat) : Owns w B (.slice none 0 0) [] := ⟨rfl, .inl ⟨rfl, rfl⟩⟩
theorem own_empty {w : World} {B g : Nat} (hB : B ≤ g) (h : w.heap[g]? = some (.cells #[] 24 (0, 0))) : Owns w B (.slice (some ⟨g, 0, none⟩) 0 0) [] :=
  ⟨rfl, .inr ⟨g, 0, #[], rfl, hB, h, Nat.le_refl _, Nat.zero_le _, rfl, rfl⟩⟩

theorem cell_alloc {w : World} {o : Obj} {a : Addr} {v : Value} (h : w.cell? a = some v) : (w.alloc o).cell? a = some v := (World.cell?_alloc_lt w o a (World.block_lt_of_cell? w a h)).trans h
/-- the cells behind a slice's address. -/
theorem row_cells {w : World} {ad : Addr} {len cap : Nat} {ps : List P3} (h : ParamRow w (.slice (some ad) len cap) ps) : len = ps.length ∧ ∀ j u, (pcells ps)[j]? = some u → w.cell? (ad.add j) = some u := by
  rcases h with ⟨a, cap', e, rfl⟩ | ⟨b, off, cap', e, hlt, _, hc⟩
  · cases e
    exact ⟨rfl, fun j u hj => by simp [pcells] at hj⟩
  · cases e
    refine ⟨rfl, fun j u hj => ?_⟩
    obtain ⟨i, c, hi, hc', rfl, rfl⟩ := pcells_at hj
    have e1 : (Addr.mk b off none).add (i * 3 + c) = ⟨b, off + i * 3 + c, none⟩ := by
      rw [Nat.add_assoc]
      unfold Addr.add; split <;> simp_all
    rw [e1]
    exact param_pc (hc i hi) hc'
end Go.Proofs.Ytmcilmmnpolieaa
