/- A slice of charges, as a list: how it comes in, that it stays, and one that a function itself has made. Each theorem's premises are its conditions. -/
import Derived.Test.YtfpifaccjfgfkaaOpenRows
import Derived.RangeFuncRecord
import Derived.WalkLawsBesides
import Derived.WalkSpells
import Derived.Outline
namespace Go.Proofs.Ytfpifaccjfgfkaa
open Go.ChangeShapes Go.WideShapes Go.ChangeAt Go.RowKit Go.Deep Go.Joins

/-- a charge: server, worker, thread, from, to, how much. -/
structure Chg where
  sv : Int
  wk : Int
  th : Int
  fr : Int
  to : Int
  n : Int
deriving DecidableEq
def c0 : Chg := ⟨0, 0, 0, 0, 0, 0⟩
/-- one of the six numbers. -/
def cc (c : Chg) : Nat → Value
  | 0 => .int .i64 c.sv
  | 1 => .int .i64 c.wk
  | 2 => .int .i64 c.th
  | 3 => .int .i64 c.fr
  | 4 => .int .i64 c.to
  | _ => .int .i64 c.n
def ChgAt (w : World) (b o : Nat) (c : Chg) : Prop :=
  w.cell? ⟨b, o, none⟩ = some (.int .i64 c.sv) ∧ w.cell? ⟨b, o + 1, none⟩ = some (.int .i64 c.wk) ∧ w.cell? ⟨b, o + 2, none⟩ = some (.int .i64 c.th) ∧
  w.cell? ⟨b, o + 3, none⟩ = some (.int .i64 c.fr) ∧ w.cell? ⟨b, o + 4, none⟩ = some (.int .i64 c.to) ∧ w.cell? ⟨b, o + 5, none⟩ = some (.int .i64 c.n)
theorem ChgAt.same {w w' : World} {b o : Nat} {c : Chg} (h : ChgAt w b o c) (k : w'.heap[b]? = w.heap[b]?) : ChgAt w' b o c :=
  ⟨(World.cell?_of_block k).trans h.1, (World.cell?_of_block k).trans h.2.1, (World.cell?_of_block k).trans h.2.2.1, (World.cell?_of_block k).trans h.2.2.2.1, (World.cell?_of_block k).trans h.2.2.2.2.1, (World.cell?_of_block k).trans h.2.2.2.2.2⟩
theorem ChgAt.below {w w' : World} {b o : Nat} {c : Chg} (h : ChgAt w b o c) (hb : b < w.heap.size) (k : Below w.heap.size w w') : ChgAt w' b o c := h.same (k.block b hb)
theorem chg_cc {w : World} {b o : Nat} {c : Chg} (h : ChgAt w b o c) {i : Nat} (hi : i < 6) : w.cell? ⟨b, o + i, none⟩ = some (cc c i) := by
  match i, hi with
  | 0, _ => exact h.1
  | 1, _ => exact h.2.1
  | 2, _ => exact h.2.2.1
  | 3, _ => exact h.2.2.2.1
  | 4, _ => exact h.2.2.2.2.1
  | 5, _ => exact h.2.2.2.2.2
theorem chg_of {w : World} {b o : Nat} {c : Chg} (h : ∀ i, i < 6 → w.cell? ⟨b, o + i, none⟩ = some (cc c i)) : ChgAt w b o c :=
  ⟨h 0 (by omega), h 1 (by omega), h 2 (by omega), h 3 (by omega), h 4 (by omega), h 5 (by omega)⟩
/-- v is a slice of the charges cs. -/
def ChgRow (w : World) (v : Value) (cs : List Chg) : Prop :=
  (∃ a cap, v = .slice a 0 cap ∧ cs = []) ∨ ∃ b off cap, v = .slice (some ⟨b, off, none⟩) cs.length cap ∧ b < w.heap.size ∧ 0 < cs.length ∧ ∀ j, j < cs.length → ChgAt w b (off + j * 6) (cs.getD j c0)
theorem ChgRow.below {w w' : World} {v : Value} {cs : List Chg} (h : ChgRow w v cs) (hb : Below w.heap.size w w') : ChgRow w' v cs := by
  rcases h with h | ⟨b, off, cap, rfl, hlt, h0, hc⟩
  · exact .inl h
  · exact .inr ⟨b, off, cap, rfl, Nat.lt_of_lt_of_le hlt hb.size, h0, fun j hj => (hc j hj).below hlt hb⟩
/-- each of the numbers has 64 bits. -/
def Fit6 (c : Chg) : Prop := Fit c.sv ∧ Fit c.wk ∧ Fit c.th ∧ Fit c.fr ∧ Fit c.to ∧ Fit c.n
/-- a nil slice is empty, without room; none is longer than its room. -/
def SliceOk (v : Value) : Prop := (∀ len cap, v = .slice none len cap → len = 0 ∧ cap = 0) ∧ ∀ a len cap, v = .slice a len cap → len ≤ cap ∧ cap ≤ maxLen

section
variable {H : Type} {enc : TypeId × Value → H} {P : Program} {w : World} {base : Nat} {spare : Nat → Bool} {held : Bool}
theorem open_charges {r : Reach} {b0 : Nat} {t e : TypeId} {fs : Array Field} {v : Value} {d : DataW H} {p : List MemPlace} (ht : P.underlying t = some (.slice e)) (he : P.underlying e = some (.struct fs)) (ce : P.cellsOf e = 6)
    (hfs : ∀ j, j < 6 → ∃ f, fs[j]? = some f ∧ f.offset = j ∧ P.cellsOf f.type = 1 ∧ P.underlying f.type = some (.int .i64))
    (hv : Value.okWide P w r b0 t v) (h : DataW.Trod enc P w base spare held t v d p) : ∃ cs, ChgRow w v cs ∧ (∀ c ∈ cs, Fit6 c) ∧ SliceOk v := by
  have hok : SliceOk v := by
    obtain ⟨a0, len0, cap0, rfl⟩ := okWide_slice ht hv
    obtain ⟨fuel, hf⟩ := h
    rcases open_slice ht hf with ⟨hcs, _⟩ | ⟨a, len, cap, m, n, D, Pl, hcs, _, hl, hm, _⟩
    · simp [Value.cells] at hcs
      obtain ⟨rfl, rfl, rfl⟩ := hcs
      exact ⟨fun _ _ e => (by cases e; exact ⟨rfl, rfl⟩), fun _ _ _ e => by cases e; exact ⟨Nat.le_refl _, Nat.zero_le _⟩⟩
    · simp [Value.cells] at hcs
      obtain ⟨rfl, rfl, rfl⟩ := hcs
      exact ⟨fun _ _ e => (by cases e), fun _ _ _ e => by cases e; exact ⟨hl, hm⟩⟩
  obtain ⟨a, len, cap, rfl, hl, h0 | ⟨b, off, Z, rfl, hb, hZ⟩⟩ := open_rows ht he ce (by omega) hfs hv h
  · subst h0
    exact ⟨[], .inl ⟨_, _, rfl, rfl⟩, (by intro p hp; cases hp), hok⟩
  · by_cases h0 : len = 0
    · subst h0
      exact ⟨[], .inl ⟨_, _, rfl, rfl⟩, (by intro p hp; cases hp), hok⟩
    refine ⟨(List.range len).map fun i => ⟨Z i 0, Z i 1, Z i 2, Z i 3, Z i 4, Z i 5⟩, .inr ⟨b, off, cap, by simp, hb, by simp; omega, fun j hj => ?_⟩, fun c hc => ?_, hok⟩
    · have hj' : j < len := by simpa using hj
      have e : ((List.range len).map fun i => (⟨Z i 0, Z i 1, Z i 2, Z i 3, Z i 4, Z i 5⟩ : Chg)).getD j c0 = ⟨Z j 0, Z j 1, Z j 2, Z j 3, Z j 4, Z j 5⟩ := by simp [List.getD, hj']
      rw [e]
      refine chg_of fun i hi => ?_
      have h1 := (hZ j hj' i hi).1
      rw [← Nat.add_assoc] at h1
      match i, hi with
      | 0, _ => exact h1
      | 1, _ => exact h1
      | 2, _ => exact h1
      | 3, _ => exact h1
      | 4, _ => exact h1
      | 5, _ => exact h1
    · obtain ⟨i, hi, rfl⟩ := List.mem_map.1 hc
      have hi' : i < len := List.mem_range.1 hi
      exact ⟨(hZ i hi' 0 (by omega)).2, (hZ i hi' 1 (by omega)).2, (hZ i hi' 2 (by omega)).2, (hZ i hi' 3 (by omega)).2, (hZ i hi' 4 (by omega)).2, (hZ i hi' 5 (by omega)).2⟩
end

/-- the cells of charges, one behind the other. -/
def ccells : List Chg → List Value
  | [] => []
  | c :: l => cc c 0 :: cc c 1 :: cc c 2 :: cc c 3 :: cc c 4 :: cc c 5 :: ccells l
theorem ccells_append : ∀ (l m : List Chg), ccells (l ++ m) = ccells l ++ ccells m
  | [], _ => rfl
  | c :: l, m => by rw [List.cons_append, ccells, ccells_append l m]; rfl
theorem ccells_length : ∀ l : List Chg, (ccells l).length = l.length * 6
  | [] => rfl
  | c :: l => by simp only [ccells, List.length_cons, ccells_length l]; omega
theorem ccells_get : ∀ (l : List Chg) (i c : Nat), i < l.length → c < 6 → (ccells l)[i * 6 + c]? = some (cc (l.getD i c0) c)
  | [], _, _, h, _ => absurd h (by simp)
  | p :: l, 0, c, _, hc => by
    match c, hc with
    | 0, _ => rfl
    | 1, _ => rfl
    | 2, _ => rfl
    | 3, _ => rfl
    | 4, _ => rfl
    | 5, _ => rfl
  | p :: l, i + 1, c, h, hc => by
    have e : (i + 1) * 6 + c = (i * 6 + c) + 1 + 1 + 1 + 1 + 1 + 1 := by omega
    rw [e]
    simp only [ccells, List.getElem?_cons_succ]
    rw [ccells_get l i c (by simpa using h) hc]
    rfl
theorem ccells_at {l : List Chg} {j : Nat} {u : Value} (h : (ccells l)[j]? = some u) : ∃ i c, i < l.length ∧ c < 6 ∧ j = i * 6 + c ∧ u = cc (l.getD i c0) c := by
  have hj : j < l.length * 6 := by rw [← ccells_length]; exact (List.getElem?_eq_some_iff.1 h).1
  refine ⟨j / 6, j % 6, by omega, by omega, by omega, ?_⟩
  have := ccells_get l (j / 6) (j % 6) (by omega) (by omega)
  rw [show j / 6 * 6 + j % 6 = j by omega, h] at this
  exact Option.some.inj this
theorem cc_one (c : Chg) (i : Nat) : (cc c i).oneCell' = true := by
  match i with
  | 0 => rfl
  | 1 => rfl
  | 2 => rfl
  | 3 => rfl
  | 4 => rfl
  | _ + 5 => rfl
theorem ccells_one (l : List Chg) : ∀ u ∈ ccells l, u.oneCell' = true := by
  intro u hu
  obtain ⟨j, hj, rfl⟩ := List.mem_iff_getElem.1 hu
  obtain ⟨i, c, _, _, _, e⟩ := ccells_at (List.getElem?_eq_getElem hj)
  rw [e]; exact cc_one _ _
/-- v owns the charges cs. -/
abbrev Owns (w : World) (B : Nat) (v : Value) (cs : List Chg) : Prop := w.ownsRow B 50 6 v cs.length (ccells cs)
theorem owns_row {w : World} {B : Nat} {v : Value} {cs : List Chg} (h : Owns w B v cs) : ChgRow w v cs ∧ SliceOk v := by
  obtain ⟨_, ⟨rfl, h0⟩ | ⟨g, cap, cur, rfl, _, hg, hn, hm, hs, hc⟩⟩ := h
  · exact ⟨.inl ⟨_, _, rfl, List.length_eq_zero_iff.1 h0⟩, fun _ _ e => (by cases e; exact ⟨rfl, rfl⟩), fun _ _ _ e => by cases e; exact ⟨Nat.le_refl _, Nat.zero_le _⟩⟩
  · refine ⟨?_, fun _ _ e => (by cases e), fun _ _ _ e => by cases e; exact ⟨hn, hm⟩⟩
    by_cases h0 : cs.length = 0
    · rw [h0]
      exact .inl ⟨_, _, rfl, List.length_eq_zero_iff.1 h0⟩
    · refine .inr ⟨g, 0, cap, rfl, (Array.getElem?_eq_some_iff.1 hg).1, by omega, fun j hj => chg_of fun c hc' => ?_⟩
      have h1 := ccells_get cs j c hj hc'
      rw [← hc, List.getElem?_take] at h1
      split at h1
      · simp only [World.cell?, hg]
        have e : 0 + j * 6 + c = j * 6 + c := by omega
        rw [e]
        simpa using h1
      · cases h1
theorem own_nil (w : World) (B : Nat) : Owns w B (.slice none 0 0) [] := ⟨rfl, .inl ⟨rfl, rfl⟩⟩
theorem own_empty {w : World} {B g : Nat} (hB : B ≤ g) (h : w.heap[g]? = some (.cells #[] 50 (0, 0))) : Owns w B (.slice (some ⟨g, 0, none⟩) 0 0) [] :=
  ⟨rfl, .inr ⟨g, 0, #[], rfl, hB, h, Nat.le_refl _, Nat.zero_le _, rfl, rfl⟩⟩
theorem own_block {w : World} {B : Nat} {v : Value} {cs : List Chg} (h : Owns w B v cs) : ∀ k, v.ownBlock = some k → B ≤ k := fun k e => (World.ownsRow.lt h k e).1
theorem owns_below {w w' : World} {B : Nat} {v : Value} {cs : List Chg} (h : Owns w B v cs) (k : Below w.heap.size w w') : Owns w' B v cs :=
  h.kept (row := none) ⟨k.os, k.tape, k.output, k.size, fun i hi _ => k.block i hi⟩ (by
    cases e : v.ownBlock with
    | none => exact .inl rfl
    | some b => exact .inr (fun h => by cases h))
theorem row_slice {w : World} {v : Value} {cs : List Chg} (h : ChgRow w v cs) : ∃ a len cap, v = .slice a len cap := by
  rcases h with ⟨a, cap, rfl, _⟩ | ⟨b, off, cap, rfl, _⟩ <;> exact ⟨_, _, _, rfl⟩
theorem row_len {w : World} {a : Option Addr} {len cap : Nat} {cs : List Chg} (h : ChgRow w (.slice a len cap) cs) : len = cs.length := by
  rcases h with ⟨a', cap', e, rfl⟩ | ⟨b, off, cap', e, _⟩
  · cases e; rfl
  · cases e; rfl
theorem row_at {w : World} {b off cap len : Nat} {cs : List Chg} (h : ChgRow w (.slice (some ⟨b, off, none⟩) len cap) cs) {t : Nat} (ht : t < cs.length) : ChgAt w b (off + t * 6) (cs.getD t c0) := by
  rcases h with ⟨a, cap', e, rfl⟩ | ⟨b', off', cap', e, _, _, hc⟩
  · simp at ht
  · cases e
    exact hc t ht
/-- the cells behind a slice's address. -/
theorem row_cells {w : World} {ad : Addr} {len cap : Nat} {cs : List Chg} (h : ChgRow w (.slice (some ad) len cap) cs) : len = cs.length ∧ ∀ j u, (ccells cs)[j]? = some u → w.cell? (ad.add j) = some u := by
  rcases h with ⟨a, cap', e, rfl⟩ | ⟨b, off, cap', e, hlt, _, hc⟩
  · cases e
    exact ⟨rfl, fun j u hj => by simp [ccells] at hj⟩
  · cases e
    refine ⟨rfl, fun j u hj => ?_⟩
    obtain ⟨i, c, hi, hc', rfl, rfl⟩ := ccells_at hj
    have e1 : (Addr.mk b off none).add (i * 6 + c) = ⟨b, off + i * 6 + c, none⟩ := by
      rw [Nat.add_assoc]
      unfold Addr.add; split <;> simp_all
    rw [e1]
    exact chg_cc (hc i hi) hc'
theorem cell_alloc {w : World} {o : Obj} {a : Addr} {v : Value} (h : w.cell? a = some v) : (w.alloc o).cell? a = some v := (World.cell?_alloc_lt w o a (World.block_lt_of_cell? w a h)).trans h
theorem Try.infoCharge : (Try.prog.info? 50).map (fun i => (i.zero, i.size, i.bytes)) = some (some (.agg #[.int .i64 0, .int .i64 0, .int .i64 0, .int .i64 0, .int .i64 0, .int .i64 0]), 6, 48) := by kernel_rfl
end Go.Proofs.Ytfpifaccjfgfkaa
