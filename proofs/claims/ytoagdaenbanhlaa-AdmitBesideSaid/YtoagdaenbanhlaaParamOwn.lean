/- A slice of params that a function itself has made: its cells, and that it is a row of params; slices.Clone of params. Each theorem's premises are its conditions. -/
import Derived.Test.YtoagdaenbanhlaaParams
import Derived.RangeFuncRecord
import Derived.WalkLawsBesides
import Derived.WalkSpells
import Derived.Outline
namespace Go.Proofs.Ytoagdaenbanhlaa
open Go.ChangeShapes Go.WideShapes Go.ChangeAt Go.RowKit Go.Deep Go.Joins

/-- one of the three numbers. -/
def pc (p : P3) : Nat → Value
  | 0 => .int .i64 p.1
  | 1 => .int .i64 p.2.1
  | _ => .int .i64 p.2.2
/-- the cells of params, one behind the other. -/
def pcells : List P3 → List Value
  | [] => []
  | p :: l => pc p 0 :: pc p 1 :: pc p 2 :: pcells l
theorem pcells_append : ∀ (l m : List P3), pcells (l ++ m) = pcells l ++ pcells m
  | [], _ => rfl
  | p :: l, m => by rw [List.cons_append, pcells, pcells_append l m]; rfl
theorem pcells_length : ∀ l : List P3, (pcells l).length = l.length * 3
  | [] => rfl
  | p :: l => by simp only [pcells, List.length_cons, pcells_length l]; omega
theorem pcells_get : ∀ (l : List P3) (i c : Nat), i < l.length → c < 3 → (pcells l)[i * 3 + c]? = some (pc (l.getD i p0) c)
  | [], _, _, h, _ => absurd h (by simp)
  | p :: l, 0, c, _, hc => by
    match c, hc with
    | 0, _ => rfl
    | 1, _ => rfl
    | 2, _ => rfl
  | p :: l, i + 1, c, h, hc => by
    have e : (i + 1) * 3 + c = (i * 3 + c) + 1 + 1 + 1 := by omega
    rw [e]
    simp only [pcells, List.getElem?_cons_succ]
    rw [pcells_get l i c (by simpa using h) hc]
    rfl
theorem pcells_at {l : List P3} {j : Nat} {u : Value} (h : (pcells l)[j]? = some u) : ∃ i c, i < l.length ∧ c < 3 ∧ j = i * 3 + c ∧ u = pc (l.getD i p0) c := by
  have hj : j < l.length * 3 := by rw [← pcells_length]; exact (List.getElem?_eq_some_iff.1 h).1
  refine ⟨j / 3, j % 3, by omega, by omega, by omega, ?_⟩
  have := pcells_get l (j / 3) (j % 3) (by omega) (by omega)
  rw [show j / 3 * 3 + j % 3 = j by omega, h] at this
  exact Option.some.inj this
theorem pc_one (p : P3) (c : Nat) : (pc p c).oneCell' = true := by
  match c with
  | 0 => rfl
  | 1 => rfl
  | _ + 2 => rfl
theorem pcells_one (l : List P3) : ∀ u ∈ pcells l, u.oneCell' = true := by
  intro u hu
  obtain ⟨j, hj, rfl⟩ := List.mem_iff_getElem.1 hu
  obtain ⟨i, c, _, _, _, e⟩ := pcells_at (List.getElem?_eq_getElem hj)
  rw [e]; exact pc_one _ _
theorem param_pc {w : World} {b o : Nat} {p : P3} (h : ParamAt w b o p) {c : Nat} (hc : c < 3) : w.cell? ⟨b, o + c, none⟩ = some (pc p c) := by
  match c, hc with
  | 0, _ => exact h.1
  | 1, _ => exact h.2.1
  | 2, _ => exact h.2.2
theorem param_of {w : World} {b o : Nat} {p : P3} (h : ∀ c, c < 3 → w.cell? ⟨b, o + c, none⟩ = some (pc p c)) : ParamAt w b o p := ⟨h 0 (by omega), h 1 (by omega), h 2 (by omega)⟩
/-- a nil slice is empty, without room. -/
def NilOk (v : Value) : Prop := ∀ len cap, v = .slice none len cap → len = 0 ∧ cap = 0
/-- a slice is no longer than its room. -/
def CapOk (v : Value) : Prop := ∀ a len cap, v = .slice a len cap → len ≤ cap ∧ cap ≤ maxLen
/-- v owns the params ps. -/
abbrev Owns (w : World) (B : Nat) (v : Value) (ps : List P3) : Prop := w.ownsRow B 40 3 v ps.length (pcells ps)
theorem owns_row {w : World} {B : Nat} {v : Value} {ps : List P3} (h : Owns w B v ps) : ParamRow w v ps ∧ NilOk v := by
  obtain ⟨_, ⟨rfl, h0⟩ | ⟨g, cap, cur, rfl, _, hg, hn, _, hs, hc⟩⟩ := h
  · exact ⟨.inl ⟨_, _, rfl, List.length_eq_zero_iff.1 h0⟩, fun len cap e => by cases e; exact ⟨rfl, rfl⟩⟩
  · refine ⟨?_, fun len cap e => by cases e⟩
    by_cases h0 : ps.length = 0
    · rw [h0]
      exact .inl ⟨_, _, rfl, List.length_eq_zero_iff.1 h0⟩
    · refine .inr ⟨g, 0, cap, rfl, (Array.getElem?_eq_some_iff.1 hg).1, by omega, fun j hj => param_of fun c hc' => ?_⟩
      have h1 := pcells_get ps j c hj hc'
      rw [← hc, List.getElem?_take] at h1
      split at h1
      · simp only [World.cell?, hg]
        have e : 0 + j * 3 + c = j * 3 + c := by omega
        rw [e]
        simpa using h1
      · cases h1

theorem Try.infoParams : (Try.prog.info? 40).map (fun i => (i.zero, i.size, i.bytes)) = some (some (.agg #[.int .i64 0, .int .i64 0, .int .i64 0]), 3, 24) := by kernel_rfl
theorem own_nil (w : World) (B : Nat) : Owns w B (.slice none 0 0) [] := ⟨rfl, .inl ⟨rfl, rfl⟩⟩
theorem own_empty {w : World} {B g : Nat} (hB : B ≤ g) (h : w.heap[g]? = some (.cells #[] 40 (0, 0))) : Owns w B (.slice (some ⟨g, 0, none⟩) 0 0) [] :=
  ⟨rfl, .inr ⟨g, 0, #[], rfl, hB, h, Nat.le_refl _, Nat.zero_le _, rfl, rfl⟩⟩

theorem cell_alloc {w : World} {o : Obj} {a : Addr} {v : Value} (h : w.cell? a = some v) : (w.alloc o).cell? a = some v := (World.cell?_alloc_lt w o a (World.block_lt_of_cell? w a h)).trans h
set_option maxHeartbeats 1000000 in
theorem clone_some (ad : Addr) (len cap : Nat) (ps : List P3) (w : World) (hlen : len = ps.length) (hl : ps.length ≤ 1000) (hc : ∀ j u, (pcells ps)[j]? = some u → w.cell? (ad.add j) = some u) :
    Calls Try.prog 28 #[.slice (some ad) len cap] w fun e w' => ∃ v', e = .returned v' ∧ Owns w' w.heap.size v' ps ∧ Below w.heap.size w w' := by
  subst hlen
  obtain ⟨i0, hi, hz0, hz1, hz2⟩ := info_parts Try.infoParams
  have HC := Lib.hid hc
  clear hc
  have hq : ∀ w : World, (binOp .eql 24 (.slice (some ad) ps.length cap) (.slice none 0 0)).run Try.prog w = .ok (.bool false) w := fun _ => rfl
  go_enter Try.func28, Try.ntmps28
  go_wp2_with (at_builtin; (refine wpList_append_own _ rfl _ _ 24 rfl w.heap.size 40 i0 (.agg #[.int .i64 0, .int .i64 0, .int .i64 0]) 3 24 Try.underlying24 hi hz0 hz1 hz2 rfl (by decide) _ 0 [] rfl (own_empty (Nat.le_refl _) (World.alloc_heap_new w _)) ad ps.length cap (pcells ps) rfl (pcells_length ps) (fun j u hj => cell_alloc (HC.out j u hj)) (pcells_one ps) (by unfold maxLen; omega) (by omega) (by simp) ?_); intro v' w1 hown hgrow _; simp only [Nat.zero_add, List.nil_append] at hown)
  go_ret
  refine ⟨_, rfl, hown, (bel_alloc (Below.refl w.heap.size w)).grown hgrow (by simp) (fun k e => by cases e; exact Nat.le_refl _)⟩
theorem clone_nil (w : World) : Calls Try.prog 28 #[.slice none 0 0] w fun e w' => e = .returned (.slice none 0 0) ∧ w' = w := by
  have hq : ∀ w : World, (binOp .eql 24 (.slice none 0 0) (.slice none 0 0)).run Try.prog w = .ok (.bool true) w := fun _ => rfl
  go_enter Try.func28, Try.ntmps28
  go_wp2_with fail
  go_ret
  exact ⟨rfl, rfl⟩
/-- the cells behind a slice's address. -/
theorem row_cells {w : World} {ad : Addr} {len cap : Nat} {ps : List P3} (h : ParamRow w (.slice (some ad) len cap) ps) : len = ps.length ∧ ∀ j u, (pcells ps)[j]? = some u → w.cell? (ad.add j) = some u := by
  rcases h with ⟨a, cap', e, rfl⟩ | ⟨b, off, cap', e, hlt, _, hc⟩
  · cases e
    exact ⟨rfl, fun j u hj => by simp [pcells] at hj⟩
  · cases e
    refine ⟨rfl, fun j u hj => ?_⟩
    obtain ⟨i, c, hi, hc', rfl, rfl⟩ := pcells_at hj
    have e1 : (Addr.mk b off none).add (i * 3 + c) = ⟨b, off + i * 3 + c, none⟩ := by
      rw [Nat.add_assoc]
      unfold Addr.add; split <;> simp_all
    rw [e1]
    exact param_pc (hc i hi) hc'
theorem clone_any (v : Value) (ps : List P3) (w : World) (h : ParamRow w v ps) (hn : NilOk v) (hl : ps.length ≤ 1000) :
    Calls Try.prog 28 #[v] w fun e w' => ∃ v', e = .returned v' ∧ Owns w' w.heap.size v' ps ∧ Below w.heap.size w w' := by
  have hs : ∃ a len cap, v = .slice a len cap := by rcases h with ⟨a, cap, rfl, _⟩ | ⟨b, off, cap, rfl, _⟩ <;> exact ⟨_, _, _, rfl⟩
  obtain ⟨a, len, cap, rfl⟩ := hs
  cases a with
  | none =>
    obtain ⟨rfl, rfl⟩ := hn _ _ rfl
    have e : ps = [] := by
      rcases h with ⟨_, _, _, rfl⟩ | ⟨b, off, cap', e, _⟩
      · rfl
      · cases e
    subst e
    exact (clone_nil w).mono fun e w' ⟨h1, h2⟩ => ⟨_, h1, own_nil _ _, by rw [h2]; exact Below.refl _ _⟩
  | some ad =>
    obtain ⟨h1, h2⟩ := row_cells h
    exact clone_some ad len cap ps w h1 hl h2

section
variable {H : Type} {enc : TypeId × Value → H} {P : Program} {w : World} {base : Nat} {spare : Nat → Bool} {held : Bool}
theorem open_nil {r : Reach} {b0 : Nat} {t e : TypeId} {v : Value} {d : DataW H} {p : List MemPlace} (ht : P.underlying t = some (.slice e)) (hv : Value.okWide P w r b0 t v) (h : DataW.Trod enc P w base spare held t v d p) : NilOk v := by
  obtain ⟨a0, len0, cap0, rfl⟩ := okWide_slice ht hv
  obtain ⟨fuel, hf⟩ := h
  intro len cap e
  rcases open_slice ht hf with ⟨hcs, _⟩ | ⟨a, len, cap, m, n, D, Pl, hcs, _⟩
  · simp [Value.cells] at hcs
    obtain ⟨rfl, rfl, rfl⟩ := hcs
    cases e
    exact ⟨rfl, rfl⟩
  · simp [Value.cells] at hcs
    obtain ⟨rfl, rfl, rfl⟩ := hcs
    cases e
theorem open_cap {r : Reach} {b0 : Nat} {t e : TypeId} {v : Value} {d : DataW H} {p : List MemPlace} (ht : P.underlying t = some (.slice e)) (hv : Value.okWide P w r b0 t v) (h : DataW.Trod enc P w base spare held t v d p) : CapOk v := by
  obtain ⟨a0, len0, cap0, rfl⟩ := okWide_slice ht hv
  obtain ⟨fuel, hf⟩ := h
  intro a len cap e
  rcases open_slice ht hf with ⟨hcs, _⟩ | ⟨a, len, cap, m, n, D, Pl, hcs, _, hl, hm, _⟩
  · simp [Value.cells] at hcs
    obtain ⟨rfl, rfl, rfl⟩ := hcs
    cases e
    exact ⟨Nat.le_refl _, Nat.zero_le _⟩
  · simp [Value.cells] at hcs
    obtain ⟨rfl, rfl, rfl⟩ := hcs
    cases e
    exact ⟨hl, hm⟩
theorem open_turn {r : Reach} {b0 : Nat} {t e : TypeId} {f0 f1 : Field} {fs : Array Field} {v : Value} {d : DataW H} {p : List MemPlace} (ht : P.underlying t = some (.struct #[f0, f1])) (he : P.underlying e = some (.struct fs)) (c4 : P.cellsOf t = 4)
    (h0 : f0.offset = 0 ∧ P.cellsOf f0.type = 1 ∧ P.underlying f0.type = some (.int .i64)) (h1 : f1.offset = 1 ∧ P.cellsOf f1.type = 3 ∧ f1.type = e)
    (hfs : ∀ j, j < 3 → ∃ f, fs[j]? = some f ∧ f.offset = j ∧ P.cellsOf f.type = 1 ∧ P.underlying f.type = some (.int .i64))
    (hv : Value.okWide P w r b0 t v) (h : DataW.Trod enc P w base spare held t v d p) :
    ∃ i q d t' : Int, v = .agg #[.int .i64 i, .int .i64 q, .int .i64 d, .int .i64 t'] ∧ (Lit.int .i64 i).wf = true ∧ (Lit.int .i64 q).wf = true ∧ (Lit.int .i64 d).wf = true ∧ (Lit.int .i64 t').wf = true := by
  obtain ⟨cs, rfl, hsz⟩ := okWide_struct ht hv
  obtain ⟨v0, v1, v2, v3, rfl⟩ := array4 (hsz.trans c4)
  obtain ⟨fuel, hf⟩ := h
  obtain ⟨xs, n, _, _, _, hxl, hg⟩ := DataW.trod_struct ht hf
  have g0 := hg 0 f0 rfl
  have g1 := hg 1 f1 rfl
  obtain ⟨o0, c0, u0⟩ := h0
  obtain ⟨o1, c1, e1⟩ := h1
  rw [o0, c0] at g0
  rw [o1, c1, e1] at g1
  simp [Value.cells] at g0 g1
  have l2 : xs.length = 2 := by simpa using hxl
  match xs, l2 with
  | [y0, y1], _ =>
    simp at g0 g1
    obtain ⟨i, e0, _, w0⟩ := DataW.trod_int u0 g0
    obtain ⟨ys, m, _, _, _, hyl, hg2⟩ := DataW.trod_struct he g1
    have each : ∀ j, j < 3 → ∃ z : Int, ([v1, v2, v3].drop j).take 1 = [.int .i64 z] ∧ (Lit.int .i64 z).wf = true := by
      intro j hj
      obtain ⟨f, hfj, ho, hc, hu⟩ := hfs j hj
      have h3 := hg2 j f hfj
      rw [ho, hc] at h3
      have hj' : j < ys.length := by
        have := (Array.getElem?_eq_some_iff.1 hfj).1
        omega
      rw [List.getElem?_eq_getElem hj'] at h3
      obtain ⟨z, h4, _, h5⟩ := DataW.trod_int hu h3
      exact ⟨z, h4, h5⟩
    obtain ⟨q, eq, wq⟩ := each 0 (by omega)
    obtain ⟨d, ed, wd⟩ := each 1 (by omega)
    obtain ⟨t', et, wt⟩ := each 2 (by omega)
    simp at e0 eq ed et
    subst e0 eq ed et
    exact ⟨i, q, d, t', rfl, w0, wq, wd, wt⟩
end
end Go.Proofs.Ytoagdaenbanhlaa
