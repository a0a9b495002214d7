/- slices.DeleteFunc of what is owed, at what is owed no more. slices.DeleteFunc of what is owed, at what is owed no more. Each theorem's premises are its conditions. -/
import Derived.Test.YtmcilmmnpolieaaK20
import Derived.Lib.SliceRun
/- slices.DeleteFunc of what is owed, at what is owed no more. Each theorem's premises are its conditions. -/
namespace Go.Proofs.Ytmcilmmnpolieaa
open Go.ChangeShapes Go.WideShapes Go.ChangeAt Go.RowKit

/-- the block g is a row of n things owed, f tells which; it has room for cap. -/
structure RowF (w : World) (g cap n : Nat) (f : Nat → Ow) : Prop where
  obj : ∃ cur, w.heap[g]? = some (.cells cur 56 (0, 0)) ∧ cur.size = cap * 5
  le : n ≤ cap
  max : cap ≤ maxLen
  row : ∀ t, t < n → OwAt w g (t * 5) (f t)
section
variable {w w' : World} {g cap n : Nat} {f : Nat → Ow}
theorem RowF.lt (h : RowF w g cap n f) : g < w.heap.size := by
  obtain ⟨cur, hg, _⟩ := h.obj
  exact (Array.getElem?_eq_some_iff.1 hg).1
theorem RowF.froz (h : RowF w g cap n f) (o : Nat) : w.frozen? ⟨g, o, none⟩ = false := by
  obtain ⟨cur, hg, _⟩ := h.obj
  simp [World.frozen?, hg]
theorem RowF.keep (h : RowF w g cap n f) (k : Same w w' g) : RowF w' g cap n f := by
  obtain ⟨cur, hg, hs⟩ := h.obj
  exact ⟨⟨cur, k.trans hg, hs⟩, h.le, h.max, fun t ht => (h.row t ht).same k⟩
theorem RowF.less (h : RowF w g cap n f) {m : Nat} (hm : m ≤ n) : RowF w g cap m f := ⟨h.obj, Nat.le_trans hm h.le, h.max, fun t ht => h.row t (by omega)⟩
theorem RowF.congr (h : RowF w g cap n f) {f' : Nat → Ow} (e : ∀ t, t < n → f' t = f t) : RowF w g cap n f' := ⟨h.obj, h.le, h.max, fun t ht => by rw [e t ht]; exact h.row t ht⟩
theorem RowF.of_own {l : List Ow} (h : OwnsO w (.slice (some ⟨g, 0, none⟩) l.length cap) l) : RowF w g cap l.length (fun t => l.getD t default) := by
  have hsh := owed_shape h
  obtain ⟨_, ⟨e, _⟩ | ⟨g', cap', cur, e, _, hg, hn, hm, hs, _⟩⟩ := h
  · cases e
  · cases e
    refine ⟨⟨cur, hg, hs⟩, hn, hm, ?_⟩
    rcases hsh with ⟨e, _⟩ | ⟨g2, cap2, e, _, _, _, hat⟩
    · cases e
    · cases e
      exact hat
theorem OwAt.oc {x : Ow} {o : Nat} (h : OwAt w g o x) {c : Nat} (hc : c < 5) : w.cell? ⟨g, o + c, none⟩ = some (oc x c) := by
  obtain ⟨h0, h1, h2, h3, h4⟩ := h
  match c, hc with
  | 0, _ => exact h0
  | 1, _ => exact h1
  | 2, _ => exact h2
  | 3, _ => exact h3
  | 4, _ => exact h4
theorem RowF.own {l : List Ow} (h : RowF w g cap l.length (fun t => l.getD t default)) : OwnsO w (.slice (some ⟨g, 0, none⟩) l.length cap) l := by
  obtain ⟨cur, hg, hs⟩ := h.obj
  refine ⟨ocells_length l, .inr ⟨g, cap, cur, rfl, Nat.zero_le _, hg, h.le, h.max, hs, ?_⟩⟩
  have hle : l.length * 5 ≤ cur.size := by have := h.le; omega
  apply List.ext_getElem?
  intro j
  rw [List.getElem?_take]
  split
  · rename_i hj
    have h1 := (h.row (j / 5) (by omega)).oc (c := j % 5) (by omega)
    rw [show j / 5 * 5 + j % 5 = j by omega] at h1
    have h2 := ocells_get l (j / 5) (j % 5) (by omega) (by omega)
    rw [show j / 5 * 5 + j % 5 = j by omega] at h2
    rw [h2, ← h1]
    simp [World.cell?, hg]
  · rename_i hj
    rw [List.getElem?_eq_none (by rw [ocells_length]; omega)]
theorem setCell_obj {cur : Array Value} {t : TypeId} {fr : Nat × Nat} (hg : w.heap[g]? = some (.cells cur t fr)) (o : Nat) (v : Value) : (w.setCell ⟨g, o, none⟩ v).heap[g]? = some (.cells (cur.setIfInBounds o v) t fr) := by
  simp only [World.setCell]
  rw [Array.getElem?_modify, if_pos rfl, hg]
  rfl
theorem obj_set {t : TypeId} {s : Nat} (h : ∃ cur, w.heap[g]? = some (.cells cur t (0, 0)) ∧ cur.size = s) (o : Nat) (v : Value) : ∃ cur, (w.setCell ⟨g, o, none⟩ v).heap[g]? = some (.cells cur t (0, 0)) ∧ cur.size = s := by
  obtain ⟨cur, hg, hs⟩ := h
  exact ⟨_, setCell_obj hg o v, by simpa using hs⟩
/-- a thing owed is stored at o. -/
def stored5 (w : World) (g o : Nat) (x : Ow) : World := ((((w.setCell ⟨g, o, none⟩ (.int .i64 x.id)).setCell ⟨g, o + 1, none⟩ (.int .i64 x.till)).setCell ⟨g, o + 2, none⟩ (.int .i64 x.p.1)).setCell ⟨g, o + 3, none⟩ (.int .i64 x.p.2.1)).setCell ⟨g, o + 4, none⟩ (.int .i64 x.p.2.2)
theorem stored5_other {o o' : Nat} {x y : Ow} (h : OwAt w g o' y) (hd : o' + 5 ≤ o ∨ o + 5 ≤ o') : OwAt (stored5 w g o x) g o' y := by
  obtain ⟨h0, h1, h2, h3, h4⟩ := h
  unfold stored5
  have k : ∀ j, j < 5 → ∀ i, i < 5 → o' + j ≠ o + i := fun j _ i _ => by omega
  refine ⟨?_, ?_, ?_, ?_, ?_⟩
  · rw [set_other (by omega), set_other (by omega), set_other (by omega), set_other (by omega), set_other (by omega)]; exact h0
  · rw [set_other (by omega), set_other (by omega), set_other (by omega), set_other (by omega), set_other (by omega)]; exact h1
  · rw [set_other (by omega), set_other (by omega), set_other (by omega), set_other (by omega), set_other (by omega)]; exact h2
  · rw [set_other (by omega), set_other (by omega), set_other (by omega), set_other (by omega), set_other (by omega)]; exact h3
  · rw [set_other (by omega), set_other (by omega), set_other (by omega), set_other (by omega), set_other (by omega)]; exact h4
theorem stored5_same {o : Nat} {x y : Ow} (h : OwAt w g o y) : OwAt (stored5 w g o x) g o x := by
  obtain ⟨h0, h1, h2, h3, h4⟩ := h
  unfold stored5
  refine ⟨?_, ?_, ?_, ?_, ?_⟩
  · rw [set_other (by omega), set_other (by omega), set_other (by omega), set_other (by omega)]; exact World.cell?_setCell_same _ _ _ h0
  · rw [set_other (by omega), set_other (by omega), set_other (by omega)]; exact World.cell?_setCell_same _ _ _ ((set_other (by omega)).trans h1)
  · rw [set_other (by omega), set_other (by omega)]; exact World.cell?_setCell_same _ _ _ ((set_other (by omega)).trans ((set_other (by omega)).trans h2))
  · rw [set_other (by omega)]; exact World.cell?_setCell_same _ _ _ ((set_other (by omega)).trans ((set_other (by omega)).trans ((set_other (by omega)).trans h3)))
  · exact World.cell?_setCell_same _ _ _ ((set_other (by omega)).trans ((set_other (by omega)).trans ((set_other (by omega)).trans ((set_other (by omega)).trans h4))))
theorem RowF.set (h : RowF w g cap n f) {i : Nat} (hi : i < n) (x : Ow) : RowF (stored5 w g (i * 5) x) g cap n (upd f i x) := by
  refine ⟨obj_set (obj_set (obj_set (obj_set (obj_set h.obj _ _) _ _) _ _) _ _) _ _, h.le, h.max, fun t ht => ?_⟩
  by_cases e : t = i
  · subst e; rw [upd_self]; exact stored5_same (h.row t ht)
  · rw [upd_ne _ _ _ e]; exact stored5_other (h.row t ht) (by omega)
theorem stored5_only {S : Nat → Prop} {w0 : World} (h : Only w0 w S) (hg : S g) (o : Nat) (x : Ow) : Only w0 (stored5 w g o x) S :=
  (((((h.set (.inl hg) _).set (.inl hg) _).set (.inl hg) _).set (.inl hg) _).set (.inl hg) _)
/-- many cells of one block. -/
theorem setCells_obj {t : TypeId} {s : Nat} : ∀ (vs : List Value) (o : Nat) (w : World), (∃ cur, w.heap[g]? = some (.cells cur t (0, 0)) ∧ cur.size = s) → ∃ cur, (w.setCells g o vs).heap[g]? = some (.cells cur t (0, 0)) ∧ cur.size = s
  | [], _, _, h => h
  | v :: r, o, _, h => setCells_obj r (o + 1) _ (obj_set h o v)
theorem setCells_only {S : Nat → Prop} {w0 : World} (hg : S g) : ∀ (vs : List Value) (o : Nat) (w : World), Only w0 w S → Only w0 (w.setCells g o vs) S
  | [], _, _, h => h
  | v :: r, o, _, h => setCells_only hg r (o + 1) _ (h.set (.inl hg) v)
theorem RowF.clear (h : RowF w g cap n f) {i : Nat} (hi : i ≤ n) (vs : List Value) : RowF (w.setCells g (i * 5) vs) g cap i f := by
  refine ⟨setCells_obj vs _ w h.obj, Nat.le_trans hi h.le, h.max, fun t ht => ?_⟩
  obtain ⟨h0, h1, h2, h3, h4⟩ := h.row t (by omega)
  have k : ∀ j, j < 5 → (w.setCells g (i * 5) vs).cell? ⟨g, t * 5 + j, none⟩ = w.cell? ⟨g, t * 5 + j, none⟩ := fun j hj => World.cell?_setCells_out g vs (i * 5) w ⟨g, t * 5 + j, none⟩ (fun _ _ => .inl (by simp only; omega))
  exact ⟨(k 0 (by omega)).trans h0, (k 1 (by omega)).trans h1, (k 2 (by omega)).trans h2, (k 3 (by omega)).trans h3, (k 4 (by omega)).trans h4⟩
end
/-! ### clear -/
theorem zero5 (n : Nat) : ((Builtin.zeroCells #[.int .i64 0, .int .i64 0, .int .i64 0, .int .i64 0, .int .i64 0] n).toList).length = n * 5 ∧ ∀ v ∈ (Builtin.zeroCells #[.int .i64 0, .int .i64 0, .int .i64 0, .int .i64 0, .int .i64 0] n).toList, v.oneCell' = true := by
  constructor
  · simp [Builtin.zeroCells]
  · intro v hv
    simp only [Builtin.zeroCells, Array.toList_map, List.mem_map] at hv
    obtain ⟨i, _, rfl⟩ := hv
    have h5 : i % 5 = 0 ∨ i % 5 = 1 ∨ i % 5 = 2 ∨ i % 5 = 3 ∨ i % 5 = 4 := by omega
    show Value.oneCell' (#[Value.int .i64 0, .int .i64 0, .int .i64 0, .int .i64 0, .int .i64 0][i % 5]!) = true
    rcases h5 with h | h | h | h | h <;> rw [h] <;> rfl
theorem run_clear5 (w : World) (ty : TypeId) {g cap n : Nat} {f : Nat → Ow} (h : RowF w g cap n f) (i c : Nat) (hi : i < n) :
    (Builtin.clear_ #[44] ty #[.slice (some ⟨g, i * 5, none⟩) (n - i) c]).run Try.prog w = .ok (.tuple #[]) (w.setCells g (i * 5) (Builtin.zeroCells #[.int .i64 0, .int .i64 0, .int .i64 0, .int .i64 0, .int .i64 0] (n - i)).toList) := by
  obtain ⟨hl, h1⟩ := zero5 (n - i)
  have hc : ∀ j, j < (n - i) * 5 → (w.cell? ⟨g, i * 5 + j, none⟩).isSome = true := fun j hj => by
    have := (h.row (i + j / 5) (by omega)).oc (c := j % 5) (by omega)
    rw [show (i + j / 5) * 5 + j % 5 = i * 5 + j by omega] at this
    rw [this]; rfl
  have hst := run_storeCells_cells (P := Try.prog) g (i * 5) _ 0 w (by rw [hl]; intro j hj; simpa using hc j hj) (by intro j _; simpa using h.froz _) h1
  simp only [Nat.add_zero] at hst
  obtain ⟨m, hm⟩ : ∃ m, n - i = m + 1 := ⟨n - i - 1, by omega⟩
  rw [hm] at hst ⊢
  simp [Builtin.clear_, run_underlying Try.underlying44, Try.zeroValue56, Value.cells, hst]
end Go.Proofs.Ytmcilmmnpolieaa
/- slices.DeleteFunc of what is owed, at what is owed no more. Each theorem's premises are its conditions. -/
namespace Go.Proofs.Ytmcilmmnpolieaa
open Go.ChangeShapes Go.WideShapes Go.ChangeAt Go.RowKit

def ovalO (x : Ow) : Value := .agg #[.int .i64 x.id, .int .i64 x.till, .int .i64 x.p.1, .int .i64 x.p.2.1, .int .i64 x.p.2.2]
def past (now : Int) (x : Ow) : Bool := decide (x.till ≤ now)
theorem past_any (x : Ow) (now : Int) (B : Nat) (w : World) (h : w.cell? ⟨B, 0, none⟩ = some (.int .i64 now)) :
    Calls Try.prog 36 #[ovalO x, .pointer (some ⟨B, 0, none⟩)] w (Gives (.bool (past now x)) w) := by
  unfold ovalO past
  have hB := cell_lt h
  have hne : B ≠ w.heap.size := by omega
  go_enter Try.func36, Try.ntmps36
  go_wp2_with fail
  go_ret
  exact ⟨rfl, by (repeat (first | with_reducible refine bel_alloc ?_ | with_reducible refine bel_drew ?_)); exact Below.refl _ _⟩
/-- the first one that is owed no more. -/
def firstPast (now : Int) (f : Nat → Ow) : Nat → Option Nat
  | 0 => none
  | n + 1 => match firstPast now f n with
    | some k => some k
    | none => if past now (f n) = true then some n else none
def idxI (o : Option Nat) : Int := match o with
  | some k => k
  | none => -1
theorem firstPast_none {now : Int} {f : Nat → Ow} : ∀ {n : Nat}, firstPast now f n = none → ∀ t, t < n → past now (f t) = false
  | 0, _, t, ht => absurd ht (Nat.not_lt_zero _)
  | n + 1, h, t, ht => by
    unfold firstPast at h
    split at h
    · cases h
    · rename_i h1
      split at h
      · cases h
      · rename_i h2
        by_cases e : t = n
        · subst e; simpa using h2
        · exact firstPast_none h1 t (by omega)
theorem firstPast_some {now : Int} {f : Nat → Ow} : ∀ {n k : Nat}, firstPast now f n = some k → k < n ∧ past now (f k) = true ∧ firstPast now f k = none
  | 0, k, h => by cases h
  | n + 1, k, h => by
    unfold firstPast at h
    split at h
    · rename_i k' h1
      cases h
      obtain ⟨a, b, c⟩ := firstPast_some h1
      exact ⟨by omega, b, c⟩
    · rename_i h1
      split at h
      · rename_i h2
        cases h
        exact ⟨by omega, h2, h1⟩
      · cases h
set_option maxHeartbeats 1000000 in
theorem index5 (B g cap n : Nat) (f : Nat → Ow) (now : Int) (w : World) (R : RowF w g cap n f) (hn : n ≤ 100000) (hB : w.cell? ⟨B, 0, none⟩ = some (.int .i64 now)) :
    Calls Try.prog 53 #[.slice (some ⟨g, 0, none⟩) n cap, .func (.func 36) #[] #[.pointer (some ⟨B, 0, none⟩)]] w (Gives (.int .i64 (idxI (firstPast now f n))) w) := by
  have C := Lib.hid (fun (x : Ow) W (k : Below w.heap.size w W) => past_any x now B W ((k.cell (cell_lt hB)).trans hB))
  have HR := Lib.hid (fun W (k : Below w.heap.size w W) t (ht : t < n) => (R.row t ht).same (k.block g R.lt))
  have hg := R.lt
  have hcap := R.le
  clear R hB
  go_enter Try.func53, Try.ntmps53
  go_wp2_with fail
  go_loopg [8] n (fun kx s8 wr => ∃ k : Nat, s8 = .int .i64 k ∧ k ≤ n ∧ n - k ≤ kx ∧ Hid (Below w.heap.size w wr ∧ firstPast now f k = none))
  case atStart => exact ⟨0, rfl, by omega, by omega, Below.refl _ _, rfl⟩
  case round =>
    obtain ⟨k, rfl, hk, hkx, HI⟩ := hrel
    by_cases hlt : k < n
    · have hltz : (k : Int) < (n : Int) := by omega
      obtain ⟨o0, o1, o2, o3, o4⟩ := HR.out wr HI.out.1 k hlt
      have lg : g < wr.heap.size := by have := HI.out.1.size; omega
      have C1 := C.out (f k) wr HI.out.1
      have hfs : Hid (firstPast now f (k + 1) = if past now (f k) = true then some k else none) := by show _ = _; rw [firstPast, HI.out.2]
      have HL : Hid (∀ k' : Nat, firstPast now f (k + 1) = some k' → firstPast now f n = some k') := fun k' h => by
        have mono : ∀ m, k + 1 ≤ m → firstPast now f m = some k' := fun m hm => by
          induction m with
          | zero => omega
          | succ m ih =>
            by_cases e : k + 1 = m + 1
            · rw [← e]; exact h
            · unfold firstPast; rw [ih (by omega)]
        exact mono n hlt
      unfold ovalO at C1
      generalize f k = x at *
      obtain ⟨x1, x2, p1, p2, p3⟩ := x
      simp only at o0 o1 o2 o3 o4 C1
      generalize past now ⟨x1, x2, p1, p2, p3⟩ = b at *
      have HC := Lib.hid C1
      clear C1
      cases b with
      | true =>
        go_wp2_with fail
        refine HC.out.mono ?_
        rintro e w2 ⟨rfl, b2⟩
        go_wp2_with fail
        go_ret
        exact ⟨ret1 (by rw [HL.out k (by rw [hfs.out]; rfl)]; rfl), bel_end HI.out.1 b2⟩
      | false =>
        go_wp2_with fail
        refine HC.out.mono ?_
        rintro e w2 ⟨rfl, b2⟩
        have HB := Lib.hid (bel_end HI.out.1 b2)
        clear b2
        go_wp2_with fail
        go_roundg (n - (k + 1))
        case measure => omega
        case rel => exact ⟨k + 1, by first | rfl | (congr 1; done) | (congr 1; omega) | (simp; omega), by omega, Nat.le_refl _, HB.out, by rw [hfs.out]; rfl⟩
    · obtain rfl : k = n := by omega
      have hge : ¬ (k : Int) < (k : Int) := by omega
      go_wp2_with fail
      go_ret
      exact ⟨ret1 (by rw [HI.out.2]; rfl), HI.out.1⟩
/-- what is owed yet. -/
def keepL (now : Int) (l : List Ow) : List Ow := l.filter fun o => !past now o
theorem keep_snoc (now : Int) (l : List Ow) (x : Ow) : keepL now (l ++ [x]) = keepL now l ++ (if past now x = true then [] else [x]) := by
  unfold keepL
  rw [List.filter_append]
  cases h : past now x <;> simp [h]
theorem keep_all {now : Int} {l : List Ow} (h : ∀ t, t < l.length → past now (l.getD t default) = false) : keepL now l = l := by
  unfold keepL
  rw [List.filter_eq_self]
  intro x hx
  obtain ⟨t, ht, rfl⟩ := List.mem_iff_getElem.1 hx
  have := h t ht
  simp only [List.getD, List.getElem?_eq_getElem ht, Option.getD_some] at this
  rw [this]; rfl
theorem keep_le (now : Int) (l : List Ow) : (keepL now l).length ≤ l.length := List.length_filter_le _ _
/-- how far the loop is: j read, i kept. -/
structure Mid (w : World) (g cap : Nat) (l : List Ow) (now : Int) (i j : Nat) (f : Nat → Ow) (wr : World) : Prop where
  row : RowF wr g cap l.length f
  len : i = (keepL now (l.take j)).length
  low : ∀ t, t < i → f t = (keepL now (l.take j)).getD t default
  high : ∀ t, j ≤ t → f t = l.getD t default
  only : Only w wr (· = g)
theorem Mid.skip {w wr w2 : World} {g cap i j : Nat} {l : List Ow} {now : Int} {f : Nat → Ow} (h : Mid w g cap l now i j f wr) (k : Below wr.heap.size wr w2) (hj : j < l.length) (hp : past now (l.getD j default) = true) : Mid w g cap l now i (j + 1) f w2 := by
  have e : keepL now (l.take (j + 1)) = keepL now (l.take j) := by rw [owed_take hj, keep_snoc, if_pos hp, List.append_nil]
  exact ⟨h.row.keep (k.block g h.row.lt), by rw [e]; exact h.len, by rw [e]; exact h.low, fun t ht => h.high t (by omega), h.only.trans (Only.of_below k) fun _ ht _ => ht⟩
theorem Mid.put {w wr w2 : World} {g cap i j : Nat} {l : List Ow} {now : Int} {f : Nat → Ow} (h : Mid w g cap l now i j f wr) (k : Below wr.heap.size wr w2) (hij : i < j) (hj : j < l.length) (hp : past now (l.getD j default) = false) : Mid w g cap l now (i + 1) (j + 1) (upd f i (l.getD j default)) (stored5 w2 g (i * 5) (l.getD j default)) := by
  have e : keepL now (l.take (j + 1)) = keepL now (l.take j) ++ [l.getD j default] := by rw [owed_take hj, keep_snoc, if_neg (by rw [hp]; simp)]
  have hl := h.len
  refine ⟨(h.row.keep (k.block g h.row.lt)).set (by omega) _, by rw [e, List.length_append, ← hl]; rfl, fun t ht => ?_, fun t ht => by rw [upd_ne _ _ _ (by omega)]; exact h.high t (by omega), stored5_only (h.only.trans (Only.of_below k) fun _ ht _ => ht) rfl _ _⟩
  rw [e]
  by_cases ht2 : t = i
  · rw [ht2, upd_self]
    simp only [List.getD]
    rw [List.getElem?_append_right (by omega), ← hl, Nat.sub_self]
    rfl
  · rw [upd_ne _ _ _ ht2, h.low t (by omega)]
    simp only [List.getD]
    rw [List.getElem?_append_left (by omega)]
set_option maxHeartbeats 2000000 in
set_option maxRecDepth 100000 in
theorem delete_some (B g cap : Nat) (l : List Ow) (now : Int) (w : World) (R : RowF w g cap l.length (fun t => l.getD t default)) (hn : l.length ≤ 100000) (hB : w.cell? ⟨B, 0, none⟩ = some (.int .i64 now)) (hne : B ≠ g) :
    Calls Try.prog 35 #[.slice (some ⟨g, 0, none⟩) l.length cap, .func (.func 36) #[] #[.pointer (some ⟨B, 0, none⟩)]] w
      fun e w' => e = .returned (.slice (some ⟨g, 0, none⟩) (keepL now l).length cap) ∧ RowF w' g cap (keepL now l).length (fun t => (keepL now l).getD t default) ∧ Only w w' (· = g) := by
  have I := Lib.hid (index5 B g cap l.length _ now w R hn hB)
  have hcap := R.le
  have hg := R.lt
  have C := Lib.hid (fun (x : Ow) W (k : Only w W (· = g)) => past_any x now B W ((World.cell?_of_block (k.block B (cell_lt hB) hne)).trans hB))
  have HR := Lib.hid R
  cases hfp : firstPast now (fun t => l.getD t default) l.length with
  | none =>
    rw [hfp] at I
    have e1 : keepL now l = l := keep_all (firstPast_none hfp)
    rw [e1]
    unfold idxI at I
    clear R hB hfp e1
    go_enter Try.func35, Try.ntmps35
    go_wp2_with fail
    refine I.out.mono ?_
    rintro e w1 ⟨rfl, b1⟩
    go_wp2_with fail
    go_ret
    exact ⟨rfl, HR.out.keep (b1.block g hg), Only.of_below b1⟩
  | some k0 =>
    rw [hfp] at I
    obtain ⟨hk0, hpk, hnk⟩ := firstPast_some hfp
    unfold idxI at I
    simp only at I hpk
    have e0 : keepL now (l.take k0) = l.take k0 := keep_all fun t ht => by
      rw [List.length_take] at ht
      have := firstPast_none hnk t (by omega)
      simp only [List.getD] at this ⊢
      rw [List.getElem?_take, if_pos (by omega)]
      exact this
    have hM : Hid (∀ w1, Below w.heap.size w w1 → Mid w g cap l now k0 (k0 + 1) (fun t => l.getD t default) w1) := fun w1 b1 =>
      (⟨R.keep (b1.block g R.lt), by rw [e0, List.length_take]; omega, fun t ht => by
        rw [e0]
        simp only [List.getD]
        rw [List.getElem?_take, if_pos ht], fun _ _ => rfl, Only.of_below b1⟩ : Mid w g cap l now k0 k0 (fun t => l.getD t default) w1).skip (Below.refl _ _) hk0 hpk
    have d1 : ((k0 : Int) == -1) = false := by rw [beq_eq_false_iff_ne]; omega
    clear R hB hfp hpk hnk e0
    go_enter Try.func35, Try.ntmps35
    go_wp2_with fail
    refine I.out.mono ?_
    rintro e w1 ⟨rfl, b1⟩
    have HM1 := Lib.hid (hM.out w1 b1)
    clear b1 hM I
    go_wp2_with fail
    go_loopg [5, 6] l.length (fun kx s5 s6 wr => ∃ (i j : Nat) (f : Nat → Ow), s5 = .int .i64 i ∧ s6 = .int .i64 j ∧ i < j ∧ j ≤ l.length ∧ l.length - j ≤ kx ∧ Hid (Mid w g cap l now i j f wr))
    case atStart => exact ⟨k0, k0 + 1, _, rfl, by first | rfl | (congr 1; omega) | simp, by omega, by omega, by omega, HM1.out⟩
    case round =>
      clear HM1
      obtain ⟨i, j, f, rfl, rfl, hij, hj, hkx, HM⟩ := hrel
      have lg : g < wr.heap.size := HM.out.row.lt
      by_cases hlt : j < l.length
      · have hltz : (j : Int) < (l.length : Int) := by omega
        have hiz : (i : Int) < (l.length : Int) := by omega
        obtain ⟨o0, o1, o2, o3, o4⟩ := HM.out.row.row j hlt
        rw [HM.out.high j (Nat.le_refl _)] at o0 o1 o2 o3 o4
        have hx : Hid (l.getD j default = l.getD j default) := rfl
        obtain ⟨x, hxe⟩ : ∃ x, x = l.getD j default := ⟨_, rfl⟩
        rw [← hxe] at o0 o1 o2 o3 o4
        have HX := Lib.hid hxe
        have BB : Below wr.heap.size wr (wr.alloc (.cells #[.int .i64 x.id, .int .i64 x.till, .int .i64 x.p.1, .int .i64 x.p.2.1, .int .i64 x.p.2.2] 56)) := bel_alloc (Below.refl _ _)
        have C1 := C.out x _ (HM.out.only.trans (Only.of_below (S := fun _ => False) BB) fun _ h _ => h.elim)
        unfold ovalO at C1
        obtain ⟨x1, x2, p1, p2, p3⟩ := x
        simp only at o0 o1 o2 o3 o4 C1
        have HBB := Lib.hid BB
        clear BB hxe hx
        cases hb : past now ⟨x1, x2, p1, p2, p3⟩ with
        | true =>
          rw [hb] at C1
          have HC := Lib.hid C1
          have HP : Hid (past now (l.getD j default) = true) := by show _ = _; rw [← HX.out]; exact hb
          clear C1 hb
          go_wp2_with fail
          refine HC.out.mono ?_
          rintro e w2 ⟨rfl, b2⟩
          have HM2 := Lib.hid (HM.out.skip (bel_end HBB.out b2) hlt HP.out)
          clear b2
          go_wp2_with fail
          go_roundg (l.length - (j + 1))
          case measure => omega
          case rel => exact ⟨i, j + 1, f, rfl, by first | rfl | (congr 1; done) | (congr 1; omega) | (simp; omega), by omega, by omega, Nat.le_refl _, HM2.out⟩
        | false =>
          rw [hb] at C1
          have HC := Lib.hid C1
          have HP : Hid (past now (l.getD j default) = false) := by show _ = _; rw [← HX.out]; exact hb
          clear C1 hb
          go_wp2_with fail
          refine HC.out.mono ?_
          rintro e w2 ⟨rfl, b2⟩
          have hb2 := bel_end HBB.out b2
          have hM2 := HM.out.put hb2 hij hlt HP.out
          rw [← HX.out] at hM2
          unfold stored5 at hM2
          simp only at hM2
          have HM2 := Lib.hid hM2
          have q0 := (b2.cell (p := ⟨wr.heap.size, 0, none⟩) (by simp)).trans (show _ = some (Value.int .i64 x1) by go_simp)
          have q1 := (b2.cell (p := ⟨wr.heap.size, 1, none⟩) (by simp)).trans (show _ = some (Value.int .i64 x2) by go_simp)
          have q2 := (b2.cell (p := ⟨wr.heap.size, 2, none⟩) (by simp)).trans (show _ = some (Value.int .i64 p1) by go_simp)
          have q3 := (b2.cell (p := ⟨wr.heap.size, 3, none⟩) (by simp)).trans (show _ = some (Value.int .i64 p2) by go_simp)
          have q4 := (b2.cell (p := ⟨wr.heap.size, 4, none⟩) (by simp)).trans (show _ = some (Value.int .i64 p3) by go_simp)
          have lq : wr.heap.size < w2.heap.size := cell_lt q0
          have R2 := HM.out.row.keep (hb2.block g lg)
          have lg2 := R2.lt
          have f0 := R2.froz (i * 5)
          have f1 := R2.froz (i * 5 + 1)
          have f2 := R2.froz (i * 5 + 2)
          have f3 := R2.froz (i * 5 + 3)
          have f4 := R2.froz (i * 5 + 4)
          obtain ⟨r0, r1, r2, r3, r4⟩ := R2.row i (by omega)
          clear b2 hb2 hM2 R2 o0 o1 o2 o3 o4
          go_wp2_with fail
          go_roundg (l.length - (j + 1))
          case measure => omega
          case rel => exact ⟨i + 1, j + 1, _, by first | rfl | (congr 1; done) | (congr 1; omega) | (simp; omega), by first | rfl | (congr 1; done) | (congr 1; omega) | (simp; omega), by omega, by omega, Nat.le_refl _, HM2.out⟩
      · obtain rfl : j = l.length := by omega
        have hge : ¬ (l.length : Int) < (l.length : Int) := by omega
        have hcl := fun ty => run_clear5 wr ty HM.out.row i (cap - i) (by omega)
        have hi1 : (i : Int) ≤ (l.length : Int) := by omega
        have hi2 : (i : Int) ≤ (cap : Int) := by omega
        have hic : ¬ cap = i := by omega
        have hlc : (l.length : Int) ≤ (cap : Int) := by omega
        have HF : Hid (RowF (wr.setCells g (i * 5) (Builtin.zeroCells #[.int .i64 0, .int .i64 0, .int .i64 0, .int .i64 0, .int .i64 0] (l.length - i)).toList) g cap (keepL now l).length (fun t => (keepL now l).getD t default) ∧ i = (keepL now l).length) := by
          have hl := HM.out.len
          have hlo := HM.out.low
          rw [List.take_length] at hl hlo
          refine ⟨?_, hl⟩
          rw [← hl]
          exact (HM.out.row.clear (by omega) _).congr fun t ht => (hlo t ht).symm
        have HO := Lib.hid (HM.out.only)
        go_wp2_with fail
        go_ret
        exact ⟨ret1 (by rw [← HF.out.2]; rfl), HF.out.1, setCells_only (S := (· = g)) rfl _ _ _ HO.out⟩
theorem index_nil (fv : Value) (w : World) : Calls Try.prog 53 #[.slice none 0 0, fv] w fun e w' => e = .returned (.int .i64 (-1)) ∧ w' = w := by
  go_enter Try.func53, Try.ntmps53
  go_wp2_with fail
  refine wp_loop_rounds 1 ?_
  rw [rounds_succ]
  go_wp2_with fail
  go_ret
  exact ⟨rfl, rfl⟩
theorem delete_nil (fv : Value) (w : World) : Calls Try.prog 35 #[.slice none 0 0, fv] w fun e w' => e = .returned (.slice none 0 0) ∧ w' = w := by
  go_enter Try.func35, Try.ntmps35
  go_wp2_with fail
  refine (index_nil fv w).mono ?_
  rintro e w1 ⟨rfl, hw1⟩
  obtain rfl := hw1.symm
  go_wp2_with fail
  go_ret
  exact ⟨rfl, rfl⟩
theorem delete_any (B : Nat) (v : Value) (l : List Ow) (now : Int) (w : World) (h : OwnsO w v l) (hn : l.length ≤ 100000) (hB : w.cell? ⟨B, 0, none⟩ = some (.int .i64 now)) (hne : ∀ k, v.ownBlock = some k → B ≠ k) :
    Calls Try.prog 35 #[v, .func (.func 36) #[] #[.pointer (some ⟨B, 0, none⟩)]] w
      fun e w' => ∃ a cap, e = .returned (.slice a (keepL now l).length cap) ∧ OwnsO w' (.slice a (keepL now l).length cap) (keepL now l) ∧ (∀ k, (Value.slice a (keepL now l).length cap).ownBlock = some k → v.ownBlock = some k) ∧ Only w w' fun k => v.ownBlock = some k := by
  rcases owed_shape h with ⟨rfl, rfl⟩ | ⟨g, cap, rfl, _⟩
  · exact (delete_nil _ w).mono fun e w' ⟨h1, h2⟩ => ⟨none, 0, h1, by rw [h2]; exact h, fun k hk => hk, by rw [h2]; exact Only.refl _ _⟩
  · refine (delete_some B g cap l now w (RowF.of_own h) hn hB (hne g rfl)).mono ?_
    rintro e w' ⟨h1, h2, h3⟩
    exact ⟨_, cap, h1, h2.own, fun k hk => hk, h3.trans (Only.refl _ (fun _ => False)) (fun _ h _ => h.elim) |> fun o => ⟨o.os, o.tape, o.output, o.size, fun k hk hs => o.block k hk (fun e => hs (by rw [e]; rfl))⟩⟩
end Go.Proofs.Ytmcilmmnpolieaa
