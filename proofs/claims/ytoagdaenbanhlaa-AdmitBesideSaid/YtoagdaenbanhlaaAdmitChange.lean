/- What admit.Change answers of any rule, any number, any params and any slice of params (up to 1000). Each theorem's premises are its conditions. -/
import Derived.Test.YtoagdaenbanhlaaAdmitLaws
import Derived.Test.YtoagdaenbanhlaaParamOwn
namespace Go.Proofs.Ytoagdaenbanhlaa
open Go.ChangeShapes Go.WideShapes Go.ChangeAt Go.RowKit Go.Deep

theorem pcells_take {ps : List P3} {i j : Nat} {u : Value} (h : (pcells (ps.take i))[j]? = some u) : (pcells ps)[j]? = some u := by
  have e : pcells ps = pcells (ps.take i) ++ pcells (ps.drop i) := by rw [← pcells_append, List.take_append_drop]
  rw [e, List.getElem?_append_left (List.getElem?_eq_some_iff.1 h).1]
  exact h
theorem pcells_drop {ps : List P3} {i j : Nat} {u : Value} (hi : i ≤ ps.length) (h : (pcells (ps.drop i))[j]? = some u) : (pcells ps)[i * 3 + j]? = some u := by
  have e : pcells ps = pcells (ps.take i) ++ pcells (ps.drop i) := by rw [← pcells_append, List.take_append_drop]
  have l : (pcells (ps.take i)).length = i * 3 := by rw [pcells_length, List.length_take, Nat.min_eq_left hi]
  rw [e, List.getElem?_append_right (by omega), l, Nat.add_sub_cancel_left]
  exact h
theorem own_block {w : World} {B : Nat} {v : Value} {ps : List P3} (h : Owns w B v ps) : ∀ k, v.ownBlock = some k → B ≤ k := by
  obtain ⟨_, ⟨rfl, _⟩ | ⟨g, cap, cur, rfl, hB, _⟩⟩ := h
  · intro k e; cases e
  · intro k e; cases e; exact hB
theorem tail_cell {w : World} {b off i : Nat} {ps : List P3} (h : ∀ j u, (pcells ps)[j]? = some u → w.cell? ((⟨b, off, none⟩ : Addr).add j) = some u) (hi : i ≤ ps.length) {j : Nat} {u : Value} (hj : (pcells (ps.drop i))[j]? = some u) : w.cell? ((⟨b, off + i * 3, none⟩ : Addr).add j) = some u := by
  have h1 := h _ _ (pcells_drop hi hj)
  have e : (⟨b, off + i * 3, none⟩ : Addr).add j = (⟨b, off, none⟩ : Addr).add (i * 3 + j) := by
    unfold Addr.add; split <;> split <;> simp_all <;> omega
  rw [e]
  exact h1
/-- what a row that a function owns is like, if it is not empty. -/
theorem own_shape {w : World} {B : Nat} {v : Value} {ps : List P3} (h : Owns w B v ps) (h0 : 0 < ps.length) : ∃ g cap, v = .slice (some ⟨g, 0, none⟩) ps.length cap ∧ B ≤ g ∧ g < w.heap.size ∧
    ∀ j, j < ps.length → ParamAt w g (j * 3) (ps.getD j p0) ∧ w.frozen? ⟨g, j * 3, none⟩ = false ∧ w.frozen? ⟨g, j * 3 + 1, none⟩ = false ∧ w.frozen? ⟨g, j * 3 + 2, none⟩ = false := by
  have hr := (owns_row h).1
  obtain ⟨_, ⟨rfl, h1⟩ | ⟨g, cap, cur, rfl, hB, hg, hn, _, hs, hc⟩⟩ := h
  · omega
  refine ⟨g, cap, rfl, hB, (Array.getElem?_eq_some_iff.1 hg).1, fun j hj => ?_⟩
  rcases hr with ⟨_, _, e, rfl⟩ | ⟨b, off, cap', e, _, _, hcc⟩
  · simp at h0
  · cases e
    have h2 := hcc j hj
    rw [Nat.zero_add] at h2
    refine ⟨h2, ?_, ?_, ?_⟩ <;> simp [World.frozen?, hg]
theorem off_ne {g o o' : Nat} (h : o ≠ o') : (⟨g, o, none⟩ : Addr) ≠ ⟨g, o', none⟩ := fun e => h (congrArg Addr.off e)
/-- params stored at the index i of a row. -/
def stored3 (w : World) (g o : Nat) (p : P3) : World := ((w.setCell ⟨g, o, none⟩ (.int .i64 p.1)).setCell ⟨g, o + 1, none⟩ (.int .i64 p.2.1)).setCell ⟨g, o + 2, none⟩ (.int .i64 p.2.2)
theorem stored_other {w : World} {g o o' : Nat} {p q : P3} (h : ParamAt w g o' q) (hd : o' + 3 ≤ o ∨ o + 3 ≤ o') : ParamAt (stored3 w g o p) g o' q := by
  obtain ⟨h0, h1, h2⟩ := h
  unfold stored3
  refine ⟨?_, ?_, ?_⟩
  · rw [World.cell?_setCell_other _ _ _ _ (off_ne (by omega)), World.cell?_setCell_other _ _ _ _ (off_ne (by omega)), World.cell?_setCell_other _ _ _ _ (off_ne (by omega))]; exact h0
  · rw [World.cell?_setCell_other _ _ _ _ (off_ne (by omega)), World.cell?_setCell_other _ _ _ _ (off_ne (by omega)), World.cell?_setCell_other _ _ _ _ (off_ne (by omega))]; exact h1
  · rw [World.cell?_setCell_other _ _ _ _ (off_ne (by omega)), World.cell?_setCell_other _ _ _ _ (off_ne (by omega)), World.cell?_setCell_other _ _ _ _ (off_ne (by omega))]; exact h2
theorem stored_same {w : World} {g o : Nat} {p q : P3} (h : ParamAt w g o q) : ParamAt (stored3 w g o p) g o p := by
  obtain ⟨h0, h1, h2⟩ := h
  unfold stored3
  refine ⟨?_, ?_, ?_⟩
  · rw [World.cell?_setCell_other _ _ _ _ (off_ne (by omega)), World.cell?_setCell_other _ _ _ _ (off_ne (by omega))]
    exact World.cell?_setCell_same _ _ _ h0
  · rw [World.cell?_setCell_other _ _ _ _ (off_ne (by omega))]
    exact World.cell?_setCell_same _ _ _ ((World.cell?_setCell_other _ _ _ _ (off_ne (by omega))).trans h1)
  · exact World.cell?_setCell_same _ _ _ ((World.cell?_setCell_other _ _ _ _ (off_ne (by omega))).trans ((World.cell?_setCell_other _ _ _ _ (off_ne (by omega))).trans h2))
theorem stored_size (w : World) (g o : Nat) (p : P3) : (stored3 w g o p).heap.size = w.heap.size := by simp [stored3]
theorem stored_below {w w' : World} {B g o : Nat} {p : P3} (h : Below B w w') (hg : B ≤ g) : Below B w (stored3 w' g o p) := ((h.setCell hg _).setCell hg _).setCell hg _
theorem row_set {w : World} {g cap i : Nat} {ps : List P3} {p : P3} (hi : i < ps.length) (hg : g < w.heap.size) (hA : ∀ j, j < ps.length → ParamAt w g (j * 3) (ps.getD j p0)) :
    ParamRow (stored3 w g (i * 3) p) (.slice (some ⟨g, 0, none⟩) ps.length cap) (ps.set i p) := by
  refine .inr ⟨g, 0, cap, by rw [List.length_set], by rw [stored_size]; exact hg, by rw [List.length_set]; omega, fun j hj => ?_⟩
  rw [List.length_set] at hj
  rw [Nat.zero_add]
  by_cases e : j = i
  · subst e
    have e2 : (ps.set j p).getD j p0 = p := by simp [List.getD, hj]
    rw [e2]
    exact stored_same (hA j hj)
  · have e2 : (ps.set i p).getD j p0 = ps.getD j p0 := by simp [List.getD, Ne.symm e]
    rw [e2]
    exact stored_other (hA j hj) (by omega)
def changeNum (hard : Bool) (c k i : Int) (p : P3) (ps : List P3) : Int :=
  if RuleMay c k then (if i < 0 ∨ (ps.length : Int) ≤ i then 14 else testNum hard c k (ps.set i.toNat p)) else 1

set_option maxHeartbeats 1000000 in
theorem change_in (hard : Bool) (c k : Int) (i : Nat) (p : P3) (a : Option Addr) (cap : Nat) (ps : List P3) (w : World) (h : ParamRow w (.slice a ps.length cap) ps) (hn : NilOk (.slice a ps.length cap)) (hl : ps.length ≤ 1000) (hr : RuleMay c k) (hi : i < ps.length) :
    Calls Try.prog 19 #[.agg #[.bool hard, .int .i64 c, .int .i64 k], .int .i64 i, .agg #[.int .i64 p.1, .int .i64 p.2.1, .int .i64 p.2.2], .slice a ps.length cap] w (Gives (.int .i64 (testNum hard c k (ps.set i p))) w) := by
  have C := Lib.hid (acheck_ok hard c k hr)
  unfold ruleBox at C
  have CL := Lib.hid (fun w2 (h2 : Below w.heap.size w w2) => clone_any _ ps w2 (h.below h2) hn hl)
  have d0 : decide ((i : Int) < 0) = false := decide_eq_false (by omega)
  have d1 : decide ((ps.length : Int) ≤ (i : Int)) = false := decide_eq_false (by omega)
  have hii : (i : Int) < (ps.length : Int) := by omega
  have bw := bel_alloc (bel_alloc (bel_alloc (Below.refl w.heap.size w) (o := .cells #[.bool hard, .int .i64 c, .int .i64 k] 23)) (o := .cells #[.int .i64 p.1, .int .i64 p.2.1, .int .i64 p.2.2] 40)) (o := .cells #[.bool hard, .int .i64 c, .int .i64 k] 23)
  clear h hn hr
  go_enter Try.func19, Try.ntmps19
  go_wp2_with fail
  refine (C.out _).mono ?_
  rintro e w1 ⟨rfl, rfl⟩
  go_wp2_with fail
  refine (CL.out _ bw).mono ?_
  rintro e w2 ⟨v', rfl, hown, b2⟩
  obtain ⟨g, cap2, rfl, hB, hg, hat⟩ := own_shape hown (by omega)
  obtain ⟨⟨c0, c1, c2⟩, f0, f1, f2⟩ := hat i hi
  generalize ps.getD i p0 = q at *
  have x0 := (b2.cell (p := ⟨w.heap.size, 0, none⟩) (by first | (simp; done) | (simp; omega))).trans (show _ = some (Value.bool hard) by go_simp)
  have x1 := (b2.cell (p := ⟨w.heap.size, 1, none⟩) (by first | (simp; done) | (simp; omega))).trans (show _ = some (Value.int .i64 c) by go_simp)
  have x2 := (b2.cell (p := ⟨w.heap.size, 2, none⟩) (by first | (simp; done) | (simp; omega))).trans (show _ = some (Value.int .i64 k) by go_simp)
  have y0 := (b2.cell (p := ⟨w.heap.size + 1, 0, none⟩) (by first | (simp; done) | (simp; omega))).trans (show _ = some (Value.int .i64 p.1) by go_simp)
  have y1 := (b2.cell (p := ⟨w.heap.size + 1, 1, none⟩) (by first | (simp; done) | (simp; omega))).trans (show _ = some (Value.int .i64 p.2.1) by go_simp)
  have y2 := (b2.cell (p := ⟨w.heap.size + 1, 2, none⟩) (by first | (simp; done) | (simp; omega))).trans (show _ = some (Value.int .i64 p.2.2) by go_simp)
  simp only [World.size_alloc] at hB
  have g0 : w.heap.size < g := by omega
  have g1 : w.heap.size + 1 < g := by omega
  have lr : w.heap.size < w2.heap.size := by omega
  have lp : w.heap.size + 1 < w2.heap.size := by omega
  have HA := Lib.hid hat
  have HO := Lib.hid hown
  have HB2 := Lib.hid (bel_end bw b2)
  clear hat hown bw b2
  go_wp2_with fail
  have T := Lib.hid (test_any hard c k (.slice (some ⟨g, 0, none⟩) ps.length cap2) (ps.set i p) (stored3 w2 g (i * 3) p) (row_set hi hg (fun j hj => (HA.out j hj).1)) (by rw [List.length_set]; exact hl))
  unfold stored3 at T
  refine T.out.mono ?_
  rintro e w3 ⟨rfl, b3⟩
  have HB3 := Lib.hid (bel_end (stored_below (o := i * 3) (p := p) HB2.out (show w.heap.size ≤ g by omega)) b3)
  clear b3
  go_wp2_with fail
  go_ret
  exact ⟨rfl, HB3.out⟩
theorem change_out (hard : Bool) (c k i : Int) (p : P3) (a : Option Addr) (len cap : Nat) (w : World) (hr : RuleMay c k) (hi : i < 0 ∨ (len : Int) ≤ i) :
    Calls Try.prog 19 #[.agg #[.bool hard, .int .i64 c, .int .i64 k], .int .i64 i, .agg #[.int .i64 p.1, .int .i64 p.2.1, .int .i64 p.2.2], .slice a len cap] w (Gives (.int .i64 14) w) := by
  have C := Lib.hid (acheck_ok hard c k hr)
  unfold ruleBox at C
  have bw := Lib.hid (bel_alloc (bel_alloc (bel_alloc (Below.refl w.heap.size w) (o := .cells #[.bool hard, .int .i64 c, .int .i64 k] 23)) (o := .cells #[.int .i64 p.1, .int .i64 p.2.1, .int .i64 p.2.2] 40)) (o := .cells #[.bool hard, .int .i64 c, .int .i64 k] 23))
  clear hr
  by_cases h0 : i < 0
  · have d0 : decide (i < 0) = true := decide_eq_true h0
    clear hi h0
    go_enter Try.func19, Try.ntmps19
    go_wp2_with fail
    refine (C.out _).mono ?_
    rintro e w1 ⟨rfl, rfl⟩
    go_wp2_with fail
    go_ret
    exact ⟨rfl, bw.out⟩
  · have d0 : decide (i < 0) = false := decide_eq_false h0
    have d1 : decide ((len : Int) ≤ i) = true := decide_eq_true (by omega)
    clear hi h0
    go_enter Try.func19, Try.ntmps19
    go_wp2_with fail
    refine (C.out _).mono ?_
    rintro e w1 ⟨rfl, rfl⟩
    go_wp2_with fail
    go_ret
    exact ⟨rfl, bw.out⟩
theorem change_bad (hard : Bool) (c k i : Int) (p : P3) (a : Option Addr) (len cap : Nat) (w : World) (hr : ¬ RuleMay c k) :
    Calls Try.prog 19 #[.agg #[.bool hard, .int .i64 c, .int .i64 k], .int .i64 i, .agg #[.int .i64 p.1, .int .i64 p.2.1, .int .i64 p.2.2], .slice a len cap] w (Gives (.int .i64 1) w) := by
  have C := Lib.hid (acheck_bad hard c k hr)
  unfold ruleBox at C
  have bw := Lib.hid (bel_alloc (bel_alloc (bel_alloc (Below.refl w.heap.size w) (o := .cells #[.bool hard, .int .i64 c, .int .i64 k] 23)) (o := .cells #[.int .i64 p.1, .int .i64 p.2.1, .int .i64 p.2.2] 40)) (o := .cells #[.bool hard, .int .i64 c, .int .i64 k] 23))
  clear hr
  go_enter Try.func19, Try.ntmps19
  go_wp2_with fail
  refine (C.out _).mono ?_
  rintro e w1 ⟨rfl, rfl⟩
  go_wp2_with fail
  go_ret
  exact ⟨rfl, bw.out⟩
theorem change_any (hard : Bool) (c k i : Int) (p : P3) (v : Value) (ps : List P3) (w : World) (h : ParamRow w v ps) (hn : NilOk v) (hl : ps.length ≤ 1000) :
    Calls Try.prog 19 #[.agg #[.bool hard, .int .i64 c, .int .i64 k], .int .i64 i, .agg #[.int .i64 p.1, .int .i64 p.2.1, .int .i64 p.2.2], v] w (Gives (.int .i64 (changeNum hard c k i p ps)) w) := by
  obtain ⟨a, len, cap, rfl⟩ := row_slice h
  have hlen := row_len h
  subst hlen
  unfold changeNum
  by_cases hr : RuleMay c k
  · rw [if_pos hr]
    by_cases hi : i < 0 ∨ (ps.length : Int) ≤ i
    · rw [if_pos hi]
      exact change_out hard c k i p a _ cap w hr hi
    · rw [if_neg hi]
      obtain ⟨i, rfl⟩ := Int.eq_ofNat_of_zero_le (show 0 ≤ i by omega)
      exact change_in hard c k i p a cap ps w h hn hl hr (by omega)
  · rw [if_neg hr]
    exact change_bad hard c k i p a _ cap w hr
end Go.Proofs.Ytoagdaenbanhlaa
