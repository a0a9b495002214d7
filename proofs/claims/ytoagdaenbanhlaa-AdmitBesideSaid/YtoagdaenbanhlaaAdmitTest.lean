/- What admit.Test and Room answer of any rule and any slice of params (up to 1000), and that the chapter's example answers true. Each theorem's premises are its conditions. -/
import Derived.Test.YtoagdaenbanhlaaAdmitLoad
namespace Go.Proofs.Ytoagdaenbanhlaa
open Go.RowKit Go.Shelf

theorem load_ok {hard : Bool} {c k : Int} {ps : List P3} (hr : RuleMay c k) (ha : allMay ps = true) : loadRule hard c k ps = .tuple #[.int .i64 ((asked hard ps).1 : Nat), .int .i64 ((asked hard ps).2 : Nat), .int .i64 0] := by
  unfold loadRule admitLoad; rw [if_pos hr, if_pos ha]
theorem load_not {hard : Bool} {c k : Int} {ps : List P3} (h : ¬ (RuleMay c k ∧ allMay ps = true)) : loadRule hard c k ps = .tuple #[.int .i64 0, .int .i64 0, .int .i64 1] := by
  unfold loadRule admitLoad
  by_cases hr : RuleMay c k
  · rw [if_pos hr, if_neg (fun ha => h ⟨hr, ha⟩)]
  · rw [if_neg hr]
theorem bound_ok {hard : Bool} {c k m : Int} (hr : RuleMay c k) (h0 : 0 ≤ m) (h1 : m ≤ 1048576) : boundVal hard c k m = .tuple #[.int .i64 (boundOf hard c k m), .int .i64 0] := by
  unfold boundVal; rw [if_pos hr, if_neg (by omega)]
theorem test_ok {hard : Bool} {c k : Int} {ps : List P3} (hr : RuleMay c k) (ha : allMay ps = true) : testNum hard c k ps = if boundOf hard c k ((asked hard ps).2 : Nat) < (((asked hard ps).1 : Nat) : Int) then 17 else 0 := by
  unfold testNum; rw [if_pos ⟨hr, ha⟩]
theorem test_not {hard : Bool} {c k : Int} {ps : List P3} (h : ¬ (RuleMay c k ∧ allMay ps = true)) : testNum hard c k ps = 1 := by
  unfold testNum; rw [if_neg h]

set_option maxHeartbeats 1000000 in
theorem test_any (hard : Bool) (c k : Int) (v : Value) (ps : List P3) (w : World) (h : ParamRow w v ps) (hl : ps.length ≤ 1000) :
    Calls Try.prog 14 #[.agg #[.bool hard, .int .i64 c, .int .i64 k], v] w (Gives (.int .i64 (testNum hard c k ps)) w) := by
  have L := Lib.hid (load_any hard c k v ps (w.alloc (ruleBox hard c k)) (h.below (bel_alloc (Below.refl _ _))) hl)
  unfold ruleBox at L
  by_cases hg : RuleMay c k ∧ allMay ps = true
  · obtain ⟨hr, ha⟩ := hg
    rw [load_ok hr ha] at L
    obtain ⟨q1, q2⟩ := asked_bound hard ha hl
    have B := Lib.hid (bound_any hard c k ((asked hard ps).2 : Nat))
    rw [bound_ok hr (by omega) (by omega)] at B
    have hT0 := Lib.hid (test_ok (hard := hard) hr ha)
    generalize asked hard ps = q at *
    obtain ⟨S, M⟩ := q
    simp only at L B hT0 q1 q2
    generalize boundOf hard c k (M : Nat) = E at *
    clear h hl hr ha
    by_cases hE : E < (S : Int)
    · have d1 : decide (E < (S : Int)) = true := decide_eq_true hE
      have hT : Hid (testNum hard c k ps = 17) := by show _ = _; rw [hT0.out, if_pos hE]
      clear hT0
      go_enter Try.func14, Try.ntmps14
      go_wp2_with fail
      refine L.out.mono ?_
      rintro e w2 ⟨rfl, b2⟩
      have x0 := (b2.cell (p := ⟨w.heap.size, 0, none⟩) (by simp)).trans (show _ = some (Value.bool hard) by go_simp)
      have x1 := (b2.cell (p := ⟨w.heap.size, 1, none⟩) (by simp)).trans (show _ = some (Value.int .i64 c) by go_simp)
      have x2 := (b2.cell (p := ⟨w.heap.size, 2, none⟩) (by simp)).trans (show _ = some (Value.int .i64 k) by go_simp)
      have lb : w.heap.size < w2.heap.size := cell_lt x0
      have HB := Lib.hid (bel_end (bel_alloc (Below.refl w.heap.size w)) b2)
      clear b2
      go_wp2_with fail
      refine (B.out _).mono ?_
      rintro e w3 ⟨rfl, b3⟩
      go_wp2_with fail
      go_ret
      exact ⟨ret1 (by rw [hT.out]; rfl), bel_end HB.out b3⟩
    · have d1 : decide (E < (S : Int)) = false := decide_eq_false hE
      have hT : Hid (testNum hard c k ps = 0) := by show _ = _; rw [hT0.out, if_neg hE]
      clear hT0
      go_enter Try.func14, Try.ntmps14
      go_wp2_with fail
      refine L.out.mono ?_
      rintro e w2 ⟨rfl, b2⟩
      have x0 := (b2.cell (p := ⟨w.heap.size, 0, none⟩) (by simp)).trans (show _ = some (Value.bool hard) by go_simp)
      have x1 := (b2.cell (p := ⟨w.heap.size, 1, none⟩) (by simp)).trans (show _ = some (Value.int .i64 c) by go_simp)
      have x2 := (b2.cell (p := ⟨w.heap.size, 2, none⟩) (by simp)).trans (show _ = some (Value.int .i64 k) by go_simp)
      have lb : w.heap.size < w2.heap.size := cell_lt x0
      have HB := Lib.hid (bel_end (bel_alloc (Below.refl w.heap.size w)) b2)
      clear b2
      go_wp2_with fail
      refine (B.out _).mono ?_
      rintro e w3 ⟨rfl, b3⟩
      go_wp2_with fail
      go_ret
      exact ⟨ret1 (by rw [hT.out]; rfl), bel_end HB.out b3⟩
  · rw [load_not hg] at L
    have hT : Hid (testNum hard c k ps = 1) := test_not hg
    clear h hl hg
    go_enter Try.func14, Try.ntmps14
    go_wp2_with fail
    refine L.out.mono ?_
    rintro e w2 ⟨rfl, b2⟩
    go_wp2_with fail
    go_ret
    exact ⟨ret1 (by rw [hT.out]; rfl), bel_end (bel_alloc (Below.refl w.heap.size w)) b2⟩

/-! ### Room -/
/-- how much one more server may ask for, where those that are there may be taken. -/
def roomOf (hard : Bool) (c k : Int) (S M : Nat) : Int :=
  if hard then (if (M : Int) < (k * 1048576 - S) / k then min ((k * 1048576 - S) / k) 1048576 else min (min (boundOf hard c k M - S) M) 1048576) else min (boundOf hard c k M - S) 1048576
theorem bound_range (hard : Bool) {c k : Int} (hr : RuleMay c k) {M : Nat} (hM : M ≤ 1048576) : 0 ≤ boundOf hard c k M ∧ boundOf hard c k M ≤ 16777216 ∧ (hard = true → boundOf hard c k M ≤ k * 1048576) := by
  obtain ⟨h1, h2, h3, h4⟩ := hr
  cases hard with
  | true =>
    rw [boundOf_hard]
    have p1 : 0 ≤ (k - 1) * (M : Int) := Int.mul_nonneg (by omega) (by omega)
    have p2 : (k - 1) * (M : Int) ≤ (k - 1) * 1048576 := Int.mul_le_mul_of_nonneg_left (by omega) (by omega)
    generalize (k - 1) * (M : Int) = p at *
    exact ⟨by omega, by omega, fun _ => by omega⟩
  | false =>
    rw [boundOf_soft]
    obtain ⟨p1, p2⟩ := mul_small (a := c) (b := k) (by omega) (by omega) (A := 1048576) (B := 16) (by omega) (by omega)
    generalize c * k = p at *
    exact ⟨by omega, by omega, fun h => by cases h⟩

set_option maxHeartbeats 2000000 in
theorem room_soft (c k : Int) (v : Value) (ps : List P3) (w : World) (h : ParamRow w v ps) (hl : ps.length ≤ 1000) (hr : RuleMay c k) (ha : allMay ps = true) (ht : testNum false c k ps = 0) :
    Calls Try.prog 20 #[.agg #[.bool false, .int .i64 c, .int .i64 k], v] w (Gives (.tuple #[.int .i64 (roomOf false c k (asked false ps).1 (asked false ps).2), .int .i64 0]) w) := by
  have T1 := Lib.hid (test_any false c k v ps (w.alloc (ruleBox false c k)) (h.below (bel_alloc (Below.refl _ _))) hl)
  rw [ht] at T1
  have L : Hid (∀ w2, Below w.heap.size w w2 → Calls Try.prog 10 #[.agg #[.bool false, .int .i64 c, .int .i64 k], v] w2 (Gives (loadRule false c k ps) w2)) := fun w2 h2 => load_any false c k v ps w2 (h.below h2) hl
  rw [load_ok hr ha] at L
  unfold ruleBox at T1
  obtain ⟨q1, q2⟩ := asked_bound false ha hl
  obtain ⟨u1, u2, _⟩ := bound_range false hr q2
  have B := Lib.hid (bound_any false c k ((asked false ps).2 : Nat))
  rw [bound_ok hr (by omega) (by omega)] at B
  have hs : (((asked false ps).1 : Nat) : Int) ≤ boundOf false c k ((asked false ps).2 : Nat) := by
    rw [test_ok hr ha] at ht
    apply Classical.byContradiction
    intro hn
    rw [if_pos (by omega)] at ht
    cases ht
  have hR0 : Hid (roomOf false c k (asked false ps).1 (asked false ps).2 = min (boundOf false c k ((asked false ps).2 : Nat) - ((asked false ps).1 : Nat)) 1048576) := rfl
  generalize roomOf false c k (asked false ps).1 (asked false ps).2 = X at *
  generalize asked false ps = q at *
  obtain ⟨S, M⟩ := q
  simp only at L B q1 q2 u1 u2 hs hR0
  generalize boundOf false c k (M : Nat) = E at *
  obtain ⟨D, hD⟩ : ∃ D, E - (S : Int) = D := ⟨_, rfl⟩
  rw [hD] at hR0
  have hD0 : 0 ≤ D := by omega
  have hD1 : D ≤ 16777216 := by omega
  have hR := hR0
  clear h hl hr ha ht hs hR0
  go_enter Try.func20, Try.ntmps20
  go_wp2_with fail
  refine T1.out.mono ?_
  rintro e w2 ⟨rfl, b2⟩
  have x0 := (b2.cell (p := ⟨w.heap.size, 0, none⟩) (by simp)).trans (show _ = some (Value.bool false) by go_simp)
  have x1 := (b2.cell (p := ⟨w.heap.size, 1, none⟩) (by simp)).trans (show _ = some (Value.int .i64 c) by go_simp)
  have x2 := (b2.cell (p := ⟨w.heap.size, 2, none⟩) (by simp)).trans (show _ = some (Value.int .i64 k) by go_simp)
  have lb : w.heap.size < w2.heap.size := cell_lt x0
  have HB := Lib.hid (bel_end (bel_alloc (Below.refl w.heap.size w)) b2)
  clear b2
  go_wp2_with fail
  refine (L.out w2 HB.out).mono ?_
  rintro e w3 ⟨rfl, b3⟩
  have y0 := (b3.cell (p := ⟨w.heap.size, 0, none⟩) lb).trans x0
  have y1 := (b3.cell (p := ⟨w.heap.size, 1, none⟩) lb).trans x1
  have y2 := (b3.cell (p := ⟨w.heap.size, 2, none⟩) lb).trans x2
  have lb3 : w.heap.size < w3.heap.size := cell_lt y0
  have HB3 := Lib.hid (bel_end HB.out b3)
  clear b3 x0 x1 x2
  go_wp2_with fail
  refine (B.out _).mono ?_
  rintro e w4 ⟨rfl, b4⟩
  have z0 := (b4.cell (p := ⟨w.heap.size, 0, none⟩) lb3).trans y0
  have z2 := (b4.cell (p := ⟨w.heap.size, 2, none⟩) lb3).trans y2
  have lb4 : w.heap.size < w4.heap.size := cell_lt z0
  have HB4 := Lib.hid (bel_end HB3.out b4)
  clear b4 y0 y1 y2
  go_wp2_with fail
  go_ret2
  exact ⟨ret2 (by rw [hR.out]; rfl) rfl, HB4.out⟩


set_option maxHeartbeats 2000000 in
theorem room_hard (c k : Int) (v : Value) (ps : List P3) (w : World) (h : ParamRow w v ps) (hl : ps.length ≤ 1000) (hr : RuleMay c k) (ha : allMay ps = true) (ht : testNum true c k ps = 0) :
    Calls Try.prog 20 #[.agg #[.bool true, .int .i64 c, .int .i64 k], v] w (Gives (.tuple #[.int .i64 (roomOf true c k (asked true ps).1 (asked true ps).2), .int .i64 0]) w) := by
  have T1 := Lib.hid (test_any true c k v ps (w.alloc (ruleBox true c k)) (h.below (bel_alloc (Below.refl _ _))) hl)
  rw [ht] at T1
  have L : Hid (∀ w2, Below w.heap.size w w2 → Calls Try.prog 10 #[.agg #[.bool true, .int .i64 c, .int .i64 k], v] w2 (Gives (loadRule true c k ps) w2)) := fun w2 h2 => load_any true c k v ps w2 (h.below h2) hl
  rw [load_ok hr ha] at L
  unfold ruleBox at T1
  obtain ⟨q1, q2⟩ := asked_bound true ha hl
  obtain ⟨u1, u2, u3⟩ := bound_range true hr q2
  have u4 := u3 rfl
  have B := Lib.hid (bound_any true c k ((asked true ps).2 : Nat))
  rw [bound_ok hr (by omega) (by omega)] at B
  have hs : (((asked true ps).1 : Nat) : Int) ≤ boundOf true c k ((asked true ps).2 : Nat) := by
    rw [test_ok hr ha] at ht
    apply Classical.byContradiction
    intro hn
    rw [if_pos (by omega)] at ht
    cases ht
  have hR0 : Hid (roomOf true c k (asked true ps).1 (asked true ps).2 = if (((asked true ps).2 : Nat) : Int) < (k * 1048576 - ((asked true ps).1 : Nat)) / k then min ((k * 1048576 - ((asked true ps).1 : Nat)) / k) 1048576 else min (min (boundOf true c k ((asked true ps).2 : Nat) - ((asked true ps).1 : Nat)) ((asked true ps).2 : Nat)) 1048576) := rfl
  generalize roomOf true c k (asked true ps).1 (asked true ps).2 = X at *
  generalize asked true ps = q at *
  obtain ⟨S, M⟩ := q
  simp only at L B q1 q2 u1 u2 u4 hs hR0
  generalize boundOf true c k (M : Nat) = E at *
  obtain ⟨r1, r2, r3, r4⟩ := hr
  obtain ⟨D, hD⟩ : ∃ D, E - (S : Int) = D := ⟨_, rfl⟩
  obtain ⟨K, hK⟩ : ∃ K, k * 1048576 - (S : Int) = K := ⟨_, rfl⟩
  have hK0 : 0 ≤ K := by omega
  have hK1 : K ≤ 16777216 := by omega
  obtain ⟨G, hG⟩ : ∃ G, K / k = G := ⟨_, rfl⟩
  have hG0 : 0 ≤ G := by rw [← hG]; exact Int.ediv_nonneg hK0 (by omega)
  have hG1 : G ≤ K := by rw [← hG]; exact Int.ediv_le_self _ hK0
  have hG2 : K.tdiv k = G := by rw [Int.tdiv_eq_ediv_of_nonneg hK0]; exact hG
  rw [hD, hK, hG] at hR0
  have hD0 : 0 ≤ D := by omega
  have hD1 : D ≤ 16777216 := by omega
  have k0 : (k == 0) = false := by simp; omega
  have k1 : ¬ k = 0 := by omega
  clear h hl ha ht hs hG u3
  by_cases hm : (M : Int) < G
  · have d1 : decide ((M : Int) < G) = true := decide_eq_true hm
    have hR : Hid (X = min G 1048576) := by show _ = _; rw [hR0.out, if_pos hm]
    clear hR0
    go_enter Try.func20, Try.ntmps20
    go_wp2_with fail
    refine T1.out.mono ?_
    rintro e w2 ⟨rfl, b2⟩
    have x0 := (b2.cell (p := ⟨w.heap.size, 0, none⟩) (by simp)).trans (show _ = some (Value.bool true) by go_simp)
    have x1 := (b2.cell (p := ⟨w.heap.size, 1, none⟩) (by simp)).trans (show _ = some (Value.int .i64 c) by go_simp)
    have x2 := (b2.cell (p := ⟨w.heap.size, 2, none⟩) (by simp)).trans (show _ = some (Value.int .i64 k) by go_simp)
    have lb : w.heap.size < w2.heap.size := cell_lt x0
    have HB := Lib.hid (bel_end (bel_alloc (Below.refl w.heap.size w)) b2)
    clear b2
    go_wp2_with fail
    refine (L.out w2 HB.out).mono ?_
    rintro e w3 ⟨rfl, b3⟩
    have y0 := (b3.cell (p := ⟨w.heap.size, 0, none⟩) lb).trans x0
    have y1 := (b3.cell (p := ⟨w.heap.size, 1, none⟩) lb).trans x1
    have y2 := (b3.cell (p := ⟨w.heap.size, 2, none⟩) lb).trans x2
    have lb3 : w.heap.size < w3.heap.size := cell_lt y0
    have HB3 := Lib.hid (bel_end HB.out b3)
    clear b3 x0 x1 x2
    go_wp2_with fail
    refine (B.out _).mono ?_
    rintro e w4 ⟨rfl, b4⟩
    have z0 := (b4.cell (p := ⟨w.heap.size, 0, none⟩) lb3).trans y0
    have z2 := (b4.cell (p := ⟨w.heap.size, 2, none⟩) lb3).trans y2
    have lb4 : w.heap.size < w4.heap.size := cell_lt z0
    have HB4 := Lib.hid (bel_end HB3.out b4)
    clear b4 y0 y1 y2
    go_wp2_with fail
    go_ret2
    exact ⟨ret2 (by rw [hR.out]; rfl) rfl, HB4.out⟩
  · have d1 : decide ((M : Int) < G) = false := decide_eq_false hm
    have hR : Hid (X = min (min D (M : Int)) 1048576) := by show _ = _; rw [hR0.out, if_neg hm]
    clear hR0
    go_enter Try.func20, Try.ntmps20
    go_wp2_with fail
    refine T1.out.mono ?_
    rintro e w2 ⟨rfl, b2⟩
    have x0 := (b2.cell (p := ⟨w.heap.size, 0, none⟩) (by simp)).trans (show _ = some (Value.bool true) by go_simp)
    have x1 := (b2.cell (p := ⟨w.heap.size, 1, none⟩) (by simp)).trans (show _ = some (Value.int .i64 c) by go_simp)
    have x2 := (b2.cell (p := ⟨w.heap.size, 2, none⟩) (by simp)).trans (show _ = some (Value.int .i64 k) by go_simp)
    have lb : w.heap.size < w2.heap.size := cell_lt x0
    have HB := Lib.hid (bel_end (bel_alloc (Below.refl w.heap.size w)) b2)
    clear b2
    go_wp2_with fail
    refine (L.out w2 HB.out).mono ?_
    rintro e w3 ⟨rfl, b3⟩
    have y0 := (b3.cell (p := ⟨w.heap.size, 0, none⟩) lb).trans x0
    have y1 := (b3.cell (p := ⟨w.heap.size, 1, none⟩) lb).trans x1
    have y2 := (b3.cell (p := ⟨w.heap.size, 2, none⟩) lb).trans x2
    have lb3 : w.heap.size < w3.heap.size := cell_lt y0
    have HB3 := Lib.hid (bel_end HB.out b3)
    clear b3 x0 x1 x2
    go_wp2_with fail
    refine (B.out _).mono ?_
    rintro e w4 ⟨rfl, b4⟩
    have z0 := (b4.cell (p := ⟨w.heap.size, 0, none⟩) lb3).trans y0
    have z2 := (b4.cell (p := ⟨w.heap.size, 2, none⟩) lb3).trans y2
    have lb4 : w.heap.size < w4.heap.size := cell_lt z0
    have HB4 := Lib.hid (bel_end HB3.out b4)
    clear b4 y0 y1 y2
    go_wp2_with fail
    go_ret2
    exact ⟨ret2 (by rw [hR.out, Int.min_assoc]; rfl) rfl, HB4.out⟩

/-- what Room hands back. -/
def roomVal (hard : Bool) (c k : Int) (ps : List P3) : Value := if testNum hard c k ps = 0 then .tuple #[.int .i64 (roomOf hard c k (asked hard ps).1 (asked hard ps).2), .int .i64 0] else .tuple #[.int .i64 0, .int .i64 (testNum hard c k ps)]
theorem test_zero {hard : Bool} {c k : Int} {ps : List P3} (h : testNum hard c k ps = 0) : RuleMay c k ∧ allMay ps = true := by
  apply Classical.byContradiction
  intro hn
  rw [test_not hn] at h
  cases h
theorem room_bad (hard : Bool) (c k : Int) (v : Value) (ps : List P3) (w : World) (h : ParamRow w v ps) (hl : ps.length ≤ 1000) (ht : testNum hard c k ps ≠ 0) :
    Calls Try.prog 20 #[.agg #[.bool hard, .int .i64 c, .int .i64 k], v] w (Gives (.tuple #[.int .i64 0, .int .i64 (testNum hard c k ps)]) w) := by
  have T1 := Lib.hid (test_any hard c k v ps (w.alloc (ruleBox hard c k)) (h.below (bel_alloc (Below.refl _ _))) hl)
  unfold ruleBox at T1
  generalize testNum hard c k ps = n at *
  have d1 : (n == 0) = false := by simp; exact ht
  have d2 : (n != 0) = true := by simp; exact ht
  clear h hl ht
  go_enter Try.func20, Try.ntmps20
  go_wp2_with fail
  refine T1.out.mono ?_
  rintro e w2 ⟨rfl, b2⟩
  go_wp2_with fail
  go_ret2
  exact ⟨rfl, bel_end (bel_alloc (Below.refl w.heap.size w)) b2⟩
theorem room_any (hard : Bool) (c k : Int) (v : Value) (ps : List P3) (w : World) (h : ParamRow w v ps) (hl : ps.length ≤ 1000) :
    Calls Try.prog 20 #[.agg #[.bool hard, .int .i64 c, .int .i64 k], v] w (Gives (roomVal hard c k ps) w) := by
  unfold roomVal
  by_cases ht : testNum hard c k ps = 0
  · rw [if_pos ht]
    obtain ⟨hr, ha⟩ := test_zero ht
    cases hard
    · exact room_soft c k v ps w h hl hr ha ht
    · exact room_hard c k v ps w h hl hr ha ht
  · rw [if_neg ht]
    exact room_bad hard c k v ps w h hl ht

/-! ### the example -/
theorem row_two {w : World} {b : Nat} {p q : P3} (h : ParamAt w b 0 p) (g : ParamAt w b 3 q) : ParamRow w (.slice (some ⟨b, 0, none⟩) 2 2) [p, q] :=
  .inr ⟨b, 0, 2, rfl, cell_lt h.1, by simp, fun j hj => by
    match j, hj with
    | 0, _ => exact h
    | 1, _ => exact g⟩
theorem ex_test1 : testNum true 0 2 [(9, 9, 9), (9, 9, 9)] = 17 := by decide
theorem ex_test2 : testNum true 0 2 [(1, 2, 2), (1, 2, 2)] = 0 := by decide
theorem ex_room : roomVal true 0 2 [(1, 2, 2), (1, 2, 2)] = .tuple #[.int .i64 524288, .int .i64 0] := by
  unfold roomVal
  rw [if_pos ex_test2, show roomOf true 0 2 (asked true [(1, 2, 2), (1, 2, 2)]).1 (asked true [(1, 2, 2), (1, 2, 2)]).2 = 524288 by decide]

set_option maxRecDepth 100000 in
set_option maxHeartbeats 2000000 in
theorem awake_yes (w : World) : Calls Try.prog 9 #[] w (Yes w) := by
  have RM : Hid (∀ v w1, ParamRow w1 v [(1, 2, 2), (1, 2, 2)] → Calls Try.prog 20 #[.agg #[.bool true, .int .i64 0, .int .i64 2], v] w1 (Gives (.tuple #[.int .i64 524288, .int .i64 0]) w1)) := fun v w1 h => by
    have := room_any true 0 2 v _ w1 h (by simp)
    rwa [ex_room] at this
  have T1 : Hid (∀ v w1, ParamRow w1 v [(9, 9, 9), (9, 9, 9)] → Calls Try.prog 14 #[.agg #[.bool true, .int .i64 0, .int .i64 2], v] w1 (Gives (.int .i64 17) w1)) := fun v w1 h => by
    have := test_any true 0 2 v _ w1 h (by simp)
    rwa [ex_test1] at this
  have T2 : Hid (∀ v w1, ParamRow w1 v [(1, 2, 2), (1, 2, 2)] → Calls Try.prog 14 #[.agg #[.bool true, .int .i64 0, .int .i64 2], v] w1 (Gives (.int .i64 0) w1)) := fun v w1 h => by
    have := test_any true 0 2 v _ w1 h (by simp)
    rwa [ex_test2] at this
  go_enter Try.func9, Try.ntmps9
  go_wp2_with fail
  refine (RM.out _ _ (row_two ⟨by go_simp, by go_simp, by go_simp⟩ ⟨by go_simp, by go_simp, by go_simp⟩)).mono ?_
  rintro e w1 ⟨rfl, b1⟩
  have r10 := (b1.cell (p := ⟨w.heap.size, 0, none⟩) (by first | (simp; done) | (simp; omega))).trans (show _ = some (Value.bool true) by go_simp)
  have r11 := (b1.cell (p := ⟨w.heap.size, 1, none⟩) (by first | (simp; done) | (simp; omega))).trans (show _ = some (Value.int .i64 0) by go_simp)
  have r12 := (b1.cell (p := ⟨w.heap.size, 2, none⟩) (by first | (simp; done) | (simp; omega))).trans (show _ = some (Value.int .i64 2) by go_simp)
  have p10 := (b1.cell (p := ⟨w.heap.size + 1, 0, none⟩) (by first | (simp; done) | (simp; omega))).trans (show _ = some (Value.int .i64 9) by go_simp)
  have p11 := (b1.cell (p := ⟨w.heap.size + 1, 1, none⟩) (by first | (simp; done) | (simp; omega))).trans (show _ = some (Value.int .i64 9) by go_simp)
  have p12 := (b1.cell (p := ⟨w.heap.size + 1, 2, none⟩) (by first | (simp; done) | (simp; omega))).trans (show _ = some (Value.int .i64 9) by go_simp)
  have q10 := (b1.cell (p := ⟨w.heap.size + 1 + 1, 0, none⟩) (by first | (simp; done) | (simp; omega))).trans (show _ = some (Value.int .i64 1) by go_simp)
  have q11 := (b1.cell (p := ⟨w.heap.size + 1 + 1, 1, none⟩) (by first | (simp; done) | (simp; omega))).trans (show _ = some (Value.int .i64 2) by go_simp)
  have q12 := (b1.cell (p := ⟨w.heap.size + 1 + 1, 2, none⟩) (by first | (simp; done) | (simp; omega))).trans (show _ = some (Value.int .i64 2) by go_simp)
  have l1r : w.heap.size < w1.heap.size := cell_lt r10
  have l1p : w.heap.size + 1 < w1.heap.size := cell_lt p10
  have l1q : w.heap.size + 1 + 1 < w1.heap.size := cell_lt q10
  have HB1 := Lib.hid (bel_end (bel_alloc (bel_alloc (bel_alloc (bel_alloc (Below.refl w.heap.size w))))) b1)
  clear b1
  go_wp2_with fail
  refine (T1.out _ _ (row_two ⟨by go_simp, by go_simp, by go_simp⟩ ⟨by go_simp, by go_simp, by go_simp⟩)).mono ?_
  rintro e w2 ⟨rfl, b2⟩
  have r20 := (b2.cell (p := ⟨w.heap.size, 0, none⟩) (by first | (simp; done) | (simp; omega))).trans (show _ = some (Value.bool true) by go_simp)
  have r21 := (b2.cell (p := ⟨w.heap.size, 1, none⟩) (by first | (simp; done) | (simp; omega))).trans (show _ = some (Value.int .i64 0) by go_simp)
  have r22 := (b2.cell (p := ⟨w.heap.size, 2, none⟩) (by first | (simp; done) | (simp; omega))).trans (show _ = some (Value.int .i64 2) by go_simp)
  have p20 := (b2.cell (p := ⟨w.heap.size + 1, 0, none⟩) (by first | (simp; done) | (simp; omega))).trans (show _ = some (Value.int .i64 9) by go_simp)
  have p21 := (b2.cell (p := ⟨w.heap.size + 1, 1, none⟩) (by first | (simp; done) | (simp; omega))).trans (show _ = some (Value.int .i64 9) by go_simp)
  have p22 := (b2.cell (p := ⟨w.heap.size + 1, 2, none⟩) (by first | (simp; done) | (simp; omega))).trans (show _ = some (Value.int .i64 9) by go_simp)
  have q20 := (b2.cell (p := ⟨w.heap.size + 1 + 1, 0, none⟩) (by first | (simp; done) | (simp; omega))).trans (show _ = some (Value.int .i64 1) by go_simp)
  have q21 := (b2.cell (p := ⟨w.heap.size + 1 + 1, 1, none⟩) (by first | (simp; done) | (simp; omega))).trans (show _ = some (Value.int .i64 2) by go_simp)
  have q22 := (b2.cell (p := ⟨w.heap.size + 1 + 1, 2, none⟩) (by first | (simp; done) | (simp; omega))).trans (show _ = some (Value.int .i64 2) by go_simp)
  have l2r : w.heap.size < w2.heap.size := cell_lt r20
  have l2p : w.heap.size + 1 < w2.heap.size := cell_lt p20
  have l2q : w.heap.size + 1 + 1 < w2.heap.size := cell_lt q20
  have HB2 := Lib.hid (bel_end (bel_alloc HB1.out) b2)
  clear b2
  clear r10 r11 r12 p10 p11 p12 q10 q11 q12
  go_wp2_with fail
  refine (T2.out _ _ (row_two ⟨by go_simp, by go_simp, by go_simp⟩ ⟨by go_simp, by go_simp, by go_simp⟩)).mono ?_
  rintro e w3 ⟨rfl, b3⟩
  have HB3 := Lib.hid (bel_end (bel_alloc HB2.out) b3)
  clear b3
  go_wp2_with fail
  go_ret
  exact ⟨rfl, HB3.out⟩
end Go.Proofs.Ytoagdaenbanhlaa
