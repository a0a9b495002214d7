/- TraceAll answers true at every charges, every params and every three times. No condition. -/
import Derived.Test.YtfpifaccjfgfkaaTraceSoon
import Derived.BigQuiet
namespace Go.Proofs.Ytfpifaccjfgfkaa.traceAll
open Go.ChangeShapes Go.WideShapes Go.ChangeAt Go.RowKit Go.Deep Go.Joins
attribute [local go_sem] Oper.semAt_some

theorem all_cells {q d t u f e : Int} {w wx : World} (h : Below ((w.alloc (.cells #[.int .i64 q, .int .i64 d, .int .i64 t] 24)).alloc (.cells #[.int .i64 u, .int .i64 f, .int .i64 e] 41)).heap.size ((w.alloc (.cells #[.int .i64 q, .int .i64 d, .int .i64 t] 24)).alloc (.cells #[.int .i64 u, .int .i64 f, .int .i64 e] 41)) wx) :
    wx.cell? ⟨w.heap.size, 0, none⟩ = some (.int .i64 q) ∧ wx.cell? ⟨w.heap.size, 1, none⟩ = some (.int .i64 d) ∧ wx.cell? ⟨w.heap.size, 2, none⟩ = some (.int .i64 t) ∧ wx.cell? ⟨w.heap.size + 1, 0, none⟩ = some (.int .i64 u) ∧ wx.cell? ⟨w.heap.size + 1, 1, none⟩ = some (.int .i64 f) ∧ wx.cell? ⟨w.heap.size + 1, 2, none⟩ = some (.int .i64 e) ∧ w.heap.size + 1 + 1 ≤ wx.heap.size := by
  have hs := h.size
  simp at hs
  exact ⟨(h.cell (p := ⟨w.heap.size, 0, none⟩) (by simp; omega)).trans (by go_simp), (h.cell (p := ⟨w.heap.size, 1, none⟩) (by simp; omega)).trans (by go_simp), (h.cell (p := ⟨w.heap.size, 2, none⟩) (by simp; omega)).trans (by go_simp), (h.cell (p := ⟨w.heap.size + 1, 0, none⟩) (by simp)).trans (by go_simp), (h.cell (p := ⟨w.heap.size + 1, 1, none⟩) (by simp)).trans (by go_simp), (h.cell (p := ⟨w.heap.size + 1, 2, none⟩) (by simp)).trans (by go_simp), hs⟩
set_option maxRecDepth 100000 in
set_option maxHeartbeats 1000000 in
theorem many (o : Option Addr) (len cap : Nat) (l : List Chg) (q d t u f e : Int) (w : World) (_ : ChgRow w (.slice o len cap) l) (hl : 20 < len) : Calls Try.prog 4 #[.slice o len cap, .agg #[.int .i64 q, .int .i64 d, .int .i64 t], .agg #[.int .i64 u, .int .i64 f, .int .i64 e]] w (Gives (.bool true) w) := by
  have d1 : decide (20 < (len : Int)) = true := decide_eq_true (by omega)
  have R0 : Below w.heap.size w ((w.alloc (.cells #[.int .i64 q, .int .i64 d, .int .i64 t] 24)).alloc (.cells #[.int .i64 u, .int .i64 f, .int .i64 e] 41)) := bel_alloc (bel_alloc (Below.refl _ _))
  go_enter Try.func4, Try.ntmps4
  go_wp2_with fail
  refine (awake_true _).mono ?_
  rintro e1 w90 ⟨rfl, b90⟩
  have HE := Lib.hid (R0.trans (b90.mono (R0).size))
  clear b90
  go_wp2_with fail
  go_ret
  exact ⟨rfl, HE.out⟩
set_option maxRecDepth 100000 in
set_option maxHeartbeats 1000000 in
theorem notMay (o : Option Addr) (len cap : Nat) (l : List Chg) (q d t u f e : Int) (w : World) (_ : ChgRow w (.slice o len cap) l) (hl : ¬ 20 < len) (hp : ¬ ParamsMay q d t) : Calls Try.prog 4 #[.slice o len cap, .agg #[.int .i64 q, .int .i64 d, .int .i64 t], .agg #[.int .i64 u, .int .i64 f, .int .i64 e]] w (Gives (.bool true) w) := by
  have M := Lib.hid (may_bad q d t hp)
  have d1 : decide (20 < (len : Int)) = false := decide_eq_false (by omega)
  have R0 : Hid (Below ((w.alloc (.cells #[.int .i64 q, .int .i64 d, .int .i64 t] 24)).alloc (.cells #[.int .i64 u, .int .i64 f, .int .i64 e] 41)).heap.size ((w.alloc (.cells #[.int .i64 q, .int .i64 d, .int .i64 t] 24)).alloc (.cells #[.int .i64 u, .int .i64 f, .int .i64 e] 41)) ((w.alloc (.cells #[.int .i64 q, .int .i64 d, .int .i64 t] 24)).alloc (.cells #[.int .i64 u, .int .i64 f, .int .i64 e] 41))) := Lib.hid (Below.refl _ _)
  have HW0 : Hid (Below w.heap.size w ((w.alloc (.cells #[.int .i64 q, .int .i64 d, .int .i64 t] 24)).alloc (.cells #[.int .i64 u, .int .i64 f, .int .i64 e] 41))) := Lib.hid (bel_alloc (bel_alloc (Below.refl _ _)))
  have sz0 : ((w.alloc (.cells #[.int .i64 q, .int .i64 d, .int .i64 t] 24)).alloc (.cells #[.int .i64 u, .int .i64 f, .int .i64 e] 41)).heap.size = w.heap.size + 1 + 1 := by simp
  clear hp
  go_enter Try.func4, Try.ntmps4
  go_wp2_with fail
  refine (M.out _).mono ?_
  rintro e1 w1 ⟨rfl, b1⟩
  have R1 := Lib.hid (R0.out.trans (b1.mono R0.out.size))
  clear b1
  go_wp2_with fail
  refine (awake_true _).mono ?_
  rintro e1 w90 ⟨rfl, b90⟩
  have HX := Lib.hid (HW0.out.trans (R1.out.mono HW0.out.size))
  have HE := Lib.hid (HX.out.trans (b90.mono (HX.out).size))
  clear b90
  go_wp2_with fail
  go_ret
  exact ⟨rfl, HE.out⟩
set_option maxRecDepth 100000 in
set_option maxHeartbeats 1000000 in
theorem long (o : Option Addr) (len cap : Nat) (l : List Chg) (q d t u f e : Int) (w : World) (_ : ChgRow w (.slice o len cap) l) (hl : ¬ 20 < len) (hp : ParamsMay q d t) (ht : 268435456 < t) : Calls Try.prog 4 #[.slice o len cap, .agg #[.int .i64 q, .int .i64 d, .int .i64 t], .agg #[.int .i64 u, .int .i64 f, .int .i64 e]] w (Gives (.bool true) w) := by
  have M := Lib.hid (may_ok q d t hp)
  have d1 : decide (20 < (len : Int)) = false := decide_eq_false (by omega)
  have d2 : decide (268435456 < t) = true := decide_eq_true (by omega)
  have R0 : Hid (Below ((w.alloc (.cells #[.int .i64 q, .int .i64 d, .int .i64 t] 24)).alloc (.cells #[.int .i64 u, .int .i64 f, .int .i64 e] 41)).heap.size ((w.alloc (.cells #[.int .i64 q, .int .i64 d, .int .i64 t] 24)).alloc (.cells #[.int .i64 u, .int .i64 f, .int .i64 e] 41)) ((w.alloc (.cells #[.int .i64 q, .int .i64 d, .int .i64 t] 24)).alloc (.cells #[.int .i64 u, .int .i64 f, .int .i64 e] 41))) := Lib.hid (Below.refl _ _)
  have HW0 : Hid (Below w.heap.size w ((w.alloc (.cells #[.int .i64 q, .int .i64 d, .int .i64 t] 24)).alloc (.cells #[.int .i64 u, .int .i64 f, .int .i64 e] 41))) := Lib.hid (bel_alloc (bel_alloc (Below.refl _ _)))
  have sz0 : ((w.alloc (.cells #[.int .i64 q, .int .i64 d, .int .i64 t] 24)).alloc (.cells #[.int .i64 u, .int .i64 f, .int .i64 e] 41)).heap.size = w.heap.size + 1 + 1 := by simp
  clear hp ht
  go_enter Try.func4, Try.ntmps4
  go_wp2_with fail
  refine (M.out _).mono ?_
  rintro e1 w1 ⟨rfl, b1⟩
  have R1 := Lib.hid (R0.out.trans (b1.mono R0.out.size))
  obtain ⟨a0, a1, a2, a3, a4, a5, aw⟩ := all_cells R1.out
  clear b1
  go_wp2_with fail
  refine (awake_true _).mono ?_
  rintro e1 w90 ⟨rfl, b90⟩
  have HX := Lib.hid (HW0.out.trans (R1.out.mono HW0.out.size))
  have HE := Lib.hid (HX.out.trans (b90.mono (HX.out).size))
  clear b90
  go_wp2_with fail
  go_ret
  exact ⟨rfl, HE.out⟩
set_option maxRecDepth 100000 in
set_option maxHeartbeats 1000000 in
theorem late (o : Option Addr) (len cap : Nat) (l : List Chg) (q d t u f e : Int) (w : World) (h : ChgRow w (.slice o len cap) l) (hl : ¬ 20 < len) (hp : ParamsMay q d t) (ht : ¬ 268435456 < t) (hso : soonB l = false) : Calls Try.prog 4 #[.slice o len cap, .agg #[.int .i64 q, .int .i64 d, .int .i64 t], .agg #[.int .i64 u, .int .i64 f, .int .i64 e]] w (Gives (.bool true) w) := by
  have M := Lib.hid (may_ok q d t hp)
  have hlen := row_len h
  subst hlen
  have d1 : decide (20 < (l.length : Int)) = false := decide_eq_false (by omega)
  have d2 : decide (268435456 < t) = false := decide_eq_false (by omega)
  have R0 : Hid (Below ((w.alloc (.cells #[.int .i64 q, .int .i64 d, .int .i64 t] 24)).alloc (.cells #[.int .i64 u, .int .i64 f, .int .i64 e] 41)).heap.size ((w.alloc (.cells #[.int .i64 q, .int .i64 d, .int .i64 t] 24)).alloc (.cells #[.int .i64 u, .int .i64 f, .int .i64 e] 41)) ((w.alloc (.cells #[.int .i64 q, .int .i64 d, .int .i64 t] 24)).alloc (.cells #[.int .i64 u, .int .i64 f, .int .i64 e] 41))) := Lib.hid (Below.refl _ _)
  have HW0 : Hid (Below w.heap.size w ((w.alloc (.cells #[.int .i64 q, .int .i64 d, .int .i64 t] 24)).alloc (.cells #[.int .i64 u, .int .i64 f, .int .i64 e] 41))) := Lib.hid (bel_alloc (bel_alloc (Below.refl _ _)))
  have sz0 : ((w.alloc (.cells #[.int .i64 q, .int .i64 d, .int .i64 t] 24)).alloc (.cells #[.int .i64 u, .int .i64 f, .int .i64 e] 41)).heap.size = w.heap.size + 1 + 1 := by simp
  have PL := Lib.hid (fun (w2 : World) (h2 : Below ((w.alloc (.cells #[.int .i64 q, .int .i64 d, .int .i64 t] 24)).alloc (.cells #[.int .i64 u, .int .i64 f, .int .i64 e] 41)).heap.size ((w.alloc (.cells #[.int .i64 q, .int .i64 d, .int .i64 t] 24)).alloc (.cells #[.int .i64 u, .int .i64 f, .int .i64 e] 41)) w2) => plain_any _ l w2 (h.below (HW0.out.trans (h2.mono HW0.out.size))) (by omega))
  have HP := Lib.hid h
  have HM := Lib.hid hp
  clear h hp
  go_enter Try.func4, Try.ntmps4
  go_wp2_with fail
  refine (M.out _).mono ?_
  rintro e1 w1 ⟨rfl, b1⟩
  have R1 := Lib.hid (R0.out.trans (b1.mono R0.out.size))
  obtain ⟨a0, a1, a2, a3, a4, a5, aw⟩ := all_cells R1.out
  clear b1
  go_wp2_with fail
  refine (PL.out _ R1.out).mono ?_
  rintro e1 w2 ⟨v2, rfl, ho, b2⟩
  have R2 := Lib.hid (R1.out.trans (b2.mono R1.out.size))
  have SO := Lib.hid (soon_any _ v2 l w2 ho (by omega))
  rw [hso] at SO
  obtain ⟨x1, x2, x3, rfl⟩ := own_shape ho
  clear b2 ho a0 a1 a2 a3 a4 a5 aw
  go_wp2_with fail
  refine (SO.out).mono ?_
  rintro e1 w3 ⟨rfl, b3⟩
  have R3 := Lib.hid (R2.out.trans (b3.mono R2.out.size))
  clear b3
  obtain ⟨a0, a1, a2, a3, a4, a5, aw⟩ := all_cells R3.out
  go_wp2_with fail
  refine (awake_true _).mono ?_
  rintro e1 w90 ⟨rfl, b90⟩
  have HX := Lib.hid (HW0.out.trans (R3.out.mono HW0.out.size))
  have HE := Lib.hid (HX.out.trans (b90.mono (HX.out).size))
  clear b90
  go_wp2_with fail
  go_ret
  exact ⟨rfl, HE.out⟩
set_option maxRecDepth 100000 in
set_option maxHeartbeats 1000000 in
theorem bad (o : Option Addr) (len cap : Nat) (l : List Chg) (q d t u f e : Int) (w : World) (h : ChgRow w (.slice o len cap) l) (hl : ¬ 20 < len) (hp : ParamsMay q d t) (ht : ¬ 268435456 < t) (hso : soonB l = true) (ha : (addAll [] l).2 ≠ 0) : Calls Try.prog 4 #[.slice o len cap, .agg #[.int .i64 q, .int .i64 d, .int .i64 t], .agg #[.int .i64 u, .int .i64 f, .int .i64 e]] w (Gives (.bool true) w) := by
  have e1 : ((addAll [] l).2 == 0) = false := by rw [beq_eq_false_iff_ne]; exact ha
  have e2 : ((addAll [] l).2 != 0) = true := by rw [bne_iff_ne]; exact ha
  have M := Lib.hid (may_ok q d t hp)
  have hlen := row_len h
  subst hlen
  have d1 : decide (20 < (l.length : Int)) = false := decide_eq_false (by omega)
  have d2 : decide (268435456 < t) = false := decide_eq_false (by omega)
  have R0 : Hid (Below ((w.alloc (.cells #[.int .i64 q, .int .i64 d, .int .i64 t] 24)).alloc (.cells #[.int .i64 u, .int .i64 f, .int .i64 e] 41)).heap.size ((w.alloc (.cells #[.int .i64 q, .int .i64 d, .int .i64 t] 24)).alloc (.cells #[.int .i64 u, .int .i64 f, .int .i64 e] 41)) ((w.alloc (.cells #[.int .i64 q, .int .i64 d, .int .i64 t] 24)).alloc (.cells #[.int .i64 u, .int .i64 f, .int .i64 e] 41))) := Lib.hid (Below.refl _ _)
  have HW0 : Hid (Below w.heap.size w ((w.alloc (.cells #[.int .i64 q, .int .i64 d, .int .i64 t] 24)).alloc (.cells #[.int .i64 u, .int .i64 f, .int .i64 e] 41))) := Lib.hid (bel_alloc (bel_alloc (Below.refl _ _)))
  have sz0 : ((w.alloc (.cells #[.int .i64 q, .int .i64 d, .int .i64 t] 24)).alloc (.cells #[.int .i64 u, .int .i64 f, .int .i64 e] 41)).heap.size = w.heap.size + 1 + 1 := by simp
  have PL := Lib.hid (fun (w2 : World) (h2 : Below ((w.alloc (.cells #[.int .i64 q, .int .i64 d, .int .i64 t] 24)).alloc (.cells #[.int .i64 u, .int .i64 f, .int .i64 e] 41)).heap.size ((w.alloc (.cells #[.int .i64 q, .int .i64 d, .int .i64 t] 24)).alloc (.cells #[.int .i64 u, .int .i64 f, .int .i64 e] 41)) w2) => plain_any _ l w2 (h.below (HW0.out.trans (h2.mono HW0.out.size))) (by omega))
  have HP := Lib.hid h
  have HM := Lib.hid hp
  clear h hp
  go_enter Try.func4, Try.ntmps4
  go_wp2_with fail
  refine (M.out _).mono ?_
  rintro e1 w1 ⟨rfl, b1⟩
  have R1 := Lib.hid (R0.out.trans (b1.mono R0.out.size))
  obtain ⟨a0, a1, a2, a3, a4, a5, aw⟩ := all_cells R1.out
  clear b1
  go_wp2_with fail
  refine (PL.out _ R1.out).mono ?_
  rintro e1 w2 ⟨v2, rfl, ho, b2⟩
  have R2 := Lib.hid (R1.out.trans (b2.mono R1.out.size))
  have SO := Lib.hid (soon_any _ v2 l w2 ho (by omega))
  rw [hso] at SO
  obtain ⟨x1, x2, x3, rfl⟩ := own_shape ho
  clear b2 ho a0 a1 a2 a3 a4 a5 aw
  go_wp2_with fail
  refine (SO.out).mono ?_
  rintro e1 w3 ⟨rfl, b3⟩
  have R3 := Lib.hid (R2.out.trans (b3.mono R2.out.size))
  clear b3
  obtain ⟨a0, a1, a2, a3, a4, a5, aw⟩ := all_cells R3.out
  go_wp2_with fail
  refine (new_any _).mono ?_
  rintro e1 w4 ⟨rfl, hT, b4⟩
  have R4 := Lib.hid (R3.out.trans (b4.mono R3.out.size))
  have HT4 := Lib.hid (hT.base (B := w.heap.size))
  have lg := hT.lt
  have AD := Lib.hid (add_fresh w.heap.size w3.heap.size _ l w w4 HP.out (HW0.out.trans (R4.out.mono HW0.out.size)) (by omega) HT4.out (by omega) (by omega))
  clear hT b4 a0 a1 a2 a3 a4 a5
  go_wp2_with fail
  refine AD.out.mono ?_
  rintro e1 w5 ⟨he, v5, hT5, hO5, _⟩
  subst he
  have b5 := added_below (B := ((w.alloc (.cells #[.int .i64 q, .int .i64 d, .int .i64 t] 24)).alloc (.cells #[.int .i64 u, .int .i64 f, .int .i64 e] 41)).heap.size) hO5 (by omega) (by omega)
  have R5 := Lib.hid (R4.out.trans b5)
  clear hO5 b5 AD HT4
  obtain ⟨a0, a1, a2, a3, a4, a5, aw5⟩ := all_cells R5.out
  clear hT5 ha
  generalize (addAll [] l).2 = E at *
  go_wp2_with fail
  refine (awake_true _).mono ?_
  rintro e1 w90 ⟨rfl, b90⟩
  have HX := Lib.hid (HW0.out.trans (R5.out.mono HW0.out.size))
  have HE := Lib.hid (HX.out.trans (b90.mono (HX.out).size))
  clear b90
  go_wp2_with fail
  go_ret
  exact ⟨rfl, HE.out⟩
set_option maxRecDepth 100000 in
set_option maxHeartbeats 1000000 in
theorem b1 (o : Option Addr) (len cap : Nat) (l : List Chg) (q d t u f e : Int) (w : World) (h : ChgRow w (.slice o len cap) l) (hl : ¬ 20 < len) (hp : ParamsMay q d t) (ht : ¬ 268435456 < t) (hso : soonB l = true) (ha : (addAll [] l).2 = 0)  (k1 : u < 0) : Calls Try.prog 4 #[.slice o len cap, .agg #[.int .i64 q, .int .i64 d, .int .i64 t], .agg #[.int .i64 u, .int .i64 f, .int .i64 e]] w (Gives (.bool true) w) := by
  have d4 : decide (u < 0) = true := decide_eq_true (by omega)
  have M := Lib.hid (may_ok q d t hp)
  have hlen := row_len h
  subst hlen
  have d1 : decide (20 < (l.length : Int)) = false := decide_eq_false (by omega)
  have d2 : decide (268435456 < t) = false := decide_eq_false (by omega)
  have R0 : Hid (Below ((w.alloc (.cells #[.int .i64 q, .int .i64 d, .int .i64 t] 24)).alloc (.cells #[.int .i64 u, .int .i64 f, .int .i64 e] 41)).heap.size ((w.alloc (.cells #[.int .i64 q, .int .i64 d, .int .i64 t] 24)).alloc (.cells #[.int .i64 u, .int .i64 f, .int .i64 e] 41)) ((w.alloc (.cells #[.int .i64 q, .int .i64 d, .int .i64 t] 24)).alloc (.cells #[.int .i64 u, .int .i64 f, .int .i64 e] 41))) := Lib.hid (Below.refl _ _)
  have HW0 : Hid (Below w.heap.size w ((w.alloc (.cells #[.int .i64 q, .int .i64 d, .int .i64 t] 24)).alloc (.cells #[.int .i64 u, .int .i64 f, .int .i64 e] 41))) := Lib.hid (bel_alloc (bel_alloc (Below.refl _ _)))
  have sz0 : ((w.alloc (.cells #[.int .i64 q, .int .i64 d, .int .i64 t] 24)).alloc (.cells #[.int .i64 u, .int .i64 f, .int .i64 e] 41)).heap.size = w.heap.size + 1 + 1 := by simp
  have PL := Lib.hid (fun (w2 : World) (h2 : Below ((w.alloc (.cells #[.int .i64 q, .int .i64 d, .int .i64 t] 24)).alloc (.cells #[.int .i64 u, .int .i64 f, .int .i64 e] 41)).heap.size ((w.alloc (.cells #[.int .i64 q, .int .i64 d, .int .i64 t] 24)).alloc (.cells #[.int .i64 u, .int .i64 f, .int .i64 e] 41)) w2) => plain_any _ l w2 (h.below (HW0.out.trans (h2.mono HW0.out.size))) (by omega))
  have HP := Lib.hid h
  have HM := Lib.hid hp
  clear h hp
  go_enter Try.func4, Try.ntmps4
  go_wp2_with fail
  refine (M.out _).mono ?_
  rintro e1 w1 ⟨rfl, b1⟩
  have R1 := Lib.hid (R0.out.trans (b1.mono R0.out.size))
  obtain ⟨a0, a1, a2, a3, a4, a5, aw⟩ := all_cells R1.out
  clear b1
  go_wp2_with fail
  refine (PL.out _ R1.out).mono ?_
  rintro e1 w2 ⟨v2, rfl, ho, b2⟩
  have R2 := Lib.hid (R1.out.trans (b2.mono R1.out.size))
  have SO := Lib.hid (soon_any _ v2 l w2 ho (by omega))
  rw [hso] at SO
  obtain ⟨x1, x2, x3, rfl⟩ := own_shape ho
  clear b2 ho a0 a1 a2 a3 a4 a5 aw
  go_wp2_with fail
  refine (SO.out).mono ?_
  rintro e1 w3 ⟨rfl, b3⟩
  have R3 := Lib.hid (R2.out.trans (b3.mono R2.out.size))
  clear b3
  obtain ⟨a0, a1, a2, a3, a4, a5, aw⟩ := all_cells R3.out
  go_wp2_with fail
  refine (new_any _).mono ?_
  rintro e1 w4 ⟨rfl, hT, b4⟩
  have R4 := Lib.hid (R3.out.trans (b4.mono R3.out.size))
  have HT4 := Lib.hid (hT.base (B := w.heap.size))
  have lg := hT.lt
  have AD := Lib.hid (add_fresh w.heap.size w3.heap.size _ l w w4 HP.out (HW0.out.trans (R4.out.mono HW0.out.size)) (by omega) HT4.out (by omega) (by omega))
  clear hT b4 a0 a1 a2 a3 a4 a5
  go_wp2_with fail
  refine AD.out.mono ?_
  rintro e1 w5 ⟨he, v5, hT5, hO5, _⟩
  subst he
  have b5 := added_below (B := ((w.alloc (.cells #[.int .i64 q, .int .i64 d, .int .i64 t] 24)).alloc (.cells #[.int .i64 u, .int .i64 f, .int .i64 e] 41)).heap.size) hO5 (by omega) (by omega)
  have R5 := Lib.hid (R4.out.trans b5)
  clear hO5 b5 AD HT4
  obtain ⟨a0, a1, a2, a3, a4, a5, aw5⟩ := all_cells R5.out
  rw [ha]
  clear hT5 ha
  go_wp2_with fail
  refine (awake_true _).mono ?_
  rintro e1 w90 ⟨rfl, b90⟩
  have HX := Lib.hid (HW0.out.trans (R5.out.mono HW0.out.size))
  have HE := Lib.hid (HX.out.trans (b90.mono (HX.out).size))
  clear b90
  go_wp2_with fail
  go_ret
  exact ⟨rfl, HE.out⟩
set_option maxRecDepth 100000 in
set_option maxHeartbeats 1000000 in
theorem b2 (o : Option Addr) (len cap : Nat) (l : List Chg) (q d t u f e : Int) (w : World) (h : ChgRow w (.slice o len cap) l) (hl : ¬ 20 < len) (hp : ParamsMay q d t) (ht : ¬ 268435456 < t) (hso : soonB l = true) (ha : (addAll [] l).2 = 0) (k1 : ¬ u < 0) (k2 : 268435456 < u) : Calls Try.prog 4 #[.slice o len cap, .agg #[.int .i64 q, .int .i64 d, .int .i64 t], .agg #[.int .i64 u, .int .i64 f, .int .i64 e]] w (Gives (.bool true) w) := by
  have d4 : decide (u < 0) = false := decide_eq_false (by omega)
  have d5 : decide (268435456 < u) = true := decide_eq_true (by omega)
  have M := Lib.hid (may_ok q d t hp)
  have hlen := row_len h
  subst hlen
  have d1 : decide (20 < (l.length : Int)) = false := decide_eq_false (by omega)
  have d2 : decide (268435456 < t) = false := decide_eq_false (by omega)
  have R0 : Hid (Below ((w.alloc (.cells #[.int .i64 q, .int .i64 d, .int .i64 t] 24)).alloc (.cells #[.int .i64 u, .int .i64 f, .int .i64 e] 41)).heap.size ((w.alloc (.cells #[.int .i64 q, .int .i64 d, .int .i64 t] 24)).alloc (.cells #[.int .i64 u, .int .i64 f, .int .i64 e] 41)) ((w.alloc (.cells #[.int .i64 q, .int .i64 d, .int .i64 t] 24)).alloc (.cells #[.int .i64 u, .int .i64 f, .int .i64 e] 41))) := Lib.hid (Below.refl _ _)
  have HW0 : Hid (Below w.heap.size w ((w.alloc (.cells #[.int .i64 q, .int .i64 d, .int .i64 t] 24)).alloc (.cells #[.int .i64 u, .int .i64 f, .int .i64 e] 41))) := Lib.hid (bel_alloc (bel_alloc (Below.refl _ _)))
  have sz0 : ((w.alloc (.cells #[.int .i64 q, .int .i64 d, .int .i64 t] 24)).alloc (.cells #[.int .i64 u, .int .i64 f, .int .i64 e] 41)).heap.size = w.heap.size + 1 + 1 := by simp
  have PL := Lib.hid (fun (w2 : World) (h2 : Below ((w.alloc (.cells #[.int .i64 q, .int .i64 d, .int .i64 t] 24)).alloc (.cells #[.int .i64 u, .int .i64 f, .int .i64 e] 41)).heap.size ((w.alloc (.cells #[.int .i64 q, .int .i64 d, .int .i64 t] 24)).alloc (.cells #[.int .i64 u, .int .i64 f, .int .i64 e] 41)) w2) => plain_any _ l w2 (h.below (HW0.out.trans (h2.mono HW0.out.size))) (by omega))
  have HP := Lib.hid h
  have HM := Lib.hid hp
  clear h hp
  go_enter Try.func4, Try.ntmps4
  go_wp2_with fail
  refine (M.out _).mono ?_
  rintro e1 w1 ⟨rfl, b1⟩
  have R1 := Lib.hid (R0.out.trans (b1.mono R0.out.size))
  obtain ⟨a0, a1, a2, a3, a4, a5, aw⟩ := all_cells R1.out
  clear b1
  go_wp2_with fail
  refine (PL.out _ R1.out).mono ?_
  rintro e1 w2 ⟨v2, rfl, ho, b2⟩
  have R2 := Lib.hid (R1.out.trans (b2.mono R1.out.size))
  have SO := Lib.hid (soon_any _ v2 l w2 ho (by omega))
  rw [hso] at SO
  obtain ⟨x1, x2, x3, rfl⟩ := own_shape ho
  clear b2 ho a0 a1 a2 a3 a4 a5 aw
  go_wp2_with fail
  refine (SO.out).mono ?_
  rintro e1 w3 ⟨rfl, b3⟩
  have R3 := Lib.hid (R2.out.trans (b3.mono R2.out.size))
  clear b3
  obtain ⟨a0, a1, a2, a3, a4, a5, aw⟩ := all_cells R3.out
  go_wp2_with fail
  refine (new_any _).mono ?_
  rintro e1 w4 ⟨rfl, hT, b4⟩
  have R4 := Lib.hid (R3.out.trans (b4.mono R3.out.size))
  have HT4 := Lib.hid (hT.base (B := w.heap.size))
  have lg := hT.lt
  have AD := Lib.hid (add_fresh w.heap.size w3.heap.size _ l w w4 HP.out (HW0.out.trans (R4.out.mono HW0.out.size)) (by omega) HT4.out (by omega) (by omega))
  clear hT b4 a0 a1 a2 a3 a4 a5
  go_wp2_with fail
  refine AD.out.mono ?_
  rintro e1 w5 ⟨he, v5, hT5, hO5, _⟩
  subst he
  have b5 := added_below (B := ((w.alloc (.cells #[.int .i64 q, .int .i64 d, .int .i64 t] 24)).alloc (.cells #[.int .i64 u, .int .i64 f, .int .i64 e] 41)).heap.size) hO5 (by omega) (by omega)
  have R5 := Lib.hid (R4.out.trans b5)
  clear hO5 b5 AD HT4
  obtain ⟨a0, a1, a2, a3, a4, a5, aw5⟩ := all_cells R5.out
  rw [ha]
  clear hT5 ha
  go_wp2_with fail
  refine (awake_true _).mono ?_
  rintro e1 w90 ⟨rfl, b90⟩
  have HX := Lib.hid (HW0.out.trans (R5.out.mono HW0.out.size))
  have HE := Lib.hid (HX.out.trans (b90.mono (HX.out).size))
  clear b90
  go_wp2_with fail
  go_ret
  exact ⟨rfl, HE.out⟩
set_option maxRecDepth 100000 in
set_option maxHeartbeats 1000000 in
theorem b3 (o : Option Addr) (len cap : Nat) (l : List Chg) (q d t u f e : Int) (w : World) (h : ChgRow w (.slice o len cap) l) (hl : ¬ 20 < len) (hp : ParamsMay q d t) (ht : ¬ 268435456 < t) (hso : soonB l = true) (ha : (addAll [] l).2 = 0) (k1 : ¬ u < 0) (k2 : ¬ 268435456 < u) (k3 : f < 0) : Calls Try.prog 4 #[.slice o len cap, .agg #[.int .i64 q, .int .i64 d, .int .i64 t], .agg #[.int .i64 u, .int .i64 f, .int .i64 e]] w (Gives (.bool true) w) := by
  have d4 : decide (u < 0) = false := decide_eq_false (by omega)
  have d5 : decide (268435456 < u) = false := decide_eq_false (by omega)
  have d6 : decide (f < 0) = true := decide_eq_true (by omega)
  have M := Lib.hid (may_ok q d t hp)
  have hlen := row_len h
  subst hlen
  have d1 : decide (20 < (l.length : Int)) = false := decide_eq_false (by omega)
  have d2 : decide (268435456 < t) = false := decide_eq_false (by omega)
  have R0 : Hid (Below ((w.alloc (.cells #[.int .i64 q, .int .i64 d, .int .i64 t] 24)).alloc (.cells #[.int .i64 u, .int .i64 f, .int .i64 e] 41)).heap.size ((w.alloc (.cells #[.int .i64 q, .int .i64 d, .int .i64 t] 24)).alloc (.cells #[.int .i64 u, .int .i64 f, .int .i64 e] 41)) ((w.alloc (.cells #[.int .i64 q, .int .i64 d, .int .i64 t] 24)).alloc (.cells #[.int .i64 u, .int .i64 f, .int .i64 e] 41))) := Lib.hid (Below.refl _ _)
  have HW0 : Hid (Below w.heap.size w ((w.alloc (.cells #[.int .i64 q, .int .i64 d, .int .i64 t] 24)).alloc (.cells #[.int .i64 u, .int .i64 f, .int .i64 e] 41))) := Lib.hid (bel_alloc (bel_alloc (Below.refl _ _)))
  have sz0 : ((w.alloc (.cells #[.int .i64 q, .int .i64 d, .int .i64 t] 24)).alloc (.cells #[.int .i64 u, .int .i64 f, .int .i64 e] 41)).heap.size = w.heap.size + 1 + 1 := by simp
  have PL := Lib.hid (fun (w2 : World) (h2 : Below ((w.alloc (.cells #[.int .i64 q, .int .i64 d, .int .i64 t] 24)).alloc (.cells #[.int .i64 u, .int .i64 f, .int .i64 e] 41)).heap.size ((w.alloc (.cells #[.int .i64 q, .int .i64 d, .int .i64 t] 24)).alloc (.cells #[.int .i64 u, .int .i64 f, .int .i64 e] 41)) w2) => plain_any _ l w2 (h.below (HW0.out.trans (h2.mono HW0.out.size))) (by omega))
  have HP := Lib.hid h
  have HM := Lib.hid hp
  clear h hp
  go_enter Try.func4, Try.ntmps4
  go_wp2_with fail
  refine (M.out _).mono ?_
  rintro e1 w1 ⟨rfl, b1⟩
  have R1 := Lib.hid (R0.out.trans (b1.mono R0.out.size))
  obtain ⟨a0, a1, a2, a3, a4, a5, aw⟩ := all_cells R1.out
  clear b1
  go_wp2_with fail
  refine (PL.out _ R1.out).mono ?_
  rintro e1 w2 ⟨v2, rfl, ho, b2⟩
  have R2 := Lib.hid (R1.out.trans (b2.mono R1.out.size))
  have SO := Lib.hid (soon_any _ v2 l w2 ho (by omega))
  rw [hso] at SO
  obtain ⟨x1, x2, x3, rfl⟩ := own_shape ho
  clear b2 ho a0 a1 a2 a3 a4 a5 aw
  go_wp2_with fail
  refine (SO.out).mono ?_
  rintro e1 w3 ⟨rfl, b3⟩
  have R3 := Lib.hid (R2.out.trans (b3.mono R2.out.size))
  clear b3
  obtain ⟨a0, a1, a2, a3, a4, a5, aw⟩ := all_cells R3.out
  go_wp2_with fail
  refine (new_any _).mono ?_
  rintro e1 w4 ⟨rfl, hT, b4⟩
  have R4 := Lib.hid (R3.out.trans (b4.mono R3.out.size))
  have HT4 := Lib.hid (hT.base (B := w.heap.size))
  have lg := hT.lt
  have AD := Lib.hid (add_fresh w.heap.size w3.heap.size _ l w w4 HP.out (HW0.out.trans (R4.out.mono HW0.out.size)) (by omega) HT4.out (by omega) (by omega))
  clear hT b4 a0 a1 a2 a3 a4 a5
  go_wp2_with fail
  refine AD.out.mono ?_
  rintro e1 w5 ⟨he, v5, hT5, hO5, _⟩
  subst he
  have b5 := added_below (B := ((w.alloc (.cells #[.int .i64 q, .int .i64 d, .int .i64 t] 24)).alloc (.cells #[.int .i64 u, .int .i64 f, .int .i64 e] 41)).heap.size) hO5 (by omega) (by omega)
  have R5 := Lib.hid (R4.out.trans b5)
  clear hO5 b5 AD HT4
  obtain ⟨a0, a1, a2, a3, a4, a5, aw5⟩ := all_cells R5.out
  rw [ha]
  clear hT5 ha
  go_wp2_with fail
  refine (awake_true _).mono ?_
  rintro e1 w90 ⟨rfl, b90⟩
  have HX := Lib.hid (HW0.out.trans (R5.out.mono HW0.out.size))
  have HE := Lib.hid (HX.out.trans (b90.mono (HX.out).size))
  clear b90
  go_wp2_with fail
  go_ret
  exact ⟨rfl, HE.out⟩
set_option maxRecDepth 100000 in
set_option maxHeartbeats 1000000 in
theorem b4 (o : Option Addr) (len cap : Nat) (l : List Chg) (q d t u f e : Int) (w : World) (h : ChgRow w (.slice o len cap) l) (hl : ¬ 20 < len) (hp : ParamsMay q d t) (ht : ¬ 268435456 < t) (hso : soonB l = true) (ha : (addAll [] l).2 = 0) (k1 : ¬ u < 0) (k2 : ¬ 268435456 < u) (k3 : ¬ f < 0) (k4 : e < f) : Calls Try.prog 4 #[.slice o len cap, .agg #[.int .i64 q, .int .i64 d, .int .i64 t], .agg #[.int .i64 u, .int .i64 f, .int .i64 e]] w (Gives (.bool true) w) := by
  have d4 : decide (u < 0) = false := decide_eq_false (by omega)
  have d5 : decide (268435456 < u) = false := decide_eq_false (by omega)
  have d6 : decide (f < 0) = false := decide_eq_false (by omega)
  have d7 : decide (e < f) = true := decide_eq_true (by omega)
  have M := Lib.hid (may_ok q d t hp)
  have hlen := row_len h
  subst hlen
  have d1 : decide (20 < (l.length : Int)) = false := decide_eq_false (by omega)
  have d2 : decide (268435456 < t) = false := decide_eq_false (by omega)
  have R0 : Hid (Below ((w.alloc (.cells #[.int .i64 q, .int .i64 d, .int .i64 t] 24)).alloc (.cells #[.int .i64 u, .int .i64 f, .int .i64 e] 41)).heap.size ((w.alloc (.cells #[.int .i64 q, .int .i64 d, .int .i64 t] 24)).alloc (.cells #[.int .i64 u, .int .i64 f, .int .i64 e] 41)) ((w.alloc (.cells #[.int .i64 q, .int .i64 d, .int .i64 t] 24)).alloc (.cells #[.int .i64 u, .int .i64 f, .int .i64 e] 41))) := Lib.hid (Below.refl _ _)
  have HW0 : Hid (Below w.heap.size w ((w.alloc (.cells #[.int .i64 q, .int .i64 d, .int .i64 t] 24)).alloc (.cells #[.int .i64 u, .int .i64 f, .int .i64 e] 41))) := Lib.hid (bel_alloc (bel_alloc (Below.refl _ _)))
  have sz0 : ((w.alloc (.cells #[.int .i64 q, .int .i64 d, .int .i64 t] 24)).alloc (.cells #[.int .i64 u, .int .i64 f, .int .i64 e] 41)).heap.size = w.heap.size + 1 + 1 := by simp
  have PL := Lib.hid (fun (w2 : World) (h2 : Below ((w.alloc (.cells #[.int .i64 q, .int .i64 d, .int .i64 t] 24)).alloc (.cells #[.int .i64 u, .int .i64 f, .int .i64 e] 41)).heap.size ((w.alloc (.cells #[.int .i64 q, .int .i64 d, .int .i64 t] 24)).alloc (.cells #[.int .i64 u, .int .i64 f, .int .i64 e] 41)) w2) => plain_any _ l w2 (h.below (HW0.out.trans (h2.mono HW0.out.size))) (by omega))
  have HP := Lib.hid h
  have HM := Lib.hid hp
  clear h hp
  go_enter Try.func4, Try.ntmps4
  go_wp2_with fail
  refine (M.out _).mono ?_
  rintro e1 w1 ⟨rfl, b1⟩
  have R1 := Lib.hid (R0.out.trans (b1.mono R0.out.size))
  obtain ⟨a0, a1, a2, a3, a4, a5, aw⟩ := all_cells R1.out
  clear b1
  go_wp2_with fail
  refine (PL.out _ R1.out).mono ?_
  rintro e1 w2 ⟨v2, rfl, ho, b2⟩
  have R2 := Lib.hid (R1.out.trans (b2.mono R1.out.size))
  have SO := Lib.hid (soon_any _ v2 l w2 ho (by omega))
  rw [hso] at SO
  obtain ⟨x1, x2, x3, rfl⟩ := own_shape ho
  clear b2 ho a0 a1 a2 a3 a4 a5 aw
  go_wp2_with fail
  refine (SO.out).mono ?_
  rintro e1 w3 ⟨rfl, b3⟩
  have R3 := Lib.hid (R2.out.trans (b3.mono R2.out.size))
  clear b3
  obtain ⟨a0, a1, a2, a3, a4, a5, aw⟩ := all_cells R3.out
  go_wp2_with fail
  refine (new_any _).mono ?_
  rintro e1 w4 ⟨rfl, hT, b4⟩
  have R4 := Lib.hid (R3.out.trans (b4.mono R3.out.size))
  have HT4 := Lib.hid (hT.base (B := w.heap.size))
  have lg := hT.lt
  have AD := Lib.hid (add_fresh w.heap.size w3.heap.size _ l w w4 HP.out (HW0.out.trans (R4.out.mono HW0.out.size)) (by omega) HT4.out (by omega) (by omega))
  clear hT b4 a0 a1 a2 a3 a4 a5
  go_wp2_with fail
  refine AD.out.mono ?_
  rintro e1 w5 ⟨he, v5, hT5, hO5, _⟩
  subst he
  have b5 := added_below (B := ((w.alloc (.cells #[.int .i64 q, .int .i64 d, .int .i64 t] 24)).alloc (.cells #[.int .i64 u, .int .i64 f, .int .i64 e] 41)).heap.size) hO5 (by omega) (by omega)
  have R5 := Lib.hid (R4.out.trans b5)
  clear hO5 b5 AD HT4
  obtain ⟨a0, a1, a2, a3, a4, a5, aw5⟩ := all_cells R5.out
  rw [ha]
  clear hT5 ha
  go_wp2_with fail
  refine (awake_true _).mono ?_
  rintro e1 w90 ⟨rfl, b90⟩
  have HX := Lib.hid (HW0.out.trans (R5.out.mono HW0.out.size))
  have HE := Lib.hid (HX.out.trans (b90.mono (HX.out).size))
  clear b90
  go_wp2_with fail
  go_ret
  exact ⟨rfl, HE.out⟩
set_option maxRecDepth 100000 in
set_option maxHeartbeats 1000000 in
theorem b5 (o : Option Addr) (len cap : Nat) (l : List Chg) (q d t u f e : Int) (w : World) (h : ChgRow w (.slice o len cap) l) (hl : ¬ 20 < len) (hp : ParamsMay q d t) (ht : ¬ 268435456 < t) (hso : soonB l = true) (ha : (addAll [] l).2 = 0) (k1 : ¬ u < 0) (k2 : ¬ 268435456 < u) (k3 : ¬ f < 0) (k4 : ¬ e < f) (k5 : 1073741824 < e) : Calls Try.prog 4 #[.slice o len cap, .agg #[.int .i64 q, .int .i64 d, .int .i64 t], .agg #[.int .i64 u, .int .i64 f, .int .i64 e]] w (Gives (.bool true) w) := by
  have d4 : decide (u < 0) = false := decide_eq_false (by omega)
  have d5 : decide (268435456 < u) = false := decide_eq_false (by omega)
  have d6 : decide (f < 0) = false := decide_eq_false (by omega)
  have d7 : decide (e < f) = false := decide_eq_false (by omega)
  have d8 : decide (1073741824 < e) = true := decide_eq_true (by omega)
  have M := Lib.hid (may_ok q d t hp)
  have hlen := row_len h
  subst hlen
  have d1 : decide (20 < (l.length : Int)) = false := decide_eq_false (by omega)
  have d2 : decide (268435456 < t) = false := decide_eq_false (by omega)
  have R0 : Hid (Below ((w.alloc (.cells #[.int .i64 q, .int .i64 d, .int .i64 t] 24)).alloc (.cells #[.int .i64 u, .int .i64 f, .int .i64 e] 41)).heap.size ((w.alloc (.cells #[.int .i64 q, .int .i64 d, .int .i64 t] 24)).alloc (.cells #[.int .i64 u, .int .i64 f, .int .i64 e] 41)) ((w.alloc (.cells #[.int .i64 q, .int .i64 d, .int .i64 t] 24)).alloc (.cells #[.int .i64 u, .int .i64 f, .int .i64 e] 41))) := Lib.hid (Below.refl _ _)
  have HW0 : Hid (Below w.heap.size w ((w.alloc (.cells #[.int .i64 q, .int .i64 d, .int .i64 t] 24)).alloc (.cells #[.int .i64 u, .int .i64 f, .int .i64 e] 41))) := Lib.hid (bel_alloc (bel_alloc (Below.refl _ _)))
  have sz0 : ((w.alloc (.cells #[.int .i64 q, .int .i64 d, .int .i64 t] 24)).alloc (.cells #[.int .i64 u, .int .i64 f, .int .i64 e] 41)).heap.size = w.heap.size + 1 + 1 := by simp
  have PL := Lib.hid (fun (w2 : World) (h2 : Below ((w.alloc (.cells #[.int .i64 q, .int .i64 d, .int .i64 t] 24)).alloc (.cells #[.int .i64 u, .int .i64 f, .int .i64 e] 41)).heap.size ((w.alloc (.cells #[.int .i64 q, .int .i64 d, .int .i64 t] 24)).alloc (.cells #[.int .i64 u, .int .i64 f, .int .i64 e] 41)) w2) => plain_any _ l w2 (h.below (HW0.out.trans (h2.mono HW0.out.size))) (by omega))
  have HP := Lib.hid h
  have HM := Lib.hid hp
  clear h hp
  go_enter Try.func4, Try.ntmps4
  go_wp2_with fail
  refine (M.out _).mono ?_
  rintro e1 w1 ⟨rfl, b1⟩
  have R1 := Lib.hid (R0.out.trans (b1.mono R0.out.size))
  obtain ⟨a0, a1, a2, a3, a4, a5, aw⟩ := all_cells R1.out
  clear b1
  go_wp2_with fail
  refine (PL.out _ R1.out).mono ?_
  rintro e1 w2 ⟨v2, rfl, ho, b2⟩
  have R2 := Lib.hid (R1.out.trans (b2.mono R1.out.size))
  have SO := Lib.hid (soon_any _ v2 l w2 ho (by omega))
  rw [hso] at SO
  obtain ⟨x1, x2, x3, rfl⟩ := own_shape ho
  clear b2 ho a0 a1 a2 a3 a4 a5 aw
  go_wp2_with fail
  refine (SO.out).mono ?_
  rintro e1 w3 ⟨rfl, b3⟩
  have R3 := Lib.hid (R2.out.trans (b3.mono R2.out.size))
  clear b3
  obtain ⟨a0, a1, a2, a3, a4, a5, aw⟩ := all_cells R3.out
  go_wp2_with fail
  refine (new_any _).mono ?_
  rintro e1 w4 ⟨rfl, hT, b4⟩
  have R4 := Lib.hid (R3.out.trans (b4.mono R3.out.size))
  have HT4 := Lib.hid (hT.base (B := w.heap.size))
  have lg := hT.lt
  have AD := Lib.hid (add_fresh w.heap.size w3.heap.size _ l w w4 HP.out (HW0.out.trans (R4.out.mono HW0.out.size)) (by omega) HT4.out (by omega) (by omega))
  clear hT b4 a0 a1 a2 a3 a4 a5
  go_wp2_with fail
  refine AD.out.mono ?_
  rintro e1 w5 ⟨he, v5, hT5, hO5, _⟩
  subst he
  have b5 := added_below (B := ((w.alloc (.cells #[.int .i64 q, .int .i64 d, .int .i64 t] 24)).alloc (.cells #[.int .i64 u, .int .i64 f, .int .i64 e] 41)).heap.size) hO5 (by omega) (by omega)
  have R5 := Lib.hid (R4.out.trans b5)
  clear hO5 b5 AD HT4
  obtain ⟨a0, a1, a2, a3, a4, a5, aw5⟩ := all_cells R5.out
  rw [ha]
  clear hT5 ha
  go_wp2_with fail
  refine (awake_true _).mono ?_
  rintro e1 w90 ⟨rfl, b90⟩
  have HX := Lib.hid (HW0.out.trans (R5.out.mono HW0.out.size))
  have HE := Lib.hid (HX.out.trans (b90.mono (HX.out).size))
  clear b90
  go_wp2_with fail
  go_ret
  exact ⟨rfl, HE.out⟩
theorem span_ok {ys ts : List VC} {s : Int} {l : List Chg} (hso : soonB l = true) (hys : ys.map (·.1) = l) (hp : ts.Perm (ofServer s ys)) : ¬ (0 < ts.length ∧ 2147483648 < spanOf ts) := by
  rintro ⟨h0, h1⟩
  have hm : ∀ c ∈ ts, c.1.to ≤ 1073741824 := fun c hc => by
    have h2 := (hp.mem_iff).1 hc
    unfold ofServer at h2
    rw [List.mem_filter] at h2
    have h3 : c.1 ∈ l := by rw [← hys]; exact List.mem_map_of_mem h2.1
    unfold soonB at hso
    rw [List.all_eq_true] at hso
    simpa using hso _ h3
  unfold spanOf at h1
  have a := hm _ (show ts.getD (ts.length - 1) default ∈ ts by rw [get_vd (by omega)]; exact List.getElem_mem _)
  obtain ⟨_, _, _, _, _, _, b, _⟩ := (ts.getD 0 default).2
  omega
theorem sum_of {ys ts : List VC} {s : Int} (f : VC → Int) (hp : ts.Perm (ofServer s ys)) : sumOf f ts = sumOf f (ofServer s ys) := sumOf_perm hp
set_option maxRecDepth 100000 in
set_option maxHeartbeats 1000000 in
theorem good (o : Option Addr) (len cap : Nat) (l : List Chg) (q d t u f e : Int) (w : World) (h : ChgRow w (.slice o len cap) l) (hl : ¬ 20 < len) (hp : ParamsMay q d t) (ht : ¬ 268435456 < t) (hso : soonB l = true) (ha : (addAll [] l).2 = 0) (k1 : ¬ u < 0) (k2 : ¬ 268435456 < u) (k3 : ¬ f < 0) (k4 : ¬ e < f) (k5 : ¬ 1073741824 < e) : Calls Try.prog 4 #[.slice o len cap, .agg #[.int .i64 q, .int .i64 d, .int .i64 t], .agg #[.int .i64 u, .int .i64 f, .int .i64 e]] w (Gives (.bool true) w) := by
  obtain ⟨hz, hv, hcalm⟩ := add_zero ha
  have hll : l.length ≤ 20 := by have := row_len h; omega
  obtain ⟨ys, hys⟩ := vcs l hv
  have hyl : ys.length ≤ 20 := by rw [← List.length_map (f := fun z : VC => z.1), hys]; exact hll
  rw [← hys] at hcalm
  have HSO := Lib.hid hso
  have HYS := Lib.hid hys
  have HCM := Lib.hid hcalm
  have d4 : decide (u < 0) = false := decide_eq_false (by omega)
  have d5 : decide (268435456 < u) = false := decide_eq_false (by omega)
  have d6 : decide (f < 0) = false := decide_eq_false (by omega)
  have d7 : decide (e < f) = false := decide_eq_false (by omega)
  have d8 : decide (1073741824 < e) = false := decide_eq_false (by omega)
  have M := Lib.hid (may_ok q d t hp)
  have hlen := row_len h
  subst hlen
  have d1 : decide (20 < (l.length : Int)) = false := decide_eq_false (by omega)
  have d2 : decide (268435456 < t) = false := decide_eq_false (by omega)
  have R0 : Hid (Below ((w.alloc (.cells #[.int .i64 q, .int .i64 d, .int .i64 t] 24)).alloc (.cells #[.int .i64 u, .int .i64 f, .int .i64 e] 41)).heap.size ((w.alloc (.cells #[.int .i64 q, .int .i64 d, .int .i64 t] 24)).alloc (.cells #[.int .i64 u, .int .i64 f, .int .i64 e] 41)) ((w.alloc (.cells #[.int .i64 q, .int .i64 d, .int .i64 t] 24)).alloc (.cells #[.int .i64 u, .int .i64 f, .int .i64 e] 41))) := Lib.hid (Below.refl _ _)
  have HW0 : Hid (Below w.heap.size w ((w.alloc (.cells #[.int .i64 q, .int .i64 d, .int .i64 t] 24)).alloc (.cells #[.int .i64 u, .int .i64 f, .int .i64 e] 41))) := Lib.hid (bel_alloc (bel_alloc (Below.refl _ _)))
  have sz0 : ((w.alloc (.cells #[.int .i64 q, .int .i64 d, .int .i64 t] 24)).alloc (.cells #[.int .i64 u, .int .i64 f, .int .i64 e] 41)).heap.size = w.heap.size + 1 + 1 := by simp
  have PL := Lib.hid (fun (w2 : World) (h2 : Below ((w.alloc (.cells #[.int .i64 q, .int .i64 d, .int .i64 t] 24)).alloc (.cells #[.int .i64 u, .int .i64 f, .int .i64 e] 41)).heap.size ((w.alloc (.cells #[.int .i64 q, .int .i64 d, .int .i64 t] 24)).alloc (.cells #[.int .i64 u, .int .i64 f, .int .i64 e] 41)) w2) => plain_any _ l w2 (h.below (HW0.out.trans (h2.mono HW0.out.size))) (by omega))
  have HP := Lib.hid h
  have HM := Lib.hid hp
  clear h hp
  go_enter Try.func4, Try.ntmps4
  go_wp2_with fail
  refine (M.out _).mono ?_
  rintro e1 w1 ⟨rfl, b1⟩
  have R1 := Lib.hid (R0.out.trans (b1.mono R0.out.size))
  obtain ⟨a0, a1, a2, a3, a4, a5, aw⟩ := all_cells R1.out
  clear b1
  go_wp2_with fail
  refine (PL.out _ R1.out).mono ?_
  rintro e1 w2 ⟨v2, rfl, ho, b2⟩
  have R2 := Lib.hid (R1.out.trans (b2.mono R1.out.size))
  have SO := Lib.hid (soon_any _ v2 l w2 ho (by omega))
  rw [hso] at SO
  obtain ⟨x1, x2, x3, rfl⟩ := own_shape ho
  clear b2 ho a0 a1 a2 a3 a4 a5 aw
  go_wp2_with fail
  refine (SO.out).mono ?_
  rintro e1 w3 ⟨rfl, b3⟩
  have R3 := Lib.hid (R2.out.trans (b3.mono R2.out.size))
  clear b3
  obtain ⟨a0, a1, a2, a3, a4, a5, aw⟩ := all_cells R3.out
  go_wp2_with fail
  refine (new_any _).mono ?_
  rintro e1 w4 ⟨rfl, hT, b4⟩
  have R4 := Lib.hid (R3.out.trans (b4.mono R3.out.size))
  have HT4 := Lib.hid (hT.base (B := w.heap.size))
  have lg := hT.lt
  have AD := Lib.hid (add_fresh w.heap.size w3.heap.size _ l w w4 HP.out (HW0.out.trans (R4.out.mono HW0.out.size)) (by omega) HT4.out (by omega) (by omega))
  clear hT b4 a0 a1 a2 a3 a4 a5
  go_wp2_with fail
  refine AD.out.mono ?_
  rintro e1 w5 ⟨he, v5, hT5, hO5, _⟩
  subst he
  have b5 := added_below (B := ((w.alloc (.cells #[.int .i64 q, .int .i64 d, .int .i64 t] 24)).alloc (.cells #[.int .i64 u, .int .i64 f, .int .i64 e] 41)).heap.size) hO5 (by omega) (by omega)
  have R5 := Lib.hid (R4.out.trans b5)
  clear hO5 b5 AD HT4
  obtain ⟨a0, a1, a2, a3, a4, a5, aw5⟩ := all_cells R5.out
  rw [hz, ← HYS.out] at hT5
  rw [ha]
  have HT5 := Lib.hid hT5
  clear hT5 ha hz hv hys hcalm hso
  have hmay := HM.out
  obtain ⟨p1, p2, p3, p4⟩ := hmay
  go_wp2_with fail
  go_loopw [11] (fun i wr => ∃ s : Nat, s ≤ 64 ∧ i = .int .i64 s ∧ Below w5.heap.size w5 wr) (fun i _ => 64 - (intOf i).toNat)
  case atStart => exact ⟨0, by omega, rfl, Below.refl _ _⟩
  case round =>
    obtain ⟨s, hs, rfl, hb⟩ := hrel
    have R6 := Lib.hid (R5.out.trans (hb.mono R5.out.size))
    have HT6 := Lib.hid (HT5.out.below hb)
    have HB6 := Lib.hid hb
    clear hb a0 a1 a2 a3 a4 a5
    by_cases hlt : s < 64
    · have hin : inB (s : Int) 64 = true := inB_true.2 ⟨by omega, by omega⟩
      have hask : askErr (s : Int) 64 f e = 0 := ask_ok (by omega) (by omega) (by omega) (by omega) (by omega)
      have hlate : inB u 1073741825 = true := inB_true.2 ⟨by omega, by omega⟩
      have hlt' : (s : Int) < 64 := by omega
      obtain ⟨a0, a1, a2, a3, a4, a5, aw6⟩ := all_cells R6.out
      go_wp2_with fail
      refine (iso_good w.heap.size w3.heap.size v5 ys s q d t u wr hin HM.out (by omega) HT6.out HCM.out).mono ?_
      rintro e1 w7 ⟨b7, ts, hperm, hup, rfl⟩
      have hch := chain_of HCM.out hperm hup
      have X1 := exc_window q t ts (by omega) hch f e
      rw [sum_of _ hperm] at X1
      have hiv : isoTold q t u ts = .tuple #[.bool (decide ((excAt q t ts ts.length).1 ≤ 3 * q * t + t * u)), .int .i64 0] := by
        unfold isoTold
        rw [if_neg (span_ok HSO.out HYS.out hperm), if_neg (by rw [hlate]; decide)]
      rw [hiv]
      have R7 := Lib.hid (R6.out.trans (b7.mono R6.out.size))
      have HT7 := Lib.hid (HT6.out.below b7)
      have HB7 := Lib.hid (HB6.out.trans (b7.mono HB6.out.size))
      generalize (excAt q t ts ts.length).1 = Y1 at *
      clear b7 hperm hup hch hiv a0 a1 a2 a3 a4 a5
      obtain ⟨a0, a1, a2, a3, a4, a5, aw7⟩ := all_cells R7.out
      go_wp2_with fail
      refine (within_t_any w.heap.size w3.heap.size v5 ys s f e w7 (by omega) HT7.out).mono ?_
      rw [told_ok hask]
      rintro e1 w8 ⟨rfl, b8⟩
      have R8 := Lib.hid (R7.out.trans (b8.mono R7.out.size))
      have HT8 := Lib.hid (HT7.out.below b8)
      have HB8 := Lib.hid (HB7.out.trans (b8.mono HB7.out.size))
      clear b8 a0 a1 a2 a3 a4 a5
      obtain ⟨a0, a1, a2, a3, a4, a5, aw8⟩ := all_cells R8.out
      go_wp2_with fail
      refine (exc_good w.heap.size w3.heap.size v5 ys s q d t w8 hin HM.out (by omega) HT8.out HCM.out).mono ?_
      rintro e1 w9 ⟨b9, ts2, hperm2, hup2, rfl⟩
      have hch2 := chain_of HCM.out hperm2 hup2
      have X2 := exc_window q t ts2 (by omega) hch2 f e
      rw [sum_of _ hperm2] at X2
      rw [exc_good_value hin HM.out, if_neg (span_ok HSO.out HYS.out hperm2)]
      have R9 := Lib.hid (R8.out.trans (b9.mono R8.out.size))
      have HB9 := Lib.hid (HB8.out.trans (b9.mono HB8.out.size))
      generalize (excAt q t ts2 ts2.length).1 = Y2 at *
      have NB := sumOf_le (fun z : VC => inWin f e z.1) _ (inWin_bound f e) (ofServer (s : Int) ys)
      have NW : sumOf (fun z : VC => inWin f e z.1) (ofServer (s : Int) ys) ≤ e - f := Int.le_trans (sumOf_mono (in_at f e) _) (at_way (by omega) HCM.out)
      generalize sumOf (fun z : VC => inWin f e z.1) (ofServer (s : Int) ys) = N at *
      clear b9 hperm2 hup2 hch2 a0 a1 a2 a3 a4 a5 R8 HT8 HB8
      have n0 : 0 ≤ N := NB.1
      clear NB hask hin hlate
      obtain ⟨a0, a1, a2, a3, a4, a5, aw9⟩ := all_cells R9.out
      have m1 := mul_bound (a := t) (b := N) (M := 1073741824) (by omega) p4 n0 (by omega)
      have m2 := mul_bound (a := q) (b := e - f) (M := 1073741824) (by omega) (by omega) (by omega) (by omega)
      have m3 := mul_bound (a := q) (b := e - f + 3 * t) (M := 4294967296) (by omega) (by omega) (by omega) (by omega)
      have m4 := mul_bound (a := t) (b := u) (M := 268435456) (by omega) p4 (by omega) (by omega)
      have m5 : q * (e - f + 3 * t) = q * (e - f) + 3 * q * t := by rw [Int.mul_add, ← Int.mul_assoc, Int.mul_comm q 3]
      have c1 : Y1 ≤ 3 * q * t + t * u → decide (q * (e - f + 3 * t) + t * u < t * N) = false := fun hy => decide_eq_false (by
        by_cases hN : N = 0
        · rw [hN, Int.mul_zero]; omega
        · have := X1 hN; omega)
      have c2 : 0 < N → decide (Y2 < t * N - q * (e - f)) = false := fun hn => decide_eq_false (by have := X2 (by omega); omega)
      clear X1 X2 m5
      by_cases hy : Y1 ≤ 3 * q * t + t * u
      · have d9 : decide (Y1 ≤ 3 * q * t + t * u) = true := decide_eq_true hy
        have c1' := c1 hy
        by_cases hn : 0 < N
        · have d10 : decide (0 < N) = true := decide_eq_true hn
          have c2' := c2 hn
          clear hy c1 c2
          go_wp2_with fail
          go_roundw
          case rel => exact ⟨s + 1, by omega, by simp, HB9.out⟩
          case measure => first | (simp [intOf]; done) | (simp [intOf]; omega)
        · have d10 : decide (0 < N) = false := decide_eq_false hn
          clear hy c1 c2
          go_wp2_with fail
          go_roundw
          case rel => exact ⟨s + 1, by omega, by simp, HB9.out⟩
          case measure => first | (simp [intOf]; done) | (simp [intOf]; omega)
      · have d9 : decide (Y1 ≤ 3 * q * t + t * u) = false := decide_eq_false hy
        by_cases hn : 0 < N
        · have d10 : decide (0 < N) = true := decide_eq_true hn
          have c2' := c2 hn
          clear hy c1 c2
          go_wp2_with fail
          go_roundw
          case rel => exact ⟨s + 1, by omega, by simp, HB9.out⟩
          case measure => first | (simp [intOf]; done) | (simp [intOf]; omega)
        · have d10 : decide (0 < N) = false := decide_eq_false hn
          clear hy c1 c2
          go_wp2_with fail
          go_roundw
          case rel => exact ⟨s + 1, by omega, by simp, HB9.out⟩
          case measure => first | (simp [intOf]; done) | (simp [intOf]; omega)
    · obtain rfl : s = 64 := by omega
      go_wp2_with fail
      refine (awake_true _).mono ?_
      rintro e1 w90 ⟨rfl, b90⟩
      have HX := Lib.hid (HW0.out.trans (R6.out.mono HW0.out.size))
      have HE := Lib.hid (HX.out.trans (b90.mono (HX.out).size))
      clear b90
      go_wp2_with fail
      go_ret
      exact ⟨rfl, HE.out⟩
theorem walk (v : Value) (l : List Chg) (q d t u f e : Int) (w : World) (h : ChgRow w v l) (_ : ∀ x ∈ l, Fit6 x) (_ : SliceOk v) (_ : (Lit.int .i64 q).wf = true) (_ : (Lit.int .i64 d).wf = true) (_ : (Lit.int .i64 t).wf = true) (_ : (Lit.int .i64 u).wf = true) (_ : (Lit.int .i64 f).wf = true) (_ : (Lit.int .i64 e).wf = true) :
    Calls Try.prog 4 #[v, .agg #[.int .i64 q, .int .i64 d, .int .i64 t], .agg #[.int .i64 u, .int .i64 f, .int .i64 e]] w (Gives (.bool true) w) := by
  obtain ⟨o, len, cap, rfl⟩ := row_slice h
  by_cases hl : 20 < len
  · exact many o len cap l q d t u f e w h hl
  by_cases hp : ParamsMay q d t
  · by_cases ht : 268435456 < t
    · exact long o len cap l q d t u f e w h hl hp ht
    cases hso : soonB l with
    | false => exact late o len cap l q d t u f e w h hl hp ht hso
    | true =>
      by_cases ha : (addAll [] l).2 = 0
      · by_cases k1 : u < 0
        · exact b1 o len cap l q d t u f e w h hl hp ht hso ha k1
        by_cases k2 : 268435456 < u
        · exact b2 o len cap l q d t u f e w h hl hp ht hso ha k1 k2
        by_cases k3 : f < 0
        · exact b3 o len cap l q d t u f e w h hl hp ht hso ha k1 k2 k3
        by_cases k4 : e < f
        · exact b4 o len cap l q d t u f e w h hl hp ht hso ha k1 k2 k3 k4
        by_cases k5 : 1073741824 < e
        · exact b5 o len cap l q d t u f e w h hl hp ht hso ha k1 k2 k3 k4 k5
        · exact good o len cap l q d t u f e w h hl hp ht hso ha k1 k2 k3 k4 k5
      · exact bad o len cap l q d t u f e w h hl hp ht hso ha
  · exact notMay o len cap l q d t u f e w h hl hp

set_option maxRecDepth 100000 in
theorem lifted (os : Os) (started : os.Started) (H : Type) (enc : TypeId × Value → H) :
    ReturnsInHanded {} Try.checked os 4 .any (Rows.traceAllSpec.pre6 enc Try.prog Try.f4 Rows.traceAllRow.domain false) (Rows.traceAllSpec.post enc Try.prog Try.f4 false true false false) := by
  refine returnsInHanded_of_change (C := Try.checked) own started (by kernel_rfl) Try.func4
    (ChangeSpec.witness6 (enc := enc) (C := Try.checked) false ⟨#[], #[.slice none 0 0, .agg #[.int .i64 0, .int .i64 0, .int .i64 0], .agg #[.int .i64 0, .int .i64 0, .int .i64 0]], []⟩ 8 (by kernel_rfl) (by kernel_rfl) (by kernel_rfl) (by kernel_rfl)) ?_
  intro W base args ds gs before hval0 hW hcnd _
  have hval : ∀ (j : Nat) t v, Try.f4.params[j]? = some t → args[j]? = some v → Value.okWide Try.prog W .any base t v := hval0
  have hW' := hW
  obtain ⟨p, q, hA0, hV, _, hfz, hnd⟩ := hW'
  have hA : DataW.TrodAll enc Try.prog W 0 (fun _ => true) true Try.f4.params.toList args.toList ds p := hA0
  rw [Try.params4] at hA hval
  obtain ⟨v0, v1, v2, d0, d1, d2, p0, p1, p2, rfl, _, _, h0, h1, h2⟩ := trodAll_three hA
  obtain ⟨l, hl, fl, kl⟩ := open_charges Try.underlying40 Try.underlying50 (by kernel_rfl) (fun i hi => by match i, hi with | 0, _ => exact ⟨_, rfl, rfl, by kernel_rfl, Try.underlying3⟩ | 1, _ => exact ⟨_, rfl, rfl, by kernel_rfl, Try.underlying3⟩ | 2, _ => exact ⟨_, rfl, rfl, by kernel_rfl, Try.underlying3⟩ | 3, _ => exact ⟨_, rfl, rfl, by kernel_rfl, Try.underlying3⟩ | 4, _ => exact ⟨_, rfl, rfl, by kernel_rfl, Try.underlying3⟩ | 5, _ => exact ⟨_, rfl, rfl, by kernel_rfl, Try.underlying3⟩) (hval 0 40 v0 rfl rfl) h0
  obtain ⟨c10, c11, c12, y10, y11, y12, m1, rfl, _, _, hy10, hy11, hy12⟩ := open_agg3 Try.underlying24 (by kernel_rfl) (by kernel_rfl) (hval 1 24 v1 rfl rfl) h1
  obtain ⟨q, e10, _, wq⟩ := DataW.trod_int Try.underlying3 hy10
  obtain ⟨d, e11, _, wd⟩ := DataW.trod_int Try.underlying3 hy11
  obtain ⟨t, e12, _, wt⟩ := DataW.trod_int Try.underlying3 hy12
  simp at e10 e11 e12
  subst e10 e11 e12
  obtain ⟨u, f, e, rfl, wu, wf, we⟩ := open_arr3 Try.underlying41 Try.underlying3 (by kernel_rfl) (by kernel_rfl) (hval 2 41 v2 rfl rfl) h2
  refine (walk v0 l q d t u f e W hl fl kl wq wd wt wu wf we).mono fun e9 W' h => ?_
  exact law_post (f := Try.f4) rfl rfl Try.underlying4 (by kernel_rfl) (fun ds hd => by
    match ds, hd with
    | [_, _, _], _ => rfl) hW h

theorem over : Rows.traceAllRow.holds Try.pinned (OpenSpec.ofChange Rows.traceAllSpec) :=
  OpenClaim.holds_of_wide 4 Try.f4 rfl rfl rfl rfl rfl rfl rfl ⟨rfl, rfl, rfl, rfl, rfl⟩ rfl rfl rfl rfl rfl (by kernel_rfl) Try.func4 (by kernel_rfl)
    (of_decide_eq_true (by kernel_rfl)) (by unfold Func.isWrapper; first | (rw [if_pos (by decide +kernel)]; kernel_rfl) | (rw [if_neg (by decide +kernel)]; exact ⟨rfl, rfl⟩))
    (fun os started H enc _ => lifted os started H enc)

/-- THE STATEMENT. -/
theorem proved : Rows.TraceAllSaid := over
end Go.Proofs.Ytfpifaccjfgfkaa.traceAll
