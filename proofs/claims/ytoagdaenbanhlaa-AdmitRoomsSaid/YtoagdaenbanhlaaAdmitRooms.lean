/- AdmitRooms answers true at every rule, every servers and every other one. No condition. -/
import Derived.Test.YtoagdaenbanhlaaAdmitCopies
import Derived.Laws.AppendOwnNone
namespace Go.Proofs.Ytoagdaenbanhlaa.admitRooms
open Go.ChangeShapes Go.WideShapes Go.ChangeAt Go.RowKit Go.Joins Go.Shelf Go.Deep

theorem fits_any (hard : Bool) (c k u : Int) (v : Value) (ps : List P3) (w : World) (h : ParamRow w v ps) (hl : ps.length ≤ 1000) (hr : RuleMay c k) (ha : allMay ps = true) (h0 : 0 ≤ u) (h1 : u ≤ 1048576) :
    Calls Try.prog 22 #[.agg #[.bool hard, .int .i64 c, .int .i64 k], v, .int .i64 u] w (Gives (.bool (decide (Fits hard c k (asked hard ps).1 (asked hard ps).2 u))) w) := by
  have L := Lib.hid (refload_any hard v ps (w.alloc (.cells #[.bool hard, .int .i64 c, .int .i64 k] 23)) (h.below (bel_alloc (Below.refl _ _))) hl)
  unfold loadVal at L
  rw [if_pos ha] at L
  obtain ⟨q1, q2⟩ := asked_bound hard ha hl
  generalize asked hard ps = q at *
  obtain ⟨S, M⟩ := q
  simp only at L q1 q2
  show Calls _ _ _ w (Gives (.bool (decide (Fits hard c k (S : Int) (M : Int) u))) w)
  have B := Lib.hid (refbound_any hard c k (max (M : Int) u) hr (by omega) (by omega))
  obtain ⟨E, hE⟩ : ∃ E, boundOf hard c k (max (M : Int) u) = E := ⟨_, rfl⟩
  have hd : decide (Fits hard c k (S : Int) (M : Int) u) = decide ((S : Int) + u ≤ E) := decide_eq_decide.2 (by unfold Fits; rw [hE])
  rw [hE] at B
  rw [hd]
  clear h hl ha hE hr hd
  go_enter Try.func22, Try.ntmps22
  go_wp2_with fail
  refine L.out.mono ?_
  rintro e w2 ⟨rfl, b2⟩
  have x0 := (b2.cell (p := ⟨w.heap.size, 0, none⟩) (by simp)).trans (show _ = some (Value.bool hard) by go_simp)
  have x1 := (b2.cell (p := ⟨w.heap.size, 1, none⟩) (by simp)).trans (show _ = some (Value.int .i64 c) by go_simp)
  have x2 := (b2.cell (p := ⟨w.heap.size, 2, none⟩) (by simp)).trans (show _ = some (Value.int .i64 k) by go_simp)
  have lb : w.heap.size < w2.heap.size := cell_lt x0
  have HB := Lib.hid (bel_end (bel_alloc (Below.refl w.heap.size w)) b2)
  clear b2
  go_wp2_with fail
  refine (B.out _).mono ?_
  rintro e w3 ⟨rfl, rfl⟩
  go_wp2_with fail
  go_ret
  exact ⟨rfl, HB.out⟩
set_option maxRecDepth 100000 in
set_option maxHeartbeats 8000000 in
theorem many (hard : Bool) (c k : Int) (p : P3) (a : Option Addr) (len cap : Nat) (w : World) (hl : 70 < len) : Calls Try.prog 7 #[.agg #[.bool hard, .int .i64 c, .int .i64 k], .slice a len cap, .agg #[.int .i64 p.1, .int .i64 p.2.1, .int .i64 p.2.2]] w (Yes w) := by
  have d1 : decide (70 < (len : Int)) = true := decide_eq_true (by omega)
  clear hl
  go_enter Try.func7, Try.ntmps7
  go_wp2_with (go_at_call 9; refine (awake_yes _).mono ?_; rintro e w' ⟨rfl, hb⟩)
  go_ret
  exact ⟨rfl, bel_end (bel_alloc (bel_alloc (Below.refl _ _))) hb⟩
set_option maxRecDepth 100000 in
set_option maxHeartbeats 8000000 in
theorem fails (hard : Bool) (c k : Int) (p : P3) (a : Option Addr) (len cap : Nat) (ps : List P3) (w : World) (h : ParamRow w (.slice a len cap) ps) (hn : NilOk (.slice a len cap)) (hl : ¬ 70 < len) (ht : testNum hard c k ps ≠ 0) : Calls Try.prog 7 #[.agg #[.bool hard, .int .i64 c, .int .i64 k], .slice a len cap, .agg #[.int .i64 p.1, .int .i64 p.2.1, .int .i64 p.2.2]] w (Yes w) := by
  have hlen := row_len h
  subst hlen
  have d1 : decide (70 < (ps.length : Int)) = false := decide_eq_false (by omega)
  have HP := Lib.hid (h.below (bel_alloc (bel_alloc (Below.refl w.heap.size w)) : Below w.heap.size w ((w.alloc (.cells #[.bool hard, .int .i64 c, .int .i64 k] 23)).alloc (.cells #[.int .i64 p.1, .int .i64 p.2.1, .int .i64 p.2.2] 40))))
  have hl2 : ps.length ≤ 1000 := by omega
  have hl3 : ps.length ≤ 900 := by omega
  have RM := Lib.hid (fun w2 (h2 : Below ((w.alloc (.cells #[.bool hard, .int .i64 c, .int .i64 k] 23)).alloc (.cells #[.int .i64 p.1, .int .i64 p.2.1, .int .i64 p.2.2] 40)).heap.size ((w.alloc (.cells #[.bool hard, .int .i64 c, .int .i64 k] 23)).alloc (.cells #[.int .i64 p.1, .int .i64 p.2.1, .int .i64 p.2.2] 40)) w2) => room_any hard c k _ ps w2 (HP.out.below h2) hl2)
  have CP := Lib.hid (fun w2 (h2 : Below ((w.alloc (.cells #[.bool hard, .int .i64 c, .int .i64 k] 23)).alloc (.cells #[.int .i64 p.1, .int .i64 p.2.1, .int .i64 p.2.2] 40)).heap.size ((w.alloc (.cells #[.bool hard, .int .i64 c, .int .i64 k] 23)).alloc (.cells #[.int .i64 p.1, .int .i64 p.2.1, .int .i64 p.2.2] 40)) w2) => copies_any hard c k p _ ps w2 (HP.out.below h2) hl3 hn)
  have LT := Lib.hid (fun w2 (h2 : Below ((w.alloc (.cells #[.bool hard, .int .i64 c, .int .i64 k] 23)).alloc (.cells #[.int .i64 p.1, .int .i64 p.2.1, .int .i64 p.2.2] 40)).heap.size ((w.alloc (.cells #[.bool hard, .int .i64 c, .int .i64 k] 23)).alloc (.cells #[.int .i64 p.1, .int .i64 p.2.1, .int .i64 p.2.2] 40)) w2) => lawtest_any hard c k _ ps w2 (HP.out.below h2) hl2)
  have RI := Lib.hid (right_any p)
  rw [show roomVal hard c k ps = .tuple #[.int .i64 0, .int .i64 (testNum hard c k ps)] by unfold roomVal; rw [if_neg ht]] at RM
  rw [show copiesVal hard c k ps p = .tuple #[.int .i64 0, .int .i64 (testNum hard c k ps)] by unfold copiesVal; rw [if_neg ht]] at CP
  generalize testNum hard c k ps = T at *
  have e1 : (T == 0) = false := by rw [beq_eq_false_iff_ne]; exact ht
  have e2 : (T != 0) = true := by rw [bne_iff_ne]; exact ht
  clear ht h hn hl hl2 hl3 HP
  go_enter Try.func7, Try.ntmps7
  go_wp2_with fail
  refine (RM.out _ (Below.refl _ _)).mono ?_
  rintro e w1 ⟨rfl, b⟩
  have R1 := Lib.hid (show Below ((w.alloc (.cells #[.bool hard, .int .i64 c, .int .i64 k] 23)).alloc (.cells #[.int .i64 p.1, .int .i64 p.2.1, .int .i64 p.2.2] 40)).heap.size ((w.alloc (.cells #[.bool hard, .int .i64 c, .int .i64 k] 23)).alloc (.cells #[.int .i64 p.1, .int .i64 p.2.1, .int .i64 p.2.2] 40)) w1 from by
    refine bel_end ?_ b
    repeat (first | with_reducible exact Below.refl _ _ | with_reducible refine bel_alloc ?_ | with_reducible refine bel_drew ?_))
  clear b
  obtain ⟨c1_0, c1_1, c1_2, c1_3, c1_4, c1_5, l1_0, l1_1⟩ := cellsRP R1.out
  go_wp2_with fail
  refine (CP.out _ (R1.out)).mono ?_
  rintro e w2 ⟨rfl, b⟩
  have R2 := Lib.hid (show Below ((w.alloc (.cells #[.bool hard, .int .i64 c, .int .i64 k] 23)).alloc (.cells #[.int .i64 p.1, .int .i64 p.2.1, .int .i64 p.2.2] 40)).heap.size ((w.alloc (.cells #[.bool hard, .int .i64 c, .int .i64 k] 23)).alloc (.cells #[.int .i64 p.1, .int .i64 p.2.1, .int .i64 p.2.2] 40)) w2 from by
    refine bel_end ?_ b
    repeat (first | with_reducible exact R1.out | with_reducible refine bel_alloc ?_ | with_reducible refine bel_drew ?_))
  clear b
  clear c1_0 c1_1 c1_2 c1_3 c1_4 c1_5 l1_0 l1_1
  obtain ⟨c2_0, c2_1, c2_2, c2_3, c2_4, c2_5, l2_0, l2_1⟩ := cellsRP R2.out
  go_wp2_with fail
  refine (LT.out _ (R2.out)).mono ?_
  rintro e w3 ⟨rfl, b⟩
  have R3 := Lib.hid (show Below ((w.alloc (.cells #[.bool hard, .int .i64 c, .int .i64 k] 23)).alloc (.cells #[.int .i64 p.1, .int .i64 p.2.1, .int .i64 p.2.2] 40)).heap.size ((w.alloc (.cells #[.bool hard, .int .i64 c, .int .i64 k] 23)).alloc (.cells #[.int .i64 p.1, .int .i64 p.2.1, .int .i64 p.2.2] 40)) w3 from by
    refine bel_end ?_ b
    repeat (first | with_reducible exact R2.out | with_reducible refine bel_alloc ?_ | with_reducible refine bel_drew ?_))
  clear b
  clear c2_0 c2_1 c2_2 c2_3 c2_4 c2_5 l2_0 l2_1
  obtain ⟨c3_0, c3_1, c3_2, c3_3, c3_4, c3_5, l3_0, l3_1⟩ := cellsRP R3.out
  have HB := Lib.hid (bel_end (bel_alloc (bel_alloc (Below.refl w.heap.size w))) R3.out)
  go_wp2_with (go_at_call 9; refine (awake_yes _).mono ?_; rintro e w' ⟨rfl, hb⟩)
  go_ret
  refine ⟨rfl, bel_end ?_ hb⟩
  repeat (first | with_reducible exact HB.out | with_reducible refine bel_alloc ?_ | with_reducible refine bel_drew ?_)
set_option maxRecDepth 100000 in
set_option maxHeartbeats 8000000 in
theorem notMay (hard : Bool) (c k : Int) (p : P3) (a : Option Addr) (len cap : Nat) (ps : List P3) (w : World) (h : ParamRow w (.slice a len cap) ps) (hn : NilOk (.slice a len cap)) (hl : ¬ 70 < len) (ht : testNum hard c k ps = 0) (hp : ¬ May p) : Calls Try.prog 7 #[.agg #[.bool hard, .int .i64 c, .int .i64 k], .slice a len cap, .agg #[.int .i64 p.1, .int .i64 p.2.1, .int .i64 p.2.2]] w (Yes w) := by
  have hlen := row_len h
  subst hlen
  have d1 : decide (70 < (ps.length : Int)) = false := decide_eq_false (by omega)
  have HP := Lib.hid (h.below (bel_alloc (bel_alloc (Below.refl w.heap.size w)) : Below w.heap.size w ((w.alloc (.cells #[.bool hard, .int .i64 c, .int .i64 k] 23)).alloc (.cells #[.int .i64 p.1, .int .i64 p.2.1, .int .i64 p.2.2] 40))))
  have hl2 : ps.length ≤ 1000 := by omega
  have hl3 : ps.length ≤ 900 := by omega
  have RM := Lib.hid (fun w2 (h2 : Below ((w.alloc (.cells #[.bool hard, .int .i64 c, .int .i64 k] 23)).alloc (.cells #[.int .i64 p.1, .int .i64 p.2.1, .int .i64 p.2.2] 40)).heap.size ((w.alloc (.cells #[.bool hard, .int .i64 c, .int .i64 k] 23)).alloc (.cells #[.int .i64 p.1, .int .i64 p.2.1, .int .i64 p.2.2] 40)) w2) => room_any hard c k _ ps w2 (HP.out.below h2) hl2)
  have CP := Lib.hid (fun w2 (h2 : Below ((w.alloc (.cells #[.bool hard, .int .i64 c, .int .i64 k] 23)).alloc (.cells #[.int .i64 p.1, .int .i64 p.2.1, .int .i64 p.2.2] 40)).heap.size ((w.alloc (.cells #[.bool hard, .int .i64 c, .int .i64 k] 23)).alloc (.cells #[.int .i64 p.1, .int .i64 p.2.1, .int .i64 p.2.2] 40)) w2) => copies_any hard c k p _ ps w2 (HP.out.below h2) hl3 hn)
  have LT := Lib.hid (fun w2 (h2 : Below ((w.alloc (.cells #[.bool hard, .int .i64 c, .int .i64 k] 23)).alloc (.cells #[.int .i64 p.1, .int .i64 p.2.1, .int .i64 p.2.2] 40)).heap.size ((w.alloc (.cells #[.bool hard, .int .i64 c, .int .i64 k] 23)).alloc (.cells #[.int .i64 p.1, .int .i64 p.2.1, .int .i64 p.2.2] 40)) w2) => lawtest_any hard c k _ ps w2 (HP.out.below h2) hl2)
  have RI := Lib.hid (right_any p)
  rw [show roomVal hard c k ps = .tuple #[.int .i64 (roomOf hard c k (asked hard ps).1 (asked hard ps).2), .int .i64 0] by unfold roomVal; rw [if_pos ht]] at RM
  rw [show copiesVal hard c k ps p = .tuple #[.int .i64 0, .int .i64 1] by unfold copiesVal; rw [if_pos ht, if_neg hp]] at CP
  rw [ht] at LT
  obtain ⟨hr, ha⟩ := test_zero ht
  have RS := Lib.hid (fun (u : Int) (h0 : 0 ≤ u) (h1 : u ≤ 1048576) => (room_spec ht h0 h1).1)
  obtain ⟨_, n0, n1⟩ := room_spec ht (u := 0) (by omega) (by omega)
  have FI := Lib.hid (fun (u : Int) (h0 : 0 ≤ u) (h1 : u ≤ 1048576) w2 (h2 : Below ((w.alloc (.cells #[.bool hard, .int .i64 c, .int .i64 k] 23)).alloc (.cells #[.int .i64 p.1, .int .i64 p.2.1, .int .i64 p.2.2] 40)).heap.size ((w.alloc (.cells #[.bool hard, .int .i64 c, .int .i64 k] 23)).alloc (.cells #[.int .i64 p.1, .int .i64 p.2.1, .int .i64 p.2.2] 40)) w2) => fits_any hard c k u _ ps w2 (HP.out.below h2) hl2 hr ha h0 h1)
  generalize roomOf hard c k (asked hard ps).1 (asked hard ps).2 = N at *
  have F1 := Lib.hid (fun w2 h2 => FI.out N n0 n1 w2 h2)
  rw [decide_eq_true ((RS.out N n0 n1).2 (Int.le_refl _))] at F1
  have F2 : Hid (∀ hN : N < 1048576, ∀ w2 (h2 : Below ((w.alloc (.cells #[.bool hard, .int .i64 c, .int .i64 k] 23)).alloc (.cells #[.int .i64 p.1, .int .i64 p.2.1, .int .i64 p.2.2] 40)).heap.size ((w.alloc (.cells #[.bool hard, .int .i64 c, .int .i64 k] 23)).alloc (.cells #[.int .i64 p.1, .int .i64 p.2.1, .int .i64 p.2.2] 40)) w2), Calls Try.prog 22 #[.agg #[.bool hard, .int .i64 c, .int .i64 k], .slice a ps.length cap, .int .i64 (N + 1)] w2 (Gives (.bool false) w2)) := fun hN w2 h2 => by
    have := FI.out (N + 1) (by omega) (by omega) w2 h2
    rwa [decide_eq_false (fun h => by have := (RS.out (N + 1) (by omega) (by omega)).1 h; omega)] at this
  have m0 : decide (N < 0) = false := decide_eq_false (by omega)
  have m1 : decide (1048576 < N) = false := decide_eq_false (by omega)
  rw [decide_eq_false hp] at RI
  clear RS FI
  clear ht h hn hl hl3 HP hl2 hp hr ha
  go_enter Try.func7, Try.ntmps7
  go_wp2_with fail
  refine (RM.out _ (Below.refl _ _)).mono ?_
  rintro e w1 ⟨rfl, b⟩
  have R1 := Lib.hid (show Below ((w.alloc (.cells #[.bool hard, .int .i64 c, .int .i64 k] 23)).alloc (.cells #[.int .i64 p.1, .int .i64 p.2.1, .int .i64 p.2.2] 40)).heap.size ((w.alloc (.cells #[.bool hard, .int .i64 c, .int .i64 k] 23)).alloc (.cells #[.int .i64 p.1, .int .i64 p.2.1, .int .i64 p.2.2] 40)) w1 from by
    refine bel_end ?_ b
    repeat (first | with_reducible exact Below.refl _ _ | with_reducible refine bel_alloc ?_ | with_reducible refine bel_drew ?_))
  clear b
  obtain ⟨c1_0, c1_1, c1_2, c1_3, c1_4, c1_5, l1_0, l1_1⟩ := cellsRP R1.out
  go_wp2_with fail
  refine (CP.out _ (R1.out)).mono ?_
  rintro e w2 ⟨rfl, b⟩
  have R2 := Lib.hid (show Below ((w.alloc (.cells #[.bool hard, .int .i64 c, .int .i64 k] 23)).alloc (.cells #[.int .i64 p.1, .int .i64 p.2.1, .int .i64 p.2.2] 40)).heap.size ((w.alloc (.cells #[.bool hard, .int .i64 c, .int .i64 k] 23)).alloc (.cells #[.int .i64 p.1, .int .i64 p.2.1, .int .i64 p.2.2] 40)) w2 from by
    refine bel_end ?_ b
    repeat (first | with_reducible exact R1.out | with_reducible refine bel_alloc ?_ | with_reducible refine bel_drew ?_))
  clear b
  clear c1_0 c1_1 c1_2 c1_3 c1_4 c1_5 l1_0 l1_1
  obtain ⟨c2_0, c2_1, c2_2, c2_3, c2_4, c2_5, l2_0, l2_1⟩ := cellsRP R2.out
  go_wp2_with fail
  refine (LT.out _ (R2.out)).mono ?_
  rintro e w3 ⟨rfl, b⟩
  have R3 := Lib.hid (show Below ((w.alloc (.cells #[.bool hard, .int .i64 c, .int .i64 k] 23)).alloc (.cells #[.int .i64 p.1, .int .i64 p.2.1, .int .i64 p.2.2] 40)).heap.size ((w.alloc (.cells #[.bool hard, .int .i64 c, .int .i64 k] 23)).alloc (.cells #[.int .i64 p.1, .int .i64 p.2.1, .int .i64 p.2.2] 40)) w3 from by
    refine bel_end ?_ b
    repeat (first | with_reducible exact R2.out | with_reducible refine bel_alloc ?_ | with_reducible refine bel_drew ?_))
  clear b
  clear c2_0 c2_1 c2_2 c2_3 c2_4 c2_5 l2_0 l2_1
  obtain ⟨c3_0, c3_1, c3_2, c3_3, c3_4, c3_5, l3_0, l3_1⟩ := cellsRP R3.out
  go_upto_region 8 with fail
  go_cut [82] from 55 to 81 (fun s wx => s = .bool false ∧ Below ((w.alloc (.cells #[.bool hard, .int .i64 c, .int .i64 k] 23)).alloc (.cells #[.int .i64 p.1, .int .i64 p.2.1, .int .i64 p.2.2] 40)).heap.size ((w.alloc (.cells #[.bool hard, .int .i64 c, .int .i64 k] 23)).alloc (.cells #[.int .i64 p.1, .int .i64 p.2.1, .int .i64 p.2.2] 40)) wx)
  case first =>
    by_cases hN : N < 1048576
    · have m2 : decide (N < 1048576) = true := decide_eq_true hN
      have F3 := Lib.hid (F2.out hN)
      go_wp2_with fail
      refine (F1.out _ R3.out).mono ?_
      rintro e w4 ⟨rfl, b⟩
      have R4 := Lib.hid (bel_end R3.out b)
      clear b c3_0 c3_1 c3_2 c3_3 c3_4 c3_5 l3_0 l3_1
      obtain ⟨d0, d1', d2, d3, d4, d5, l0, l1⟩ := cellsRP R4.out
      go_wp2_with fail
      refine (F3.out _ R4.out).mono ?_
      rintro e w5 ⟨rfl, b⟩
      have R5 := Lib.hid (bel_end R4.out b)
      clear b
      go_wp2_with fail
      go_meet
      exact ⟨by first | rfl | simp, R5.out⟩
    · have m2 : decide (N < 1048576) = false := decide_eq_false hN
      go_wp2_with fail
      refine (F1.out _ R3.out).mono ?_
      rintro e w4 ⟨rfl, b⟩
      have R4 := Lib.hid (bel_end R3.out b)
      clear b
      go_wp2_with fail
      go_meet
      exact ⟨by first | rfl | simp, R4.out⟩
  case rest =>
  obtain ⟨rfl, r8⟩ := hcut
  have R8 := Lib.hid r8
  clear r8 c3_0 c3_1 c3_2 c3_3 c3_4 c3_5 l3_0 l3_1
  obtain ⟨c8_0, c8_1, c8_2, c8_3, c8_4, c8_5, l8_0, l8_1⟩ := cellsRP R8.out
  go_wp2_with fail
  refine (RI.out _).mono ?_
  rintro e w9 ⟨rfl, b⟩
  have R9 := Lib.hid (bel_end R8.out b)
  clear b c8_0 c8_1 c8_2 c8_3 c8_4 c8_5 l8_0 l8_1
  have HB := Lib.hid (bel_end (bel_alloc (bel_alloc (Below.refl w.heap.size w))) R9.out)
  go_wp2_with (go_at_call 9; refine (awake_yes _).mono ?_; rintro e w' ⟨rfl, hb⟩)
  go_ret
  refine ⟨rfl, bel_end ?_ hb⟩
  repeat (first | with_reducible exact HB.out | with_reducible refine bel_alloc ?_ | with_reducible refine bel_drew ?_)
set_option maxRecDepth 100000 in
set_option maxHeartbeats 8000000 in
theorem may (hard : Bool) (c k : Int) (p : P3) (a : Option Addr) (len cap : Nat) (ps : List P3) (w : World) (h : ParamRow w (.slice a len cap) ps) (hn : NilOk (.slice a len cap)) (hl : ¬ 70 < len) (ht : testNum hard c k ps = 0) (hp : May p) : Calls Try.prog 7 #[.agg #[.bool hard, .int .i64 c, .int .i64 k], .slice a len cap, .agg #[.int .i64 p.1, .int .i64 p.2.1, .int .i64 p.2.2]] w (Yes w) := by
  have hlen := row_len h
  subst hlen
  have d1 : decide (70 < (ps.length : Int)) = false := decide_eq_false (by omega)
  have HP := Lib.hid (h.below (bel_alloc (bel_alloc (Below.refl w.heap.size w)) : Below w.heap.size w ((w.alloc (.cells #[.bool hard, .int .i64 c, .int .i64 k] 23)).alloc (.cells #[.int .i64 p.1, .int .i64 p.2.1, .int .i64 p.2.2] 40))))
  have hl2 : ps.length ≤ 1000 := by omega
  have hl3 : ps.length ≤ 900 := by omega
  have RM := Lib.hid (fun w2 (h2 : Below ((w.alloc (.cells #[.bool hard, .int .i64 c, .int .i64 k] 23)).alloc (.cells #[.int .i64 p.1, .int .i64 p.2.1, .int .i64 p.2.2] 40)).heap.size ((w.alloc (.cells #[.bool hard, .int .i64 c, .int .i64 k] 23)).alloc (.cells #[.int .i64 p.1, .int .i64 p.2.1, .int .i64 p.2.2] 40)) w2) => room_any hard c k _ ps w2 (HP.out.below h2) hl2)
  have CP := Lib.hid (fun w2 (h2 : Below ((w.alloc (.cells #[.bool hard, .int .i64 c, .int .i64 k] 23)).alloc (.cells #[.int .i64 p.1, .int .i64 p.2.1, .int .i64 p.2.2] 40)).heap.size ((w.alloc (.cells #[.bool hard, .int .i64 c, .int .i64 k] 23)).alloc (.cells #[.int .i64 p.1, .int .i64 p.2.1, .int .i64 p.2.2] 40)) w2) => copies_any hard c k p _ ps w2 (HP.out.below h2) hl3 hn)
  have LT := Lib.hid (fun w2 (h2 : Below ((w.alloc (.cells #[.bool hard, .int .i64 c, .int .i64 k] 23)).alloc (.cells #[.int .i64 p.1, .int .i64 p.2.1, .int .i64 p.2.2] 40)).heap.size ((w.alloc (.cells #[.bool hard, .int .i64 c, .int .i64 k] 23)).alloc (.cells #[.int .i64 p.1, .int .i64 p.2.1, .int .i64 p.2.2] 40)) w2) => lawtest_any hard c k _ ps w2 (HP.out.below h2) hl2)
  have RI := Lib.hid (right_any p)
  rw [show roomVal hard c k ps = .tuple #[.int .i64 (roomOf hard c k (asked hard ps).1 (asked hard ps).2), .int .i64 0] by unfold roomVal; rw [if_pos ht]] at RM
  rw [show copiesVal hard c k ps p = .tuple #[.int .i64 (copiesOf hard c k ps p : Nat), .int .i64 0] by unfold copiesVal; rw [if_pos ht, if_pos hp]] at CP
  rw [ht] at LT
  obtain ⟨hr, ha⟩ := test_zero ht
  have RS := Lib.hid (fun (u : Int) (h0 : 0 ≤ u) (h1 : u ≤ 1048576) => (room_spec ht h0 h1).1)
  obtain ⟨_, n0, n1⟩ := room_spec ht (u := 0) (by omega) (by omega)
  have FI := Lib.hid (fun (u : Int) (h0 : 0 ≤ u) (h1 : u ≤ 1048576) w2 (h2 : Below ((w.alloc (.cells #[.bool hard, .int .i64 c, .int .i64 k] 23)).alloc (.cells #[.int .i64 p.1, .int .i64 p.2.1, .int .i64 p.2.2] 40)).heap.size ((w.alloc (.cells #[.bool hard, .int .i64 c, .int .i64 k] 23)).alloc (.cells #[.int .i64 p.1, .int .i64 p.2.1, .int .i64 p.2.2] 40)) w2) => fits_any hard c k u _ ps w2 (HP.out.below h2) hl2 hr ha h0 h1)
  generalize roomOf hard c k (asked hard ps).1 (asked hard ps).2 = N at *
  have F1 := Lib.hid (fun w2 h2 => FI.out N n0 n1 w2 h2)
  rw [decide_eq_true ((RS.out N n0 n1).2 (Int.le_refl _))] at F1
  have F2 : Hid (∀ hN : N < 1048576, ∀ w2 (h2 : Below ((w.alloc (.cells #[.bool hard, .int .i64 c, .int .i64 k] 23)).alloc (.cells #[.int .i64 p.1, .int .i64 p.2.1, .int .i64 p.2.2] 40)).heap.size ((w.alloc (.cells #[.bool hard, .int .i64 c, .int .i64 k] 23)).alloc (.cells #[.int .i64 p.1, .int .i64 p.2.1, .int .i64 p.2.2] 40)) w2), Calls Try.prog 22 #[.agg #[.bool hard, .int .i64 c, .int .i64 k], .slice a ps.length cap, .int .i64 (N + 1)] w2 (Gives (.bool false) w2)) := fun hN w2 h2 => by
    have := FI.out (N + 1) (by omega) (by omega) w2 h2
    rwa [decide_eq_false (fun h => by have := (RS.out (N + 1) (by omega) (by omega)).1 h; omega)] at this
  have m0 : decide (N < 0) = false := decide_eq_false (by omega)
  have m1 : decide (1048576 < N) = false := decide_eq_false (by omega)
  rw [decide_eq_true hp] at RI
  clear RS FI
  have TN := Lib.hid (fun (n : Nat) (hn : n < 64) v2 w2 (h2 : ParamRow w2 v2 (ps ++ List.replicate (n + 1) p)) => lawtest_any hard c k v2 _ w2 h2 (by rw [List.length_append, List.length_replicate]; omega))
  have hcle : copiesOf hard c k ps p ≤ 64 := (cnt_ge hard c k ps p 64 0).2
  obtain ⟨m, hm⟩ : ∃ m, copiesOf hard c k ps p = m := ⟨_, rfl⟩
  rw [hm] at CP hcle
  have HM := Lib.hid hm
  obtain ⟨i0, hi1, hz0, hz1, hz2⟩ := info_parts Try.infoParams
  clear hm
  clear ht h hl hl3 hp hr ha
  go_enter Try.func7, Try.ntmps7
  go_wp2_with fail
  refine (RM.out _ (Below.refl _ _)).mono ?_
  rintro e w1 ⟨rfl, b⟩
  have R1 := Lib.hid (show Below ((w.alloc (.cells #[.bool hard, .int .i64 c, .int .i64 k] 23)).alloc (.cells #[.int .i64 p.1, .int .i64 p.2.1, .int .i64 p.2.2] 40)).heap.size ((w.alloc (.cells #[.bool hard, .int .i64 c, .int .i64 k] 23)).alloc (.cells #[.int .i64 p.1, .int .i64 p.2.1, .int .i64 p.2.2] 40)) w1 from by
    refine bel_end ?_ b
    repeat (first | with_reducible exact Below.refl _ _ | with_reducible refine bel_alloc ?_ | with_reducible refine bel_drew ?_))
  clear b
  obtain ⟨c1_0, c1_1, c1_2, c1_3, c1_4, c1_5, l1_0, l1_1⟩ := cellsRP R1.out
  go_wp2_with fail
  refine (CP.out _ (R1.out)).mono ?_
  rintro e w2 ⟨rfl, b⟩
  have R2 := Lib.hid (show Below ((w.alloc (.cells #[.bool hard, .int .i64 c, .int .i64 k] 23)).alloc (.cells #[.int .i64 p.1, .int .i64 p.2.1, .int .i64 p.2.2] 40)).heap.size ((w.alloc (.cells #[.bool hard, .int .i64 c, .int .i64 k] 23)).alloc (.cells #[.int .i64 p.1, .int .i64 p.2.1, .int .i64 p.2.2] 40)) w2 from by
    refine bel_end ?_ b
    repeat (first | with_reducible exact R1.out | with_reducible refine bel_alloc ?_ | with_reducible refine bel_drew ?_))
  clear b
  clear c1_0 c1_1 c1_2 c1_3 c1_4 c1_5 l1_0 l1_1
  obtain ⟨c2_0, c2_1, c2_2, c2_3, c2_4, c2_5, l2_0, l2_1⟩ := cellsRP R2.out
  go_wp2_with fail
  refine (LT.out _ (R2.out)).mono ?_
  rintro e w3 ⟨rfl, b⟩
  have R3 := Lib.hid (show Below ((w.alloc (.cells #[.bool hard, .int .i64 c, .int .i64 k] 23)).alloc (.cells #[.int .i64 p.1, .int .i64 p.2.1, .int .i64 p.2.2] 40)).heap.size ((w.alloc (.cells #[.bool hard, .int .i64 c, .int .i64 k] 23)).alloc (.cells #[.int .i64 p.1, .int .i64 p.2.1, .int .i64 p.2.2] 40)) w3 from by
    refine bel_end ?_ b
    repeat (first | with_reducible exact R2.out | with_reducible refine bel_alloc ?_ | with_reducible refine bel_drew ?_))
  clear b
  clear c2_0 c2_1 c2_2 c2_3 c2_4 c2_5 l2_0 l2_1
  obtain ⟨c3_0, c3_1, c3_2, c3_3, c3_4, c3_5, l3_0, l3_1⟩ := cellsRP R3.out
  go_upto_region 8 with fail
  go_cut [82] from 55 to 81 (fun s wx => s = .bool false ∧ Below ((w.alloc (.cells #[.bool hard, .int .i64 c, .int .i64 k] 23)).alloc (.cells #[.int .i64 p.1, .int .i64 p.2.1, .int .i64 p.2.2] 40)).heap.size ((w.alloc (.cells #[.bool hard, .int .i64 c, .int .i64 k] 23)).alloc (.cells #[.int .i64 p.1, .int .i64 p.2.1, .int .i64 p.2.2] 40)) wx)
  case first =>
    by_cases hN : N < 1048576
    · have m2 : decide (N < 1048576) = true := decide_eq_true hN
      have F3 := Lib.hid (F2.out hN)
      go_wp2_with fail
      refine (F1.out _ R3.out).mono ?_
      rintro e w4 ⟨rfl, b⟩
      have R4 := Lib.hid (bel_end R3.out b)
      clear b c3_0 c3_1 c3_2 c3_3 c3_4 c3_5 l3_0 l3_1
      obtain ⟨d0, d1', d2, d3, d4, d5, l0, l1⟩ := cellsRP R4.out
      go_wp2_with fail
      refine (F3.out _ R4.out).mono ?_
      rintro e w5 ⟨rfl, b⟩
      have R5 := Lib.hid (bel_end R4.out b)
      clear b
      go_wp2_with fail
      go_meet
      exact ⟨by first | rfl | simp, R5.out⟩
    · have m2 : decide (N < 1048576) = false := decide_eq_false hN
      go_wp2_with fail
      refine (F1.out _ R3.out).mono ?_
      rintro e w4 ⟨rfl, b⟩
      have R4 := Lib.hid (bel_end R3.out b)
      clear b
      go_wp2_with fail
      go_meet
      exact ⟨by first | rfl | simp, R4.out⟩
  case rest =>
  obtain ⟨rfl, r8⟩ := hcut
  have R8 := Lib.hid r8
  clear r8 c3_0 c3_1 c3_2 c3_3 c3_4 c3_5 l3_0 l3_1
  obtain ⟨c8_0, c8_1, c8_2, c8_3, c8_4, c8_5, l8_0, l8_1⟩ := cellsRP R8.out
  go_wp2_with fail
  refine (RI.out _).mono ?_
  rintro e w9 ⟨rfl, b⟩
  have R9 := Lib.hid (bel_end R8.out b)
  clear b c8_0 c8_1 c8_2 c8_3 c8_4 c8_5 l8_0 l8_1
  go_upto_region 14 with fail
  go_cut [13] from 95 to 97 (fun s wx => Owns wx w9.heap.size s ps ∧ Below w9.heap.size w9 wx)
  case first =>
    cases a with
    | none =>
      obtain ⟨h0, h00⟩ := hn _ _ rfl
      have hps : ps = [] := List.length_eq_zero_iff.1 h0
      subst hps
      subst h00
      go_wp2_with (at_builtin; refine wpList_append_own_none rfl _ _ 24 rfl w9.heap.size 40 i0 3 Try.underlying24 hi1 _ 0 [] rfl (own_nil _ _) rfl ?_)
      go_meet
      exact ⟨own_nil _ _, Below.refl _ _⟩
    | some ad =>
      go_wp2_with (at_builtin; (refine wpList_append_own _ rfl _ _ 24 rfl w9.heap.size 40 i0 (.agg #[.int .i64 0, .int .i64 0, .int .i64 0]) 3 24 Try.underlying24 hi1 hz0 hz1 hz2 rfl (by decide) _ 0 [] rfl (own_nil _ _) ad ps.length cap (pcells ps) rfl (pcells_length ps) (row_cells (HP.out.below R9.out)).2 (pcells_one ps) (by unfold maxLen; omega) (by omega) (Nat.le_refl _) ?_); intro v' w2 hown hgrow _)
      simp only [Nat.zero_add, List.nil_append] at hown
      go_meet
      exact ⟨hown, (Below.refl w9.heap.size w9).grown hgrow (Nat.le_refl _) (fun k e => by cases e)⟩
  case rest =>
  obtain ⟨hown, b⟩ := hcut
  have HO := Lib.hid hown
  have HB := Lib.hid b
  clear hown b CP RM LT F1 F2 HP RI
  go_wp2_with fail
  go_loopw [12, 13] (fun i s wr => ∃ n : Nat, n ≤ 64 ∧ i = .int .i64 n ∧ Owns wr w9.heap.size s (ps ++ List.replicate n p) ∧ Below w9.heap.size w9 wr ∧ copiesOf hard c k ps p = cntFrom hard c k ps p (64 - n) n) (fun i _ _ => 64 - (intOf i).toNat)
  case atStart => exact ⟨0, by omega, rfl, by rw [show ps ++ List.replicate 0 p = ps from List.append_nil ps]; exact HO.out, HB.out, rfl⟩
  case round =>
    obtain ⟨n, hn', rfl, hown, hbw, hcn⟩ := hrel
    have HO1 := Lib.hid hown
    have HB1 := Lib.hid hbw
    have HC := Lib.hid hcn
    have R := Lib.hid (bel_end R9.out hbw)
    clear hown hbw hcn HO HB
    obtain ⟨d0, d1', d2, d3, d4, d5, l0, l1⟩ := cellsRP R.out
    by_cases hlt : n < 64
    · have hlt' : (n : Int) < 64 := by omega
      go_upto_region 16 with fail
      go_cut [13] from 100 to 103 (fun s wx => Owns wx w9.heap.size s (ps ++ List.replicate (n + 1) p) ∧ Below w9.heap.size w9 wx)
      case first =>
        have hln : (ps ++ List.replicate n p).length + 1 = (ps ++ List.replicate (n + 1) p).length := by rw [List.length_append, List.length_append, List.length_replicate, List.length_replicate]; omega
        go_wp2_with (at_builtin; (refine wpList_append_own _ rfl _ _ 24 rfl w9.heap.size 40 i0 (.agg #[.int .i64 0, .int .i64 0, .int .i64 0]) 3 24 Try.underlying24 hi1 hz0 hz1 hz2 rfl (by decide) _ _ _ rfl (HO1.out.alloc _) ⟨wr.heap.size, 0, none⟩ 1 1 (pcells [p]) rfl rfl (fun j u hj => by obtain ⟨i', c', hi', hc', rfl, rfl⟩ := pcells_at hj; obtain rfl : i' = 0 := Nat.lt_one_iff.1 hi'; match c', hc' with | 0, _ => exact (by simp [Addr.add, pc]) | 1, _ => exact (by simp [Addr.add, pc]) | 2, _ => exact (by simp [Addr.add, pc])) (pcells_one _) (by unfold maxLen; rw [List.length_append, List.length_replicate]; omega) (by rw [List.length_append, List.length_replicate]; omega) (Nat.le_trans HB1.out.size (by simp)) ?_); intro v2 w3 hown hgrow _)
        rw [← pcells_append, hln, rep_snoc] at hown
        go_meet
        exact ⟨hown, (HB1.out.alloc HB1.out.size _).grown hgrow (Nat.le_trans HB1.out.size (by simp)) (own_block HO1.out)⟩
      case rest =>
      obtain ⟨hown, hbw⟩ := hcut
      have HO2 := Lib.hid hown
      have HB2 := Lib.hid hbw
      have R2 := Lib.hid (bel_end R9.out hbw)
      clear hown hbw HO1 HB1 R d0 d1' d2 d3 d4 d5 l0 l1
      obtain ⟨d0, d1', d2, d3, d4, d5, l0, l1⟩ := cellsRP R2.out
      have T := Lib.hid (TN.out n hlt _ _ (owns_row HO2.out).1)
      by_cases hT : testNum hard c k (ps ++ List.replicate (n + 1) p) = 0
      · have HS := Lib.hid (cnt_step hlt hT)
        rw [hT] at T
        clear hT
        go_wp2_with fail
        refine T.out.mono ?_
        rintro e w3 ⟨rfl, b3⟩
        have HO3 := Lib.hid (owns_below HO2.out b3)
        have HB3 := Lib.hid (bel_end HB2.out b3)
        clear b3 HO2 HB2 R2 d0 d1' d2 d3 d4 d5 l0 l1
        go_wp2_with fail
        go_roundw
        case rel => exact ⟨n + 1, by omega, by simp, HO3.out, HB3.out, by rw [HC.out, HS.out]⟩
        case measure => first | (simp [intOf]; done) | (simp [intOf]; omega)
      · obtain rfl : m = n := by rw [← HM.out, HC.out, cnt_stop hlt hT]
        generalize testNum hard c k (ps ++ List.replicate (m + 1) p) = t at *
        have e1 : (t == 0) = false := by rw [beq_eq_false_iff_ne]; exact hT
        have e2 : (t != 0) = true := by rw [bne_iff_ne]; exact hT
        clear hT
        go_wp2_with fail
        refine T.out.mono ?_
        rintro e w3 ⟨rfl, b3⟩
        have HE := Lib.hid (bel_end (bel_alloc (bel_alloc (Below.refl w.heap.size w))) (bel_end R9.out (bel_end HB2.out b3)))
        clear b3
        go_wp2_with (go_at_call 9; refine (awake_yes _).mono ?_; rintro e w' ⟨rfl, hb⟩)
        go_ret
        exact ⟨rfl, bel_end HE.out hb⟩
    · obtain rfl : n = 64 := by omega
      obtain rfl : m = 64 := by rw [← HM.out, HC.out]; rfl
      have HE := Lib.hid (bel_end (bel_alloc (bel_alloc (Below.refl w.heap.size w))) R.out)
      go_wp2_with (go_at_call 9; refine (awake_yes _).mono ?_; rintro e w' ⟨rfl, hb⟩)
      go_ret
      exact ⟨rfl, bel_end HE.out hb⟩
theorem walk (hard : Bool) (c k : Int) (v : Value) (ps : List P3) (q d t : Int) (w : World) (_ : (Lit.int .i64 c).wf = true) (_ : (Lit.int .i64 k).wf = true) (hps : ParamRow w v ps) (hn : NilOk v) (_ : (Lit.int .i64 q).wf = true) (_ : (Lit.int .i64 d).wf = true) (_ : (Lit.int .i64 t).wf = true) : Calls Try.prog 7 #[.agg #[.bool hard, .int .i64 c, .int .i64 k], v, .agg #[.int .i64 q, .int .i64 d, .int .i64 t]] w (Yes w) := by
  obtain ⟨a, len, cap, rfl⟩ := row_slice hps
  by_cases hl : 70 < len
  · exact many hard c k (q, d, t) a len cap w hl
  by_cases ht : testNum hard c k ps = 0
  · by_cases hp : May (q, d, t)
    · exact may hard c k (q, d, t) a len cap ps w hps hn hl ht hp
    · exact notMay hard c k (q, d, t) a len cap ps w hps hn hl ht hp
  · exact fails hard c k (q, d, t) a len cap ps w hps hn hl ht

set_option maxRecDepth 100000 in
theorem lifted (os : Os) (started : os.Started) (H : Type) (enc : TypeId × Value → H) :
    ReturnsInHanded {} Try.checked os 7 .any (Rows.admitRoomsSpec.pre6 enc Try.prog Try.f7 Rows.admitRoomsRow.domain false) (Rows.admitRoomsSpec.post enc Try.prog Try.f7 false true false false) := by
  refine returnsInHanded_of_change (C := Try.checked) own started (by kernel_rfl) Try.func7
    (ChangeSpec.witness6 (enc := enc) (C := Try.checked) false ⟨#[], #[.agg #[.bool false, .int .i64 0, .int .i64 0], .slice none 0 0, .agg #[.int .i64 0, .int .i64 0, .int .i64 0]], []⟩ 8 (by kernel_rfl) (by kernel_rfl) (by kernel_rfl) (by kernel_rfl)) ?_
  intro W base args ds gs before hval0 hW hcnd _
  have hval : ∀ (j : Nat) t v, Try.f7.params[j]? = some t → args[j]? = some v → Value.okWide Try.prog W .any base t v := hval0
  have hW' := hW
  obtain ⟨p, q, hA0, hV, _, hfz, hnd⟩ := hW'
  have hA : DataW.TrodAll enc Try.prog W 0 (fun _ => true) true Try.f7.params.toList args.toList ds p := hA0
  rw [Try.params7] at hA hval
  obtain ⟨v0, v1, v2, d0, d1, d2, p0, p1, p2, rfl, _, _, h0, h1, h2⟩ := trodAll_three hA
  obtain ⟨c00, c01, c02, y00, y01, y02, m0, rfl, _, _, hy00, hy01, hy02⟩ := open_agg3 Try.underlying23 (by kernel_rfl) (by kernel_rfl) (hval 0 23 v0 rfl rfl) h0
  obtain ⟨hard, e00, _⟩ := DataW.trod_bool Try.underlying4 hy00
  obtain ⟨c, e01, _, wc⟩ := DataW.trod_int Try.underlying3 hy01
  obtain ⟨k, e02, _, wk⟩ := DataW.trod_int Try.underlying3 hy02
  simp at e00 e01 e02
  subst e00 e01 e02
  obtain ⟨ps, hps, fps, lps⟩ := open_params Try.underlying24 Try.underlying40 (by kernel_rfl) (fun i hi => by match i, hi with | 0, _ => exact ⟨_, rfl, rfl, by kernel_rfl, Try.underlying3⟩ | 1, _ => exact ⟨_, rfl, rfl, by kernel_rfl, Try.underlying3⟩ | 2, _ => exact ⟨_, rfl, rfl, by kernel_rfl, Try.underlying3⟩) (hval 1 24 v1 rfl rfl) h1
  have nps := open_nil Try.underlying24 (hval 1 24 v1 rfl rfl) h1
  obtain ⟨c20, c21, c22, y20, y21, y22, m2, rfl, _, _, hy20, hy21, hy22⟩ := open_agg3 Try.underlying40 (by kernel_rfl) (by kernel_rfl) (hval 2 40 v2 rfl rfl) h2
  obtain ⟨q, e20, _, wq⟩ := DataW.trod_int Try.underlying3 hy20
  obtain ⟨d, e21, _, wd⟩ := DataW.trod_int Try.underlying3 hy21
  obtain ⟨t, e22, _, wt⟩ := DataW.trod_int Try.underlying3 hy22
  simp at e20 e21 e22
  subst e20 e21 e22
  refine (walk hard c k v1 ps q d t W wc wk hps nps wq wd wt).mono fun e W' h => ?_
  exact law_post (f := Try.f7) rfl rfl Try.underlying4 (by kernel_rfl) (fun ds hd => by
    match ds, hd with
    | [_, _, _], _ => rfl) hW h

theorem over : Rows.admitRoomsRow.holds Try.pinned (OpenSpec.ofChange Rows.admitRoomsSpec) :=
  OpenClaim.holds_of_wide 7 Try.f7 rfl rfl rfl rfl rfl rfl rfl ⟨rfl, rfl, rfl, rfl, rfl⟩ rfl rfl rfl rfl rfl (by kernel_rfl) Try.func7 (by kernel_rfl)
    (of_decide_eq_true (by kernel_rfl)) (by unfold Func.isWrapper; first | (rw [if_pos (by decide +kernel)]; kernel_rfl) | (rw [if_neg (by decide +kernel)]; exact ⟨rfl, rfl⟩))
    (fun os started H enc _ => lifted os started H enc)

/-- THE STATEMENT. -/
theorem proved : Rows.AdmitRoomsSaid := over
end Go.Proofs.Ytoagdaenbanhlaa.admitRooms
