/- AdmitBeside answers true at every rule, every servers and every other one. No condition. -/
import Derived.Test.YtoagdaenbanhlaaAdmitCopies
import Derived.Laws.AppendOwnNone
namespace Go.Proofs.Ytoagdaenbanhlaa.admitBeside
open Go.ChangeShapes Go.WideShapes Go.ChangeAt Go.RowKit Go.Joins Go.Shelf Go.Deep

set_option maxRecDepth 100000 in
set_option maxHeartbeats 8000000 in
theorem many (hard : Bool) (c k : Int) (p : P3) (a : Option Addr) (len cap : Nat) (w : World) (hl : 60 < len) : Calls Try.prog 8 #[.agg #[.bool hard, .int .i64 c, .int .i64 k], .slice a len cap, .agg #[.int .i64 p.1, .int .i64 p.2.1, .int .i64 p.2.2]] w (Yes w) := by
  have d1 : decide (60 < (len : Int)) = true := decide_eq_true (by omega)
  clear hl
  go_enter Try.func8, Try.ntmps8
  go_wp2_with (go_at_call 9; refine (awake_yes _).mono ?_; rintro e w' ⟨rfl, hb⟩)
  go_ret
  exact ⟨rfl, bel_end (bel_alloc (bel_alloc (Below.refl _ _))) hb⟩
set_option maxRecDepth 100000 in
set_option maxHeartbeats 8000000 in
theorem notMay (hard : Bool) (c k : Int) (p : P3) (a : Option Addr) (len cap : Nat) (w : World) (hl : ¬ 60 < len) (hp : ¬ May p) : Calls Try.prog 8 #[.agg #[.bool hard, .int .i64 c, .int .i64 k], .slice a len cap, .agg #[.int .i64 p.1, .int .i64 p.2.1, .int .i64 p.2.2]] w (Yes w) := by
  have d1 : decide (60 < (len : Int)) = false := decide_eq_false (by omega)
  have RI := Lib.hid (right_any p)
  rw [decide_eq_false hp] at RI
  clear hl hp
  go_enter Try.func8, Try.ntmps8
  go_wp2_with fail
  refine (RI.out _).mono ?_
  rintro e w1 ⟨rfl, b⟩
  have R1 := Lib.hid (show Below ((w.alloc (.cells #[.bool hard, .int .i64 c, .int .i64 k] 23)).alloc (.cells #[.int .i64 p.1, .int .i64 p.2.1, .int .i64 p.2.2] 40)).heap.size ((w.alloc (.cells #[.bool hard, .int .i64 c, .int .i64 k] 23)).alloc (.cells #[.int .i64 p.1, .int .i64 p.2.1, .int .i64 p.2.2] 40)) w1 from by
    refine bel_end ?_ b
    repeat (first | with_reducible exact Below.refl _ _ | with_reducible refine bel_alloc ?_ | with_reducible refine bel_drew ?_))
  clear b
  have HB := Lib.hid (bel_end (bel_alloc (bel_alloc (Below.refl w.heap.size w))) R1.out)
  go_wp2_with (go_at_call 9; refine (awake_yes _).mono ?_; rintro e w' ⟨rfl, hb⟩)
  go_ret
  refine ⟨rfl, bel_end ?_ hb⟩
  repeat (first | with_reducible exact HB.out | with_reducible refine bel_alloc ?_ | with_reducible refine bel_drew ?_)
set_option maxRecDepth 100000 in
set_option maxHeartbeats 8000000 in
theorem fails (hard : Bool) (c k : Int) (p : P3) (a : Option Addr) (len cap : Nat) (ps : List P3) (w : World) (h : ParamRow w (.slice a len cap) ps) (hl : ¬ 60 < len) (hp : May p) (ht : testNum hard c k ps ≠ 0) : Calls Try.prog 8 #[.agg #[.bool hard, .int .i64 c, .int .i64 k], .slice a len cap, .agg #[.int .i64 p.1, .int .i64 p.2.1, .int .i64 p.2.2]] w (Yes w) := by
  have hlen := row_len h
  subst hlen
  have d1 : decide (60 < (ps.length : Int)) = false := decide_eq_false (by omega)
  have HP := Lib.hid (h.below (bel_alloc (bel_alloc (Below.refl w.heap.size w)) : Below w.heap.size w ((w.alloc (.cells #[.bool hard, .int .i64 c, .int .i64 k] 23)).alloc (.cells #[.int .i64 p.1, .int .i64 p.2.1, .int .i64 p.2.2] 40))))
  have hl2 : ps.length ≤ 60 := by omega
  have TS := Lib.hid (fun w2 (h2 : Below ((w.alloc (.cells #[.bool hard, .int .i64 c, .int .i64 k] 23)).alloc (.cells #[.int .i64 p.1, .int .i64 p.2.1, .int .i64 p.2.2] 40)).heap.size ((w.alloc (.cells #[.bool hard, .int .i64 c, .int .i64 k] 23)).alloc (.cells #[.int .i64 p.1, .int .i64 p.2.1, .int .i64 p.2.2] 40)) w2) => test_any hard c k _ ps w2 (HP.out.below h2) (by omega))
  have RI := Lib.hid (right_any p)
  rw [decide_eq_true hp] at RI
  generalize testNum hard c k ps = T at *
  have e1 : (T == 0) = false := by rw [beq_eq_false_iff_ne]; exact ht
  have e2 : (T != 0) = true := by rw [bne_iff_ne]; exact ht
  clear ht h hl hl2 HP hp
  go_enter Try.func8, Try.ntmps8
  go_wp2_with fail
  refine (RI.out _).mono ?_
  rintro e w1 ⟨rfl, b⟩
  have R1 := Lib.hid (show Below ((w.alloc (.cells #[.bool hard, .int .i64 c, .int .i64 k] 23)).alloc (.cells #[.int .i64 p.1, .int .i64 p.2.1, .int .i64 p.2.2] 40)).heap.size ((w.alloc (.cells #[.bool hard, .int .i64 c, .int .i64 k] 23)).alloc (.cells #[.int .i64 p.1, .int .i64 p.2.1, .int .i64 p.2.2] 40)) w1 from by
    refine bel_end ?_ b
    repeat (first | with_reducible exact Below.refl _ _ | with_reducible refine bel_alloc ?_ | with_reducible refine bel_drew ?_))
  clear b
  obtain ⟨c1_0, c1_1, c1_2, c1_3, c1_4, c1_5, l1_0, l1_1⟩ := cellsRP R1.out
  go_wp2_with fail
  refine (TS.out _ (R1.out)).mono ?_
  rintro e w2 ⟨rfl, b⟩
  have R2 := Lib.hid (show Below ((w.alloc (.cells #[.bool hard, .int .i64 c, .int .i64 k] 23)).alloc (.cells #[.int .i64 p.1, .int .i64 p.2.1, .int .i64 p.2.2] 40)).heap.size ((w.alloc (.cells #[.bool hard, .int .i64 c, .int .i64 k] 23)).alloc (.cells #[.int .i64 p.1, .int .i64 p.2.1, .int .i64 p.2.2] 40)) w2 from by
    refine bel_end ?_ b
    repeat (first | with_reducible exact R1.out | with_reducible refine bel_alloc ?_ | with_reducible refine bel_drew ?_))
  clear b
  clear c1_0 c1_1 c1_2 c1_3 c1_4 c1_5 l1_0 l1_1
  have HB := Lib.hid (bel_end (bel_alloc (bel_alloc (Below.refl w.heap.size w))) R2.out)
  go_wp2_with (go_at_call 9; refine (awake_yes _).mono ?_; rintro e w' ⟨rfl, hb⟩)
  go_ret
  refine ⟨rfl, bel_end ?_ hb⟩
  repeat (first | with_reducible exact HB.out | with_reducible refine bel_alloc ?_ | with_reducible refine bel_drew ?_)
set_option maxRecDepth 100000 in
set_option maxHeartbeats 8000000 in
theorem over (hard : Bool) (c k : Int) (p : P3) (a : Option Addr) (len cap : Nat) (ps : List P3) (w : World) (h : ParamRow w (.slice a len cap) ps) (hl : ¬ 60 < len) (hp : May p) (hn : NilOk (.slice a len cap)) (ht : testNum hard c k ps = 0) (hq : testNum hard c k (ps ++ [p]) ≠ 0) : Calls Try.prog 8 #[.agg #[.bool hard, .int .i64 c, .int .i64 k], .slice a len cap, .agg #[.int .i64 p.1, .int .i64 p.2.1, .int .i64 p.2.2]] w (Yes w) := by
  have hlen := row_len h
  subst hlen
  have d1 : decide (60 < (ps.length : Int)) = false := decide_eq_false (by omega)
  have HP := Lib.hid (h.below (bel_alloc (bel_alloc (Below.refl w.heap.size w)) : Below w.heap.size w ((w.alloc (.cells #[.bool hard, .int .i64 c, .int .i64 k] 23)).alloc (.cells #[.int .i64 p.1, .int .i64 p.2.1, .int .i64 p.2.2] 40))))
  have hl2 : ps.length ≤ 60 := by omega
  have TS := Lib.hid (fun w2 (h2 : Below ((w.alloc (.cells #[.bool hard, .int .i64 c, .int .i64 k] 23)).alloc (.cells #[.int .i64 p.1, .int .i64 p.2.1, .int .i64 p.2.2] 40)).heap.size ((w.alloc (.cells #[.bool hard, .int .i64 c, .int .i64 k] 23)).alloc (.cells #[.int .i64 p.1, .int .i64 p.2.1, .int .i64 p.2.2] 40)) w2) => test_any hard c k _ ps w2 (HP.out.below h2) (by omega))
  have RI := Lib.hid (right_any p)
  rw [decide_eq_true hp] at RI
  rw [ht] at TS
  have RM := Lib.hid (fun w2 (h2 : Below ((w.alloc (.cells #[.bool hard, .int .i64 c, .int .i64 k] 23)).alloc (.cells #[.int .i64 p.1, .int .i64 p.2.1, .int .i64 p.2.2] 40)).heap.size ((w.alloc (.cells #[.bool hard, .int .i64 c, .int .i64 k] 23)).alloc (.cells #[.int .i64 p.1, .int .i64 p.2.1, .int .i64 p.2.2] 40)) w2) => room_any hard c k _ ps w2 (HP.out.below h2) (by omega))
  rw [show roomVal hard c k ps = .tuple #[.int .i64 (roomOf hard c k (asked hard ps).1 (asked hard ps).2), .int .i64 0] by unfold roomVal; rw [if_pos ht]] at RM
  have CP := Lib.hid (fun w2 (h2 : Below ((w.alloc (.cells #[.bool hard, .int .i64 c, .int .i64 k] 23)).alloc (.cells #[.int .i64 p.1, .int .i64 p.2.1, .int .i64 p.2.2] 40)).heap.size ((w.alloc (.cells #[.bool hard, .int .i64 c, .int .i64 k] 23)).alloc (.cells #[.int .i64 p.1, .int .i64 p.2.1, .int .i64 p.2.2] 40)) w2) => copies_any hard c k p _ ps w2 (HP.out.below h2) (by omega) hn)
  rw [show copiesVal hard c k ps p = .tuple #[.int .i64 (copiesOf hard c k ps p : Nat), .int .i64 0] by unfold copiesVal; rw [if_pos ht, if_pos hp]] at CP
  have AK := Lib.hid (asks_any hard p hp)
  have TA := Lib.hid (fun v2 w2 (h2 : ParamRow w2 v2 (ps ++ [p])) => test_any hard c k v2 _ w2 h2 (by rw [List.length_append]; simp only [List.length_cons, List.length_nil]; omega))
  have RA := Lib.hid (fun v2 w2 (h2 : ParamRow w2 v2 (ps ++ [p])) => room_any hard c k v2 _ w2 h2 (by rw [List.length_append]; simp only [List.length_cons, List.length_nil]; omega))
  have hqa := askOf_le hard hp
  have hfit : testNum hard c k (ps ++ [p]) = 0 ↔ ((askOf hard p : Nat) : Int) ≤ roomOf hard c k (asked hard ps).1 (asked hard ps).2 := (test_one_more ht hp).trans (room_spec ht (by omega) (by omega)).1
  obtain ⟨_, n0, n1⟩ := room_spec ht (u := 0) (by omega) (by omega)
  have hcp := copies_pos (hard := hard) (c := c) (k := k) (ps := ps) (p := p)
  have HQ : ¬ ((askOf hard p : Nat) : Int) ≤ roomOf hard c k (asked hard ps).1 (asked hard ps).2 := fun h => hq (hfit.2 h)
  have HC : ¬ 0 < copiesOf hard c k ps p := fun h => hq (hcp.1 h)
  generalize roomOf hard c k (asked hard ps).1 (asked hard ps).2 = N at *
  generalize copiesOf hard c k ps p = m at *
  generalize askOf hard p = q at *
  generalize testNum hard c k (ps ++ [p]) = T at *
  have e1 : (T == 0) = false := by rw [beq_eq_false_iff_ne]; exact hq
  have g1 : decide ((q : Int) ≤ N) = false := decide_eq_false HQ
  have g2 : decide (0 < (m : Int)) = false := decide_eq_false (by omega)
  have g2' : decide (0 < m) = false := decide_eq_false HC
  have g3 : decide (N < (q : Int)) = true := decide_eq_true (by omega)
  obtain ⟨i0, hi1, hz0, hz1, hz2⟩ := info_parts Try.infoParams
  clear ht h hl hp hfit hcp hq HQ HC RA
  go_enter Try.func8, Try.ntmps8
  go_wp2_with fail
  refine (RI.out _).mono ?_
  rintro e w1 ⟨rfl, b⟩
  have R1 := Lib.hid (show Below ((w.alloc (.cells #[.bool hard, .int .i64 c, .int .i64 k] 23)).alloc (.cells #[.int .i64 p.1, .int .i64 p.2.1, .int .i64 p.2.2] 40)).heap.size ((w.alloc (.cells #[.bool hard, .int .i64 c, .int .i64 k] 23)).alloc (.cells #[.int .i64 p.1, .int .i64 p.2.1, .int .i64 p.2.2] 40)) w1 from by
    refine bel_end ?_ b
    repeat (first | with_reducible exact Below.refl _ _ | with_reducible refine bel_alloc ?_ | with_reducible refine bel_drew ?_))
  clear b
  obtain ⟨c1_0, c1_1, c1_2, c1_3, c1_4, c1_5, l1_0, l1_1⟩ := cellsRP R1.out
  go_wp2_with fail
  refine (TS.out _ (R1.out)).mono ?_
  rintro e w2 ⟨rfl, b⟩
  have R2 := Lib.hid (show Below ((w.alloc (.cells #[.bool hard, .int .i64 c, .int .i64 k] 23)).alloc (.cells #[.int .i64 p.1, .int .i64 p.2.1, .int .i64 p.2.2] 40)).heap.size ((w.alloc (.cells #[.bool hard, .int .i64 c, .int .i64 k] 23)).alloc (.cells #[.int .i64 p.1, .int .i64 p.2.1, .int .i64 p.2.2] 40)) w2 from by
    refine bel_end ?_ b
    repeat (first | with_reducible exact R1.out | with_reducible refine bel_alloc ?_ | with_reducible refine bel_drew ?_))
  clear b
  clear c1_0 c1_1 c1_2 c1_3 c1_4 c1_5 l1_0 l1_1
  obtain ⟨c2_0, c2_1, c2_2, c2_3, c2_4, c2_5, l2_0, l2_1⟩ := cellsRP R2.out
  go_wp2_with fail
  refine (RM.out _ (R2.out)).mono ?_
  rintro e w3 ⟨rfl, b⟩
  have R3 := Lib.hid (show Below ((w.alloc (.cells #[.bool hard, .int .i64 c, .int .i64 k] 23)).alloc (.cells #[.int .i64 p.1, .int .i64 p.2.1, .int .i64 p.2.2] 40)).heap.size ((w.alloc (.cells #[.bool hard, .int .i64 c, .int .i64 k] 23)).alloc (.cells #[.int .i64 p.1, .int .i64 p.2.1, .int .i64 p.2.2] 40)) w3 from by
    refine bel_end ?_ b
    repeat (first | with_reducible exact R2.out | with_reducible refine bel_alloc ?_ | with_reducible refine bel_drew ?_))
  clear b
  clear c2_0 c2_1 c2_2 c2_3 c2_4 c2_5 l2_0 l2_1
  obtain ⟨c3_0, c3_1, c3_2, c3_3, c3_4, c3_5, l3_0, l3_1⟩ := cellsRP R3.out
  go_wp2_with fail
  refine (AK.out _).mono ?_
  rintro e w4 ⟨rfl, b⟩
  have R4 := Lib.hid (show Below ((w.alloc (.cells #[.bool hard, .int .i64 c, .int .i64 k] 23)).alloc (.cells #[.int .i64 p.1, .int .i64 p.2.1, .int .i64 p.2.2] 40)).heap.size ((w.alloc (.cells #[.bool hard, .int .i64 c, .int .i64 k] 23)).alloc (.cells #[.int .i64 p.1, .int .i64 p.2.1, .int .i64 p.2.2] 40)) w4 from by
    refine bel_end ?_ b
    repeat (first | with_reducible exact R3.out | with_reducible refine bel_alloc ?_ | with_reducible refine bel_drew ?_))
  clear b
  clear c3_0 c3_1 c3_2 c3_3 c3_4 c3_5 l3_0 l3_1
  obtain ⟨c4_0, c4_1, c4_2, c4_3, c4_4, c4_5, l4_0, l4_1⟩ := cellsRP R4.out
  go_upto_region 6 with fail
  go_cut [10] from 40 to 42 (fun s wx => Owns wx w4.heap.size s ps ∧ Below w4.heap.size w4 wx)
  case first =>
    cases a with
    | none =>
      obtain ⟨h0, h00⟩ := hn _ _ rfl
      have hps : ps = [] := List.length_eq_zero_iff.1 h0
      subst hps
      subst h00
      go_wp2_with (at_builtin; refine wpList_append_own_none rfl _ _ 24 rfl w4.heap.size 40 i0 3 Try.underlying24 hi1 _ 0 [] rfl (own_nil _ _) rfl ?_)
      go_meet
      exact ⟨own_nil _ _, Below.refl _ _⟩
    | some ad =>
      go_wp2_with (at_builtin; (refine wpList_append_own _ rfl _ _ 24 rfl w4.heap.size 40 i0 (.agg #[.int .i64 0, .int .i64 0, .int .i64 0]) 3 24 Try.underlying24 hi1 hz0 hz1 hz2 rfl (by decide) _ 0 [] rfl (own_nil _ _) ad ps.length cap (pcells ps) rfl (pcells_length ps) (row_cells (HP.out.below R4.out)).2 (pcells_one ps) (by unfold maxLen; omega) (by omega) (Nat.le_refl _) ?_); intro v' w2 hown hgrow _)
      simp only [Nat.zero_add, List.nil_append] at hown
      go_meet
      exact ⟨hown, (Below.refl w4.heap.size w4).grown hgrow (Nat.le_refl _) (fun k e => by cases e)⟩
  case rest =>
  obtain ⟨hown, b⟩ := hcut
  have HO := Lib.hid hown
  have HB := Lib.hid b
  have R5 := Lib.hid (bel_end R4.out b)
  clear hown b c4_0 c4_1 c4_2 c4_3 c4_4 c4_5 l4_0 l4_1
  obtain ⟨c5_0, c5_1, c5_2, c5_3, c5_4, c5_5, l5_0, l5_1⟩ := cellsRP R5.out
  have hln : ps.length + 1 = (ps ++ [p]).length := by rw [List.length_append]; rfl
  go_upto_region 7 with fail
  go_cut [10] from 43 to 46 (fun s wx => Owns wx w4.heap.size s (ps ++ [p]) ∧ Below w4.heap.size w4 wx)
  case first =>
    go_wp2_with (at_builtin; (refine wpList_append_own _ rfl _ _ 24 rfl w4.heap.size 40 i0 (.agg #[.int .i64 0, .int .i64 0, .int .i64 0]) 3 24 Try.underlying24 hi1 hz0 hz1 hz2 rfl (by decide) _ _ _ rfl (HO.out.alloc _) _ 1 1 (pcells [p]) rfl rfl (fun j u hj => by obtain ⟨i', c', hi', hc', rfl, rfl⟩ := pcells_at hj; obtain rfl : i' = 0 := Nat.lt_one_iff.1 hi'; match c', hc' with | 0, _ => exact (by simp [Addr.add, pc]) | 1, _ => exact (by simp [Addr.add, pc]) | 2, _ => exact (by simp [Addr.add, pc])) (pcells_one _) (by unfold maxLen; omega) (by omega) (Nat.le_trans HB.out.size (by simp)) ?_); intro v2 w3 hown hgrow _)
    rw [← pcells_append, hln] at hown
    go_meet
    exact ⟨hown, (HB.out.alloc HB.out.size _).grown hgrow (Nat.le_trans HB.out.size (by simp)) (own_block HO.out)⟩
  case rest =>
  obtain ⟨hown, b⟩ := hcut
  have HO6 := Lib.hid hown
  have R6 := Lib.hid (bel_end R4.out b)
  clear hown b c5_0 c5_1 c5_2 c5_3 c5_4 c5_5 l5_0 l5_1 HO HB R5
  obtain ⟨c6_0, c6_1, c6_2, c6_3, c6_4, c6_5, l6_0, l6_1⟩ := cellsRP R6.out
  go_wp2_with fail
  refine (CP.out _ R6.out).mono ?_
  rintro e w7 ⟨rfl, b⟩
  have R7 := Lib.hid (bel_end R6.out b)
  have HO7 := Lib.hid (owns_below HO6.out b)
  clear b c6_0 c6_1 c6_2 c6_3 c6_4 c6_5 l6_0 l6_1 HO6
  obtain ⟨c7_0, c7_1, c7_2, c7_3, c7_4, c7_5, l7_0, l7_1⟩ := cellsRP R7.out
  go_wp2_with fail
  refine (TA.out _ _ (owns_row HO7.out).1).mono ?_
  rintro e w8 ⟨rfl, b⟩
  have R8 := Lib.hid (bel_end R7.out b)
  have HO8 := Lib.hid (owns_below HO7.out b)
  clear b c7_0 c7_1 c7_2 c7_3 c7_4 c7_5 l7_0 l7_1 HO7
  have HB := Lib.hid (bel_end (bel_alloc (bel_alloc (Below.refl w.heap.size w))) R8.out)
  go_wp2_with (go_at_call 9; refine (awake_yes _).mono ?_; rintro e w' ⟨rfl, hb⟩)
  go_ret
  refine ⟨rfl, bel_end ?_ hb⟩
  repeat (first | with_reducible exact HB.out | with_reducible refine bel_alloc ?_ | with_reducible refine bel_drew ?_)
set_option maxRecDepth 100000 in
set_option maxHeartbeats 8000000 in
theorem within (hard : Bool) (c k : Int) (p : P3) (a : Option Addr) (len cap : Nat) (ps : List P3) (w : World) (h : ParamRow w (.slice a len cap) ps) (hl : ¬ 60 < len) (hp : May p) (hn : NilOk (.slice a len cap)) (ht : testNum hard c k ps = 0) (hq : testNum hard c k (ps ++ [p]) = 0) : Calls Try.prog 8 #[.agg #[.bool hard, .int .i64 c, .int .i64 k], .slice a len cap, .agg #[.int .i64 p.1, .int .i64 p.2.1, .int .i64 p.2.2]] w (Yes w) := by
  have hlen := row_len h
  subst hlen
  have d1 : decide (60 < (ps.length : Int)) = false := decide_eq_false (by omega)
  have HP := Lib.hid (h.below (bel_alloc (bel_alloc (Below.refl w.heap.size w)) : Below w.heap.size w ((w.alloc (.cells #[.bool hard, .int .i64 c, .int .i64 k] 23)).alloc (.cells #[.int .i64 p.1, .int .i64 p.2.1, .int .i64 p.2.2] 40))))
  have hl2 : ps.length ≤ 60 := by omega
  have TS := Lib.hid (fun w2 (h2 : Below ((w.alloc (.cells #[.bool hard, .int .i64 c, .int .i64 k] 23)).alloc (.cells #[.int .i64 p.1, .int .i64 p.2.1, .int .i64 p.2.2] 40)).heap.size ((w.alloc (.cells #[.bool hard, .int .i64 c, .int .i64 k] 23)).alloc (.cells #[.int .i64 p.1, .int .i64 p.2.1, .int .i64 p.2.2] 40)) w2) => test_any hard c k _ ps w2 (HP.out.below h2) (by omega))
  have RI := Lib.hid (right_any p)
  rw [decide_eq_true hp] at RI
  rw [ht] at TS
  have RM := Lib.hid (fun w2 (h2 : Below ((w.alloc (.cells #[.bool hard, .int .i64 c, .int .i64 k] 23)).alloc (.cells #[.int .i64 p.1, .int .i64 p.2.1, .int .i64 p.2.2] 40)).heap.size ((w.alloc (.cells #[.bool hard, .int .i64 c, .int .i64 k] 23)).alloc (.cells #[.int .i64 p.1, .int .i64 p.2.1, .int .i64 p.2.2] 40)) w2) => room_any hard c k _ ps w2 (HP.out.below h2) (by omega))
  rw [show roomVal hard c k ps = .tuple #[.int .i64 (roomOf hard c k (asked hard ps).1 (asked hard ps).2), .int .i64 0] by unfold roomVal; rw [if_pos ht]] at RM
  have CP := Lib.hid (fun w2 (h2 : Below ((w.alloc (.cells #[.bool hard, .int .i64 c, .int .i64 k] 23)).alloc (.cells #[.int .i64 p.1, .int .i64 p.2.1, .int .i64 p.2.2] 40)).heap.size ((w.alloc (.cells #[.bool hard, .int .i64 c, .int .i64 k] 23)).alloc (.cells #[.int .i64 p.1, .int .i64 p.2.1, .int .i64 p.2.2] 40)) w2) => copies_any hard c k p _ ps w2 (HP.out.below h2) (by omega) hn)
  rw [show copiesVal hard c k ps p = .tuple #[.int .i64 (copiesOf hard c k ps p : Nat), .int .i64 0] by unfold copiesVal; rw [if_pos ht, if_pos hp]] at CP
  have AK := Lib.hid (asks_any hard p hp)
  have TA := Lib.hid (fun v2 w2 (h2 : ParamRow w2 v2 (ps ++ [p])) => test_any hard c k v2 _ w2 h2 (by rw [List.length_append]; simp only [List.length_cons, List.length_nil]; omega))
  have RA := Lib.hid (fun v2 w2 (h2 : ParamRow w2 v2 (ps ++ [p])) => room_any hard c k v2 _ w2 h2 (by rw [List.length_append]; simp only [List.length_cons, List.length_nil]; omega))
  have hqa := askOf_le hard hp
  have hfit : testNum hard c k (ps ++ [p]) = 0 ↔ ((askOf hard p : Nat) : Int) ≤ roomOf hard c k (asked hard ps).1 (asked hard ps).2 := (test_one_more ht hp).trans (room_spec ht (by omega) (by omega)).1
  obtain ⟨_, n0, n1⟩ := room_spec ht (u := 0) (by omega) (by omega)
  have hcp := copies_pos (hard := hard) (c := c) (k := k) (ps := ps) (p := p)
  have hle := room_less ht hq
  have hex : hard = false → roomOf hard c k (asked hard ps).1 (asked hard ps).2 < 1048576 → roomOf hard c k (asked hard (ps ++ [p])).1 (asked hard (ps ++ [p])).2 = roomOf hard c k (asked hard ps).1 (asked hard ps).2 - ((askOf hard p : Nat) : Int) := fun hh hN => by subst hh; exact room_soft_exact hN
  have HQ := hfit.1 hq
  have HC := hcp.2 hq
  rw [show roomVal hard c k (ps ++ [p]) = .tuple #[.int .i64 (roomOf hard c k (asked hard (ps ++ [p])).1 (asked hard (ps ++ [p])).2), .int .i64 0] by unfold roomVal; rw [if_pos hq]] at RA
  rw [hq] at TA
  generalize roomOf hard c k (asked hard (ps ++ [p])).1 (asked hard (ps ++ [p])).2 = K at *
  generalize roomOf hard c k (asked hard ps).1 (asked hard ps).2 = N at *
  generalize copiesOf hard c k ps p = m at *
  generalize askOf hard p = q at *
  have g1 : decide ((q : Int) ≤ N) = true := decide_eq_true HQ
  have g2 : decide (0 < (m : Int)) = true := decide_eq_true (by omega)
  have g2' : decide (0 < m) = true := decide_eq_true HC
  have g3 : decide (N < (q : Int)) = false := decide_eq_false (by omega)
  have g4 : decide (N < K) = false := decide_eq_false (by omega)
  have HX := Lib.hid hex
  obtain ⟨i0, hi1, hz0, hz1, hz2⟩ := info_parts Try.infoParams
  clear ht h hl hp hfit hcp hq HQ HC hex hle
  go_enter Try.func8, Try.ntmps8
  go_wp2_with fail
  refine (RI.out _).mono ?_
  rintro e w1 ⟨rfl, b⟩
  have R1 := Lib.hid (show Below ((w.alloc (.cells #[.bool hard, .int .i64 c, .int .i64 k] 23)).alloc (.cells #[.int .i64 p.1, .int .i64 p.2.1, .int .i64 p.2.2] 40)).heap.size ((w.alloc (.cells #[.bool hard, .int .i64 c, .int .i64 k] 23)).alloc (.cells #[.int .i64 p.1, .int .i64 p.2.1, .int .i64 p.2.2] 40)) w1 from by
    refine bel_end ?_ b
    repeat (first | with_reducible exact Below.refl _ _ | with_reducible refine bel_alloc ?_ | with_reducible refine bel_drew ?_))
  clear b
  obtain ⟨c1_0, c1_1, c1_2, c1_3, c1_4, c1_5, l1_0, l1_1⟩ := cellsRP R1.out
  go_wp2_with fail
  refine (TS.out _ (R1.out)).mono ?_
  rintro e w2 ⟨rfl, b⟩
  have R2 := Lib.hid (show Below ((w.alloc (.cells #[.bool hard, .int .i64 c, .int .i64 k] 23)).alloc (.cells #[.int .i64 p.1, .int .i64 p.2.1, .int .i64 p.2.2] 40)).heap.size ((w.alloc (.cells #[.bool hard, .int .i64 c, .int .i64 k] 23)).alloc (.cells #[.int .i64 p.1, .int .i64 p.2.1, .int .i64 p.2.2] 40)) w2 from by
    refine bel_end ?_ b
    repeat (first | with_reducible exact R1.out | with_reducible refine bel_alloc ?_ | with_reducible refine bel_drew ?_))
  clear b
  clear c1_0 c1_1 c1_2 c1_3 c1_4 c1_5 l1_0 l1_1
  obtain ⟨c2_0, c2_1, c2_2, c2_3, c2_4, c2_5, l2_0, l2_1⟩ := cellsRP R2.out
  go_wp2_with fail
  refine (RM.out _ (R2.out)).mono ?_
  rintro e w3 ⟨rfl, b⟩
  have R3 := Lib.hid (show Below ((w.alloc (.cells #[.bool hard, .int .i64 c, .int .i64 k] 23)).alloc (.cells #[.int .i64 p.1, .int .i64 p.2.1, .int .i64 p.2.2] 40)).heap.size ((w.alloc (.cells #[.bool hard, .int .i64 c, .int .i64 k] 23)).alloc (.cells #[.int .i64 p.1, .int .i64 p.2.1, .int .i64 p.2.2] 40)) w3 from by
    refine bel_end ?_ b
    repeat (first | with_reducible exact R2.out | with_reducible refine bel_alloc ?_ | with_reducible refine bel_drew ?_))
  clear b
  clear c2_0 c2_1 c2_2 c2_3 c2_4 c2_5 l2_0 l2_1
  obtain ⟨c3_0, c3_1, c3_2, c3_3, c3_4, c3_5, l3_0, l3_1⟩ := cellsRP R3.out
  go_wp2_with fail
  refine (AK.out _).mono ?_
  rintro e w4 ⟨rfl, b⟩
  have R4 := Lib.hid (show Below ((w.alloc (.cells #[.bool hard, .int .i64 c, .int .i64 k] 23)).alloc (.cells #[.int .i64 p.1, .int .i64 p.2.1, .int .i64 p.2.2] 40)).heap.size ((w.alloc (.cells #[.bool hard, .int .i64 c, .int .i64 k] 23)).alloc (.cells #[.int .i64 p.1, .int .i64 p.2.1, .int .i64 p.2.2] 40)) w4 from by
    refine bel_end ?_ b
    repeat (first | with_reducible exact R3.out | with_reducible refine bel_alloc ?_ | with_reducible refine bel_drew ?_))
  clear b
  clear c3_0 c3_1 c3_2 c3_3 c3_4 c3_5 l3_0 l3_1
  obtain ⟨c4_0, c4_1, c4_2, c4_3, c4_4, c4_5, l4_0, l4_1⟩ := cellsRP R4.out
  go_upto_region 6 with fail
  go_cut [10] from 40 to 42 (fun s wx => Owns wx w4.heap.size s ps ∧ Below w4.heap.size w4 wx)
  case first =>
    cases a with
    | none =>
      obtain ⟨h0, h00⟩ := hn _ _ rfl
      have hps : ps = [] := List.length_eq_zero_iff.1 h0
      subst hps
      subst h00
      go_wp2_with (at_builtin; refine wpList_append_own_none rfl _ _ 24 rfl w4.heap.size 40 i0 3 Try.underlying24 hi1 _ 0 [] rfl (own_nil _ _) rfl ?_)
      go_meet
      exact ⟨own_nil _ _, Below.refl _ _⟩
    | some ad =>
      go_wp2_with (at_builtin; (refine wpList_append_own _ rfl _ _ 24 rfl w4.heap.size 40 i0 (.agg #[.int .i64 0, .int .i64 0, .int .i64 0]) 3 24 Try.underlying24 hi1 hz0 hz1 hz2 rfl (by decide) _ 0 [] rfl (own_nil _ _) ad ps.length cap (pcells ps) rfl (pcells_length ps) (row_cells (HP.out.below R4.out)).2 (pcells_one ps) (by unfold maxLen; omega) (by omega) (Nat.le_refl _) ?_); intro v' w2 hown hgrow _)
      simp only [Nat.zero_add, List.nil_append] at hown
      go_meet
      exact ⟨hown, (Below.refl w4.heap.size w4).grown hgrow (Nat.le_refl _) (fun k e => by cases e)⟩
  case rest =>
  obtain ⟨hown, b⟩ := hcut
  have HO := Lib.hid hown
  have HB := Lib.hid b
  have R5 := Lib.hid (bel_end R4.out b)
  clear hown b c4_0 c4_1 c4_2 c4_3 c4_4 c4_5 l4_0 l4_1
  obtain ⟨c5_0, c5_1, c5_2, c5_3, c5_4, c5_5, l5_0, l5_1⟩ := cellsRP R5.out
  have hln : ps.length + 1 = (ps ++ [p]).length := by rw [List.length_append]; rfl
  go_upto_region 7 with fail
  go_cut [10] from 43 to 46 (fun s wx => Owns wx w4.heap.size s (ps ++ [p]) ∧ Below w4.heap.size w4 wx)
  case first =>
    go_wp2_with (at_builtin; (refine wpList_append_own _ rfl _ _ 24 rfl w4.heap.size 40 i0 (.agg #[.int .i64 0, .int .i64 0, .int .i64 0]) 3 24 Try.underlying24 hi1 hz0 hz1 hz2 rfl (by decide) _ _ _ rfl (HO.out.alloc _) _ 1 1 (pcells [p]) rfl rfl (fun j u hj => by obtain ⟨i', c', hi', hc', rfl, rfl⟩ := pcells_at hj; obtain rfl : i' = 0 := Nat.lt_one_iff.1 hi'; match c', hc' with | 0, _ => exact (by simp [Addr.add, pc]) | 1, _ => exact (by simp [Addr.add, pc]) | 2, _ => exact (by simp [Addr.add, pc])) (pcells_one _) (by unfold maxLen; omega) (by omega) (Nat.le_trans HB.out.size (by simp)) ?_); intro v2 w3 hown hgrow _)
    rw [← pcells_append, hln] at hown
    go_meet
    exact ⟨hown, (HB.out.alloc HB.out.size _).grown hgrow (Nat.le_trans HB.out.size (by simp)) (own_block HO.out)⟩
  case rest =>
  obtain ⟨hown, b⟩ := hcut
  have HO6 := Lib.hid hown
  have R6 := Lib.hid (bel_end R4.out b)
  clear hown b c5_0 c5_1 c5_2 c5_3 c5_4 c5_5 l5_0 l5_1 HO HB R5
  obtain ⟨c6_0, c6_1, c6_2, c6_3, c6_4, c6_5, l6_0, l6_1⟩ := cellsRP R6.out
  go_wp2_with fail
  refine (CP.out _ R6.out).mono ?_
  rintro e w7 ⟨rfl, b⟩
  have R7 := Lib.hid (bel_end R6.out b)
  have HO7 := Lib.hid (owns_below HO6.out b)
  clear b c6_0 c6_1 c6_2 c6_3 c6_4 c6_5 l6_0 l6_1 HO6
  obtain ⟨c7_0, c7_1, c7_2, c7_3, c7_4, c7_5, l7_0, l7_1⟩ := cellsRP R7.out
  go_wp2_with fail
  refine (TA.out _ _ (owns_row HO7.out).1).mono ?_
  rintro e w8 ⟨rfl, b⟩
  have R8 := Lib.hid (bel_end R7.out b)
  have HO8 := Lib.hid (owns_below HO7.out b)
  clear b c7_0 c7_1 c7_2 c7_3 c7_4 c7_5 l7_0 l7_1 HO7
  obtain ⟨c8_0, c8_1, c8_2, c8_3, c8_4, c8_5, l8_0, l8_1⟩ := cellsRP R8.out
  go_wp2_with fail
  refine (RA.out _ _ (owns_row HO8.out).1).mono ?_
  rintro e w9 ⟨rfl, b⟩
  have R9 := Lib.hid (bel_end R8.out b)
  clear b c8_0 c8_1 c8_2 c8_3 c8_4 c8_5 l8_0 l8_1 HO8
  obtain ⟨c9_0, c9_1, c9_2, c9_3, c9_4, c9_5, l9_0, l9_1⟩ := cellsRP R9.out
  cases hard with
  | true =>
    have HB := Lib.hid (bel_end (bel_alloc (bel_alloc (Below.refl w.heap.size w))) R9.out)
    go_wp2_with (go_at_call 9; refine (awake_yes _).mono ?_; rintro e w' ⟨rfl, hb⟩)
    go_ret
    refine ⟨rfl, bel_end ?_ hb⟩
    repeat (first | with_reducible exact HB.out | with_reducible refine bel_alloc ?_ | with_reducible refine bel_drew ?_)
  | false =>
    by_cases hN : N < 1048576
    · have f1 : decide (N < 1048576) = true := decide_eq_true hN
      obtain rfl := HX.out rfl hN
      have f2 : ((N - (q : Int)) == (N - (q : Int))) = true := by simp
      have HB := Lib.hid (bel_end (bel_alloc (bel_alloc (Below.refl w.heap.size w))) R9.out)
      go_wp2_with (go_at_call 9; refine (awake_yes _).mono ?_; rintro e w' ⟨rfl, hb⟩)
      go_ret
      refine ⟨rfl, bel_end ?_ hb⟩
      repeat (first | with_reducible exact HB.out | with_reducible refine bel_alloc ?_ | with_reducible refine bel_drew ?_)
    · have f1 : decide (N < 1048576) = false := decide_eq_false hN
      have HB := Lib.hid (bel_end (bel_alloc (bel_alloc (Below.refl w.heap.size w))) R9.out)
      go_wp2_with (go_at_call 9; refine (awake_yes _).mono ?_; rintro e w' ⟨rfl, hb⟩)
      go_ret
      refine ⟨rfl, bel_end ?_ hb⟩
      repeat (first | with_reducible exact HB.out | with_reducible refine bel_alloc ?_ | with_reducible refine bel_drew ?_)
theorem walk (hard : Bool) (c k : Int) (v : Value) (ps : List P3) (q d t : Int) (w : World) (_ : (Lit.int .i64 c).wf = true) (_ : (Lit.int .i64 k).wf = true) (hps : ParamRow w v ps) (hn : NilOk v) (_ : (Lit.int .i64 q).wf = true) (_ : (Lit.int .i64 d).wf = true) (_ : (Lit.int .i64 t).wf = true) : Calls Try.prog 8 #[.agg #[.bool hard, .int .i64 c, .int .i64 k], v, .agg #[.int .i64 q, .int .i64 d, .int .i64 t]] w (Yes w) := by
  obtain ⟨a, len, cap, rfl⟩ := row_slice hps
  by_cases hl : 60 < len
  · exact many hard c k (q, d, t) a len cap w hl
  by_cases hp : May (q, d, t)
  · by_cases ht : testNum hard c k ps = 0
    · by_cases hq : testNum hard c k (ps ++ [(q, d, t)]) = 0
      · exact within hard c k (q, d, t) a len cap ps w hps hl hp hn ht hq
      · exact over hard c k (q, d, t) a len cap ps w hps hl hp hn ht hq
    · exact fails hard c k (q, d, t) a len cap ps w hps hl hp ht
  · exact notMay hard c k (q, d, t) a len cap w hl hp

set_option maxRecDepth 100000 in
theorem lifted (os : Os) (started : os.Started) (H : Type) (enc : TypeId × Value → H) :
    ReturnsInHanded {} Try.checked os 8 .any (Rows.admitBesideSpec.pre6 enc Try.prog Try.f8 Rows.admitBesideRow.domain false) (Rows.admitBesideSpec.post enc Try.prog Try.f8 false true false false) := by
  refine returnsInHanded_of_change (C := Try.checked) own started (by kernel_rfl) Try.func8
    (ChangeSpec.witness6 (enc := enc) (C := Try.checked) false ⟨#[], #[.agg #[.bool false, .int .i64 0, .int .i64 0], .slice none 0 0, .agg #[.int .i64 0, .int .i64 0, .int .i64 0]], []⟩ 8 (by kernel_rfl) (by kernel_rfl) (by kernel_rfl) (by kernel_rfl)) ?_
  intro W base args ds gs before hval0 hW hcnd _
  have hval : ∀ (j : Nat) t v, Try.f8.params[j]? = some t → args[j]? = some v → Value.okWide Try.prog W .any base t v := hval0
  have hW' := hW
  obtain ⟨p, q, hA0, hV, _, hfz, hnd⟩ := hW'
  have hA : DataW.TrodAll enc Try.prog W 0 (fun _ => true) true Try.f8.params.toList args.toList ds p := hA0
  rw [Try.params8] at hA hval
  obtain ⟨v0, v1, v2, d0, d1, d2, p0, p1, p2, rfl, _, _, h0, h1, h2⟩ := trodAll_three hA
  obtain ⟨c00, c01, c02, y00, y01, y02, m0, rfl, _, _, hy00, hy01, hy02⟩ := open_agg3 Try.underlying23 (by kernel_rfl) (by kernel_rfl) (hval 0 23 v0 rfl rfl) h0
  obtain ⟨hard, e00, _⟩ := DataW.trod_bool Try.underlying4 hy00
  obtain ⟨c, e01, _, wc⟩ := DataW.trod_int Try.underlying3 hy01
  obtain ⟨k, e02, _, wk⟩ := DataW.trod_int Try.underlying3 hy02
  simp at e00 e01 e02
  subst e00 e01 e02
  obtain ⟨ps, hps, fps, lps⟩ := open_params Try.underlying24 Try.underlying40 (by kernel_rfl) (fun i hi => by match i, hi with | 0, _ => exact ⟨_, rfl, rfl, by kernel_rfl, Try.underlying3⟩ | 1, _ => exact ⟨_, rfl, rfl, by kernel_rfl, Try.underlying3⟩ | 2, _ => exact ⟨_, rfl, rfl, by kernel_rfl, Try.underlying3⟩) (hval 1 24 v1 rfl rfl) h1
  have nps := open_nil Try.underlying24 (hval 1 24 v1 rfl rfl) h1
  obtain ⟨c20, c21, c22, y20, y21, y22, m2, rfl, _, _, hy20, hy21, hy22⟩ := open_agg3 Try.underlying40 (by kernel_rfl) (by kernel_rfl) (hval 2 40 v2 rfl rfl) h2
  obtain ⟨q, e20, _, wq⟩ := DataW.trod_int Try.underlying3 hy20
  obtain ⟨d, e21, _, wd⟩ := DataW.trod_int Try.underlying3 hy21
  obtain ⟨t, e22, _, wt⟩ := DataW.trod_int Try.underlying3 hy22
  simp at e20 e21 e22
  subst e20 e21 e22
  refine (walk hard c k v1 ps q d t W wc wk hps nps wq wd wt).mono fun e W' h => ?_
  exact law_post (f := Try.f8) rfl rfl Try.underlying4 (by kernel_rfl) (fun ds hd => by
    match ds, hd with
    | [_, _, _], _ => rfl) hW h

theorem over0 : Rows.admitBesideRow.holds Try.pinned (OpenSpec.ofChange Rows.admitBesideSpec) :=
  OpenClaim.holds_of_wide 8 Try.f8 rfl rfl rfl rfl rfl rfl rfl ⟨rfl, rfl, rfl, rfl, rfl⟩ rfl rfl rfl rfl rfl (by kernel_rfl) Try.func8 (by kernel_rfl)
    (of_decide_eq_true (by kernel_rfl)) (by unfold Func.isWrapper; first | (rw [if_pos (by decide +kernel)]; kernel_rfl) | (rw [if_neg (by decide +kernel)]; exact ⟨rfl, rfl⟩))
    (fun os started H enc _ => lifted os started H enc)

/-- THE STATEMENT. -/
theorem proved : Rows.AdmitBesideSaid := over0
end Go.Proofs.Ytoagdaenbanhlaa.admitBeside
