/- AdmitLess answers true at every rule, every servers, and every two numbers. No condition. -/
import Derived.Test.YtoagdaenbanhlaaAdmitLess0
import Derived.Test.YtoagdaenbanhlaaAdmitChange
import Derived.Deep.CutBlock
import Derived.Deep.DeepCutAuto
namespace Go.Proofs.Ytoagdaenbanhlaa.admitLess
open Go.ChangeShapes Go.WideShapes Go.ChangeAt Go.RowKit Go.Joins Go.Shelf Go.Deep

theorem cells0 {hard : Bool} {c k x y : Int} {w w' : World} (h : Below ((w.alloc (.cells #[.bool hard, .int .i64 c, .int .i64 k] 23)).alloc (.cells #[.int .i64 x, .int .i64 y] 47)).heap.size ((w.alloc (.cells #[.bool hard, .int .i64 c, .int .i64 k] 23)).alloc (.cells #[.int .i64 x, .int .i64 y] 47)) w') :
    w'.cell? ⟨w.heap.size, 0, none⟩ = some (Value.bool hard) ∧ w'.cell? ⟨w.heap.size, 1, none⟩ = some (Value.int .i64 c) ∧ w'.cell? ⟨w.heap.size, 2, none⟩ = some (Value.int .i64 k) ∧ w'.cell? ⟨w.heap.size + 1, 0, none⟩ = some (Value.int .i64 x) ∧ w'.cell? ⟨w.heap.size + 1, 1, none⟩ = some (Value.int .i64 y) ∧ w.heap.size < w'.heap.size ∧ w.heap.size + 1 < w'.heap.size := by
  have c0 := (h.cell (p := ⟨w.heap.size, 0, none⟩) (by first | (simp; done) | (simp; omega))).trans (show _ = some (Value.bool hard) by go_simp)
  have c1 := (h.cell (p := ⟨w.heap.size, 1, none⟩) (by first | (simp; done) | (simp; omega))).trans (show _ = some (Value.int .i64 c) by go_simp)
  have c2 := (h.cell (p := ⟨w.heap.size, 2, none⟩) (by first | (simp; done) | (simp; omega))).trans (show _ = some (Value.int .i64 k) by go_simp)
  have c3 := (h.cell (p := ⟨w.heap.size + 1, 0, none⟩) (by first | (simp; done) | (simp; omega))).trans (show _ = some (Value.int .i64 x) by go_simp)
  have c4 := (h.cell (p := ⟨w.heap.size + 1, 1, none⟩) (by first | (simp; done) | (simp; omega))).trans (show _ = some (Value.int .i64 y) by go_simp)
  exact ⟨c0, c1, c2, c3, c4, cell_lt c0, cell_lt c3⟩
set_option maxRecDepth 100000 in
set_option maxHeartbeats 8000000 in
theorem empty (hard : Bool) (c k x y : Int) (a : Option Addr) (len cap : Nat) (w : World) (hl : len = 0) : Calls Try.prog 6 #[.agg #[.bool hard, .int .i64 c, .int .i64 k], .slice a len cap, .agg #[.int .i64 x, .int .i64 y]] w (Yes w) := by
  subst hl
  go_enter Try.func6, Try.ntmps6
  go_wp2_with (go_at_call 9; refine (awake_yes _).mono ?_; rintro e w' ⟨rfl, hb⟩)
  go_ret
  exact ⟨rfl, bel_end (bel_alloc (bel_alloc (Below.refl _ _))) hb⟩
set_option maxRecDepth 100000 in
set_option maxHeartbeats 8000000 in
theorem many (hard : Bool) (c k x y : Int) (a : Option Addr) (len cap : Nat) (w : World) (hl : 70 < len) : Calls Try.prog 6 #[.agg #[.bool hard, .int .i64 c, .int .i64 k], .slice a len cap, .agg #[.int .i64 x, .int .i64 y]] w (Yes w) := by
  have d0 : ((len : Int) == 0) = false := by simp; omega
  have d0' : (len == 0) = false := by simp; omega
  have d1 : decide (70 < (len : Int)) = true := decide_eq_true (by omega)
  clear hl
  go_enter Try.func6, Try.ntmps6
  go_wp2_with (go_at_call 9; refine (awake_yes _).mono ?_; rintro e w' ⟨rfl, hb⟩)
  go_ret
  exact ⟨rfl, bel_end (bel_alloc (bel_alloc (Below.refl _ _))) hb⟩
set_option maxRecDepth 100000 in
set_option maxHeartbeats 8000000 in
theorem fails (hard : Bool) (c k x y : Int) (a : Option Addr) (len cap : Nat) (ps : List P3) (w : World) (h : ParamRow w (.slice a len cap) ps) (h0 : 0 < len) (hl : ¬ 70 < len) (ht : testNum hard c k ps ≠ 0) : Calls Try.prog 6 #[.agg #[.bool hard, .int .i64 c, .int .i64 k], .slice a len cap, .agg #[.int .i64 x, .int .i64 y]] w (Yes w) := by
  have hlen := row_len h
  subst hlen
  have d0 : ((ps.length : Int) == 0) = false := by rw [beq_eq_false_iff_ne]; omega
  have d0' : (ps.length == 0) = false := by rw [beq_eq_false_iff_ne]; omega
  have d1 : decide (70 < (ps.length : Int)) = false := decide_eq_false (by omega)
  have HP := Lib.hid (h.below (bel_alloc (bel_alloc (Below.refl w.heap.size w)) : Below w.heap.size w ((w.alloc (.cells #[.bool hard, .int .i64 c, .int .i64 k] 23)).alloc (.cells #[.int .i64 x, .int .i64 y] 47))))
  have hl2 : ps.length ≤ 1000 := by omega
  have TS := Lib.hid (fun w2 (h2 : Below ((w.alloc (.cells #[.bool hard, .int .i64 c, .int .i64 k] 23)).alloc (.cells #[.int .i64 x, .int .i64 y] 47)).heap.size ((w.alloc (.cells #[.bool hard, .int .i64 c, .int .i64 k] 23)).alloc (.cells #[.int .i64 x, .int .i64 y] 47)) w2) => test_any hard c k _ ps w2 (HP.out.below h2) hl2)
  generalize testNum hard c k ps = T at *
  have e1 : (T == 0) = false := by simp; exact ht
  have e2 : (T != 0) = true := by simp; exact ht
  clear ht h h0 hl hl2 HP
  go_enter Try.func6, Try.ntmps6
  go_wp2_with fail
  refine (TS.out _ (Below.refl _ _)).mono ?_
  rintro e w1 ⟨rfl, b⟩
  have R1 := Lib.hid (show Below ((w.alloc (.cells #[.bool hard, .int .i64 c, .int .i64 k] 23)).alloc (.cells #[.int .i64 x, .int .i64 y] 47)).heap.size ((w.alloc (.cells #[.bool hard, .int .i64 c, .int .i64 k] 23)).alloc (.cells #[.int .i64 x, .int .i64 y] 47)) w1 from by
    refine bel_end ?_ b
    repeat (first | with_reducible exact Below.refl _ _ | with_reducible refine bel_alloc ?_ | with_reducible refine bel_drew ?_))
  clear b
  have HB := Lib.hid (bel_end (bel_alloc (bel_alloc (Below.refl w.heap.size w))) R1.out)
  go_wp2_with (go_at_call 9; refine (awake_yes _).mono ?_; rintro e w' ⟨rfl, hb⟩)
  go_ret
  refine ⟨rfl, bel_end ?_ hb⟩
  repeat (first | with_reducible exact HB.out | with_reducible refine bel_alloc ?_ | with_reducible refine bel_drew ?_)
set_option maxRecDepth 100000 in
set_option maxHeartbeats 8000000 in
theorem low (hard : Bool) (c k x y : Int) (a : Option Addr) (len cap : Nat) (ps : List P3) (w : World) (h : ParamRow w (.slice a len cap) ps) (h0 : 0 < len) (hl : ¬ 70 < len) (ht : testNum hard c k ps = 0) (hx : x < 0) : Calls Try.prog 6 #[.agg #[.bool hard, .int .i64 c, .int .i64 k], .slice a len cap, .agg #[.int .i64 x, .int .i64 y]] w (Yes w) := by
  have hlen := row_len h
  subst hlen
  have d0 : ((ps.length : Int) == 0) = false := by rw [beq_eq_false_iff_ne]; omega
  have d0' : (ps.length == 0) = false := by rw [beq_eq_false_iff_ne]; omega
  have d1 : decide (70 < (ps.length : Int)) = false := decide_eq_false (by omega)
  have HP := Lib.hid (h.below (bel_alloc (bel_alloc (Below.refl w.heap.size w)) : Below w.heap.size w ((w.alloc (.cells #[.bool hard, .int .i64 c, .int .i64 k] 23)).alloc (.cells #[.int .i64 x, .int .i64 y] 47))))
  have hl2 : ps.length ≤ 1000 := by omega
  have TS := Lib.hid (fun w2 (h2 : Below ((w.alloc (.cells #[.bool hard, .int .i64 c, .int .i64 k] 23)).alloc (.cells #[.int .i64 x, .int .i64 y] 47)).heap.size ((w.alloc (.cells #[.bool hard, .int .i64 c, .int .i64 k] 23)).alloc (.cells #[.int .i64 x, .int .i64 y] 47)) w2) => test_any hard c k _ ps w2 (HP.out.below h2) hl2)
  rw [ht] at TS
  have e1 : decide (x < 0) = true := decide_eq_true hx
  clear ht h h0 hl hl2 HP hx
  go_enter Try.func6, Try.ntmps6
  go_wp2_with fail
  refine (TS.out _ (Below.refl _ _)).mono ?_
  rintro e w1 ⟨rfl, b⟩
  have R1 := Lib.hid (show Below ((w.alloc (.cells #[.bool hard, .int .i64 c, .int .i64 k] 23)).alloc (.cells #[.int .i64 x, .int .i64 y] 47)).heap.size ((w.alloc (.cells #[.bool hard, .int .i64 c, .int .i64 k] 23)).alloc (.cells #[.int .i64 x, .int .i64 y] 47)) w1 from by
    refine bel_end ?_ b
    repeat (first | with_reducible exact Below.refl _ _ | with_reducible refine bel_alloc ?_ | with_reducible refine bel_drew ?_))
  clear b
  obtain ⟨c1_0, c1_1, c1_2, c1_3, c1_4, l1_0, l1_1⟩ := cells0 R1.out
  have HB := Lib.hid (bel_end (bel_alloc (bel_alloc (Below.refl w.heap.size w))) R1.out)
  go_wp2_with (go_at_call 9; refine (awake_yes _).mono ?_; rintro e w' ⟨rfl, hb⟩)
  go_ret
  refine ⟨rfl, bel_end ?_ hb⟩
  repeat (first | with_reducible exact HB.out | with_reducible refine bel_alloc ?_ | with_reducible refine bel_drew ?_)
set_option maxRecDepth 100000 in
set_option maxHeartbeats 8000000 in
theorem high (hard : Bool) (c k x y : Int) (a : Option Addr) (len cap : Nat) (ps : List P3) (w : World) (h : ParamRow w (.slice a len cap) ps) (h0 : 0 < len) (hl : ¬ 70 < len) (ht : testNum hard c k ps = 0) (hx : ¬ x < 0) (hx' : (len : Int) ≤ x) : Calls Try.prog 6 #[.agg #[.bool hard, .int .i64 c, .int .i64 k], .slice a len cap, .agg #[.int .i64 x, .int .i64 y]] w (Yes w) := by
  have hlen := row_len h
  subst hlen
  have d0 : ((ps.length : Int) == 0) = false := by rw [beq_eq_false_iff_ne]; omega
  have d0' : (ps.length == 0) = false := by rw [beq_eq_false_iff_ne]; omega
  have d1 : decide (70 < (ps.length : Int)) = false := decide_eq_false (by omega)
  have HP := Lib.hid (h.below (bel_alloc (bel_alloc (Below.refl w.heap.size w)) : Below w.heap.size w ((w.alloc (.cells #[.bool hard, .int .i64 c, .int .i64 k] 23)).alloc (.cells #[.int .i64 x, .int .i64 y] 47))))
  have hl2 : ps.length ≤ 1000 := by omega
  have TS := Lib.hid (fun w2 (h2 : Below ((w.alloc (.cells #[.bool hard, .int .i64 c, .int .i64 k] 23)).alloc (.cells #[.int .i64 x, .int .i64 y] 47)).heap.size ((w.alloc (.cells #[.bool hard, .int .i64 c, .int .i64 k] 23)).alloc (.cells #[.int .i64 x, .int .i64 y] 47)) w2) => test_any hard c k _ ps w2 (HP.out.below h2) hl2)
  rw [ht] at TS
  have e1 : decide (x < 0) = false := decide_eq_false hx
  have e2 : decide ((ps.length : Int) ≤ x) = true := decide_eq_true hx'
  clear ht h h0 hl hl2 HP hx hx'
  go_enter Try.func6, Try.ntmps6
  go_wp2_with fail
  refine (TS.out _ (Below.refl _ _)).mono ?_
  rintro e w1 ⟨rfl, b⟩
  have R1 := Lib.hid (show Below ((w.alloc (.cells #[.bool hard, .int .i64 c, .int .i64 k] 23)).alloc (.cells #[.int .i64 x, .int .i64 y] 47)).heap.size ((w.alloc (.cells #[.bool hard, .int .i64 c, .int .i64 k] 23)).alloc (.cells #[.int .i64 x, .int .i64 y] 47)) w1 from by
    refine bel_end ?_ b
    repeat (first | with_reducible exact Below.refl _ _ | with_reducible refine bel_alloc ?_ | with_reducible refine bel_drew ?_))
  clear b
  obtain ⟨c1_0, c1_1, c1_2, c1_3, c1_4, l1_0, l1_1⟩ := cells0 R1.out
  have HB := Lib.hid (bel_end (bel_alloc (bel_alloc (Below.refl w.heap.size w))) R1.out)
  go_wp2_with (go_at_call 9; refine (awake_yes _).mono ?_; rintro e w' ⟨rfl, hb⟩)
  go_ret
  refine ⟨rfl, bel_end ?_ hb⟩
  repeat (first | with_reducible exact HB.out | with_reducible refine bel_alloc ?_ | with_reducible refine bel_drew ?_)
set_option maxRecDepth 100000 in
set_option maxHeartbeats 8000000 in
theorem inside (hard : Bool) (c k y : Int) (i : Nat) (b off cap : Nat) (ps : List P3) (w : World) (h : ParamRow w (.slice (some ⟨b, off, none⟩) ps.length cap) ps) (hcap : ps.length ≤ cap) (hcap' : cap ≤ maxLen) (hl : ¬ 70 < ps.length) (hi : i < ps.length) (ht : testNum hard c k ps = 0) (Q D T : Int) (hp : ps.getD i p0 = (Q, D, T)) : Calls Try.prog 6 #[.agg #[.bool hard, .int .i64 c, .int .i64 k], .slice (some ⟨b, off, none⟩) ps.length cap, .agg #[.int .i64 (i : Int), .int .i64 y]] w (Yes w) := by
  have d0 : ((ps.length : Int) == 0) = false := by rw [beq_eq_false_iff_ne]; omega
  have d0' : (ps.length == 0) = false := by rw [beq_eq_false_iff_ne]; omega
  have d1 : decide (70 < (ps.length : Int)) = false := decide_eq_false (by omega)
  have d2 : decide ((i : Int) < 0) = false := decide_eq_false (by omega)
  have d3 : decide ((ps.length : Int) ≤ (i : Int)) = false := decide_eq_false (by omega)
  have d3' : decide (ps.length ≤ i) = false := decide_eq_false (by omega)
  have HP := Lib.hid (h.below (bel_alloc (bel_alloc (Below.refl w.heap.size w)) : Below w.heap.size w ((w.alloc (.cells #[.bool hard, .int .i64 c, .int .i64 k] 23)).alloc (.cells #[.int .i64 (i : Int), .int .i64 y] 47))))
  have hl2 : ps.length ≤ 1000 := by omega
  have TS := Lib.hid (fun w2 (h2 : Below ((w.alloc (.cells #[.bool hard, .int .i64 c, .int .i64 k] 23)).alloc (.cells #[.int .i64 (i : Int), .int .i64 y] 47)).heap.size ((w.alloc (.cells #[.bool hard, .int .i64 c, .int .i64 k] 23)).alloc (.cells #[.int .i64 (i : Int), .int .i64 y] 47)) w2) => test_any hard c k _ ps w2 (HP.out.below h2) hl2)
  rw [ht] at TS
  have hr := (test_zero ht).1
  have hk1 : 1 ≤ k := hr.2.2.1
  have hk2 : k ≤ 16 := hr.2.2.2
  have TM := Lib.hid (fun w2 (h2 : Below ((w.alloc (.cells #[.bool hard, .int .i64 c, .int .i64 k] 23)).alloc (.cells #[.int .i64 (i : Int), .int .i64 y] 47)).heap.size ((w.alloc (.cells #[.bool hard, .int .i64 c, .int .i64 k] 23)).alloc (.cells #[.int .i64 (i : Int), .int .i64 y] 47)) w2) => test_any hard c (min 16 (k + 1)) _ ps w2 (HP.out.below h2) hl2)
  rw [test_more ht] at TM
  obtain ⟨i0, hi1, hz0, hz1, hz2⟩ := info_parts Try.infoParams
  clear h
  go_enter Try.func6, Try.ntmps6
  go_wp2_with fail
  refine (TS.out _ (Below.refl _ _)).mono ?_
  rintro e w1 ⟨rfl, b⟩
  have R1 := Lib.hid (show Below ((w.alloc (.cells #[.bool hard, .int .i64 c, .int .i64 k] 23)).alloc (.cells #[.int .i64 (i : Int), .int .i64 y] 47)).heap.size ((w.alloc (.cells #[.bool hard, .int .i64 c, .int .i64 k] 23)).alloc (.cells #[.int .i64 (i : Int), .int .i64 y] 47)) w1 from by
    refine bel_end ?_ b
    repeat (first | with_reducible exact Below.refl _ _ | with_reducible refine bel_alloc ?_ | with_reducible refine bel_drew ?_))
  clear b
  obtain ⟨c1_0, c1_1, c1_2, c1_3, c1_4, l1_0, l1_1⟩ := cells0 R1.out
  go_upto_region 7 with fail
  go_cut [8] from 39 to 43 (fun s wx => Owns wx w1.heap.size s (ps.take i) ∧ Below w1.heap.size w1 wx)
  case first =>
    go_wp2_with (at_builtin; (refine wpList_append_own _ rfl _ _ 24 rfl w1.heap.size 40 i0 (.agg #[.int .i64 0, .int .i64 0, .int .i64 0]) 3 24 Try.underlying24 hi1 hz0 hz1 hz2 rfl (by decide) _ 0 [] rfl (own_nil _ _) ⟨b, off, none⟩ i cap (pcells (ps.take i)) rfl (by rw [pcells_length, List.length_take]; omega) (fun j u hj => (row_cells (HP.out.below R1.out)).2 j u (pcells_take hj)) (pcells_one _) (by unfold maxLen; omega) (by omega) (Nat.le_refl _) ?_); intro v' w2 hown hgrow _)
    simp only [Nat.zero_add, List.nil_append] at hown
    go_meet
    exact ⟨by unfold Owns; rw [List.length_take, Nat.min_eq_left (by omega)]; exact hown, (Below.refl w1.heap.size w1).grown hgrow (Nat.le_refl _) (fun k e => by cases e)⟩
  case rest =>
  obtain ⟨hown, b2⟩ := hcut
  have HO2 := Lib.hid hown
  have R2 := Lib.hid (bel_end R1.out b2)
  have HB2 := Lib.hid b2
  obtain ⟨c2_0, c2_1, c2_2, c2_3, c2_4, l2_0, l2_1⟩ := cells0 R2.out
  clear c1_0 c1_1 c1_2 c1_3 c1_4 l1_0 l1_1 hown b2
  have hln : (ps.take i).length + (ps.length - (i + 1)) = (ps.take i ++ ps.drop (i + 1)).length := by rw [List.length_append, List.length_drop]
  go_upto_region 8 with fail
  go_cut [8] from 44 to 49 (fun s wx => Owns wx w1.heap.size s (ps.take i ++ ps.drop (i + 1)) ∧ Below w1.heap.size w1 wx)
  case first =>
    by_cases hc : cap = i + 1
    · subst hc
      go_wp2_with (at_builtin; (refine wpList_append_own _ rfl _ _ 24 rfl w1.heap.size 40 i0 (.agg #[.int .i64 0, .int .i64 0, .int .i64 0]) 3 24 Try.underlying24 hi1 hz0 hz1 hz2 rfl (by decide) _ _ _ rfl HO2.out _ 0 _ (pcells (ps.drop (i + 1))) rfl (by rw [pcells_length, List.length_drop]; omega) (fun j u hj => by rw [List.drop_eq_nil_of_le (by omega)] at hj; simp [pcells] at hj) (pcells_one _) (by unfold maxLen; rw [List.length_take]; omega) (by rw [List.length_take]; omega) HB2.out.size ?_); intro v2 w3 hown hgrow _)
      rw [← pcells_append, show (ps.take i).length + 0 = (ps.take i ++ ps.drop (i + 1)).length by rw [← hln]; omega] at hown
      go_meet
      exact ⟨hown, HB2.out.grown hgrow HB2.out.size (own_block HO2.out)⟩
    · have hc' : 0 < cap - (i + 1) := by omega
      go_wp2_with (at_builtin; (refine wpList_append_own _ rfl _ _ 24 rfl w1.heap.size 40 i0 (.agg #[.int .i64 0, .int .i64 0, .int .i64 0]) 3 24 Try.underlying24 hi1 hz0 hz1 hz2 rfl (by decide) _ _ _ rfl HO2.out _ (ps.length - (i + 1)) _ (pcells (ps.drop (i + 1))) rfl (by rw [pcells_length, List.length_drop]) (fun j u hj => tail_cell (row_cells (HP.out.below R2.out)).2 (by omega) hj) (pcells_one _) (by unfold maxLen; rw [List.length_take]; omega) (by rw [List.length_take]; omega) HB2.out.size ?_); intro v2 w3 hown hgrow _)
      rw [← pcells_append, hln] at hown
      go_meet
      exact ⟨hown, HB2.out.grown hgrow HB2.out.size (own_block HO2.out)⟩
  case rest =>
  obtain ⟨hown3, b3⟩ := hcut
  have R3 := Lib.hid (bel_end R1.out b3)
  have RR := Lib.hid (owns_row hown3).1
  obtain ⟨c3_0, c3_1, c3_2, c3_3, c3_4, l3_0, l3_1⟩ := cells0 R3.out
  clear HO2 R2 HB2 c2_0 c2_1 c2_2 c2_3 c2_4 l2_0 l2_1 hown3 b3 hln
  go_wp2_with fail
  go_loopw [9, 10] (fun v kk wr => ∃ (t : Nat) (K : Int), K + 1 = t ∧ t ≤ ps.length ∧ kk = .int .i64 K ∧ Owns wr wc.heap.size v (ps.reverse.take (ps.length - t)) ∧ Below wc.heap.size wc wr) (fun _ i _ => (intOf i + 1).toNat)
  case atStart => exact ⟨ps.length, _, by omega, Nat.le_refl _, rfl, by rw [Nat.sub_self]; exact own_nil _ _, Below.refl _ _⟩
  case round =>
    obtain ⟨t, K, hK, htl, rfl, hown, hbw⟩ := hrel
    have HR := Lib.hid (bel_end R3.out hbw)
    have HB := Lib.hid hbw
    have HO := Lib.hid hown
    clear hown hbw
    cases t with
    | zero =>
      obtain rfl : K = -1 := by omega
      have HF := Lib.hid (rev_all HO.out)
      have TR := Lib.hid (test_any hard c k u8 _ wr (RR.out.below HB.out) (by rw [List.length_append, List.length_take, List.length_drop]; omega))
      rw [test_rest hi ht] at TR
      clear HO hK htl
      obtain ⟨c4_0, c4_1, c4_2, c4_3, c4_4, l4_0, l4_1⟩ := cells0 HR.out
      clear c3_0 c3_1 c3_2 c3_3 c3_4 l3_0 l3_1
      go_wp2_with fail
      refine TR.out.mono ?_
      rintro e w5 ⟨rfl, b5⟩
      have R5 := Lib.hid (bel_end HR.out b5)
      obtain ⟨c5_0, c5_1, c5_2, c5_3, c5_4, l5_0, l5_1⟩ := cells0 R5.out
      have TO := Lib.hid (test_any hard c k u9 ps.reverse w5 ((owns_row HF.out).1.below b5) (by rw [List.length_reverse]; exact hl2))
      rw [test_other ht] at TO
      clear b5 c4_0 c4_1 c4_2 c4_3 c4_4 l4_0 l4_1 TR HF
      go_wp2_with fail
      refine TO.out.mono ?_
      rintro e w6 ⟨rfl, b6⟩
      have R6 := Lib.hid (bel_end R5.out b6)
      obtain ⟨c6_0, c6_1, c6_2, c6_3, c6_4, l6_0, l6_1⟩ := cells0 R6.out
      clear b6 c5_0 c5_1 c5_2 c5_3 c5_4 l5_0 l5_1 TO
      go_wp2_with fail
      refine (TM.out _ (bel_alloc R6.out)).mono ?_
      rintro e w7 ⟨rfl, b7⟩
      have R7 := Lib.hid (bel_end (bel_alloc R6.out) b7)
      obtain ⟨c7_0, c7_1, c7_2, c7_3, c7_4, l7_0, l7_1⟩ := cells0 R7.out
      obtain ⟨p7_0, p7_1, p7_2⟩ := row_at (HP.out.below R7.out) hi
      rw [hp] at p7_0 p7_1 p7_2
      simp only at p7_0 p7_1 p7_2
      have lb7 : b < w7.heap.size := cell_lt p7_0
      clear b7 c6_0 c6_1 c6_2 c6_3 c6_4 l6_0 l6_1 TM
      obtain ⟨hm1, hm2⟩ : 1 ≤ Q ∧ Q ≤ 1073741824 := by
        have hm := allMay_at (test_zero ht).2 hi
        rw [hp] at hm
        have hm' : 1 ≤ Q ∧ Q ≤ D ∧ D ≤ T ∧ T ≤ 1073741824 := hm
        omega
      by_cases hy : 1 ≤ y ∧ y < Q
      · have f1 : decide (1 ≤ y) = true := decide_eq_true hy.1
        have f2 : decide (y < Q) = true := decide_eq_true hy.2
        have f3 := hy.1
        have f4 := hy.2
        have CH := Lib.hid (fun w2 (h2 : Below ((w.alloc (.cells #[.bool hard, .int .i64 c, .int .i64 k] 23)).alloc (.cells #[.int .i64 (i : Int), .int .i64 y] 47)).heap.size ((w.alloc (.cells #[.bool hard, .int .i64 c, .int .i64 k] 23)).alloc (.cells #[.int .i64 (i : Int), .int .i64 y] 47)) w2) => change_any hard c k (i : Int) (Q - y, D, T) _ ps w2 (HP.out.below h2) (fun _ _ e => by cases e) hl2)
        rw [show changeNum hard c k (i : Int) (Q - y, D, T) ps = 0 by unfold changeNum; rw [if_pos hr, if_neg (by omega), Int.toNat_natCast]; exact test_set hi hp ht (by omega) (by omega)] at CH
        clear hy hp ht hr
        go_wp2_with fail
        refine (CH.out _ (bel_alloc R7.out)).mono ?_
        rintro e w8 ⟨rfl, b8⟩
        have HE := Lib.hid (bel_end (bel_alloc (bel_alloc (Below.refl w.heap.size w))) (bel_end (bel_alloc R7.out) b8))
        clear b8
        go_wp2_with (go_at_call 9; refine (awake_yes _).mono ?_; rintro e w' ⟨rfl, hb⟩)
        go_ret
        refine ⟨rfl, bel_end ?_ hb⟩
        repeat (first | with_reducible exact HE.out | with_reducible refine bel_alloc ?_ | with_reducible refine bel_drew ?_)
      · by_cases g1 : 1 ≤ y
        · have f1 : decide (1 ≤ y) = true := decide_eq_true g1
          have f2 : decide (y < Q) = false := decide_eq_false (by omega)
          clear g1
          have CH := Lib.hid (fun w2 (h2 : Below ((w.alloc (.cells #[.bool hard, .int .i64 c, .int .i64 k] 23)).alloc (.cells #[.int .i64 (i : Int), .int .i64 y] 47)).heap.size ((w.alloc (.cells #[.bool hard, .int .i64 c, .int .i64 k] 23)).alloc (.cells #[.int .i64 (i : Int), .int .i64 y] 47)) w2) => change_any hard c k (i : Int) (Q, D, T) _ ps w2 (HP.out.below h2) (fun _ _ e => by cases e) hl2)
          rw [show changeNum hard c k (i : Int) (Q, D, T) ps = 0 by unfold changeNum; rw [if_pos hr, if_neg (by omega), Int.toNat_natCast]; exact test_set hi hp ht (by omega) (by omega)] at CH
          clear hy hp ht hr
          go_wp2_with fail
          refine (CH.out _ (bel_alloc R7.out)).mono ?_
          rintro e w8 ⟨rfl, b8⟩
          have HE := Lib.hid (bel_end (bel_alloc (bel_alloc (Below.refl w.heap.size w))) (bel_end (bel_alloc R7.out) b8))
          clear b8
          go_wp2_with (go_at_call 9; refine (awake_yes _).mono ?_; rintro e w' ⟨rfl, hb⟩)
          go_ret
          refine ⟨rfl, bel_end ?_ hb⟩
          repeat (first | with_reducible exact HE.out | with_reducible refine bel_alloc ?_ | with_reducible refine bel_drew ?_)
        · have f1 : decide (1 ≤ y) = false := decide_eq_false g1
          clear g1
          have CH := Lib.hid (fun w2 (h2 : Below ((w.alloc (.cells #[.bool hard, .int .i64 c, .int .i64 k] 23)).alloc (.cells #[.int .i64 (i : Int), .int .i64 y] 47)).heap.size ((w.alloc (.cells #[.bool hard, .int .i64 c, .int .i64 k] 23)).alloc (.cells #[.int .i64 (i : Int), .int .i64 y] 47)) w2) => change_any hard c k (i : Int) (Q, D, T) _ ps w2 (HP.out.below h2) (fun _ _ e => by cases e) hl2)
          rw [show changeNum hard c k (i : Int) (Q, D, T) ps = 0 by unfold changeNum; rw [if_pos hr, if_neg (by omega), Int.toNat_natCast]; exact test_set hi hp ht (by omega) (by omega)] at CH
          clear hy hp ht hr
          go_wp2_with fail
          refine (CH.out _ (bel_alloc R7.out)).mono ?_
          rintro e w8 ⟨rfl, b8⟩
          have HE := Lib.hid (bel_end (bel_alloc (bel_alloc (Below.refl w.heap.size w))) (bel_end (bel_alloc R7.out) b8))
          clear b8
          go_wp2_with (go_at_call 9; refine (awake_yes _).mono ?_; rintro e w' ⟨rfl, hb⟩)
          go_ret
          refine ⟨rfl, bel_end ?_ hb⟩
          repeat (first | with_reducible exact HE.out | with_reducible refine bel_alloc ?_ | with_reducible refine bel_drew ?_)
    | succ t =>
      obtain rfl : K = (t : Int) := by omega
      have hA : ParamAt wr b (off + t * 3) (ps.getD t p0) := row_at (HP.out.below HR.out) (by omega)
      have HV := Lib.hid (rev_take (ps := ps) (t := t) (by omega))
      generalize ps.getD t p0 = q at *
      obtain ⟨z0, z1, z2⟩ := hA
      have hlt : (t : Int) < (ps.length : Int) := by omega
      have hge : ¬ (t : Int) < 0 := by omega
      have lb : b < wr.heap.size := cell_lt z0
      clear c3_0 c3_1 c3_2 c3_3 c3_4 l3_0 l3_1
      have hln : (ps.reverse.take (ps.length - (t + 1))).length + 1 = (ps.reverse.take (ps.length - t)).length := by rw [HV.out, List.length_append]; rfl
      go_wp2_with (at_builtin; (refine wpList_append_own _ rfl _ _ 24 rfl wc.heap.size 40 i0 (.agg #[.int .i64 0, .int .i64 0, .int .i64 0]) 3 24 Try.underlying24 hi1 hz0 hz1 hz2 rfl (by decide) _ _ _ rfl (HO.out.alloc _) ⟨wr.heap.size, 0, none⟩ 1 1 (pcells [q]) rfl rfl (fun j u hj => by obtain ⟨i', c', hi', hc', rfl, rfl⟩ := pcells_at hj; obtain rfl : i' = 0 := Nat.lt_one_iff.1 hi'; match c', hc' with | 0, _ => exact (by simp [Addr.add, pc]) | 1, _ => exact (by simp [Addr.add, pc]) | 2, _ => exact (by simp [Addr.add, pc])) (pcells_one _) (by unfold maxLen; rw [List.length_take, List.length_reverse]; omega) (by rw [List.length_take, List.length_reverse]; omega) (Nat.le_trans HB.out.size (by simp)) ?_); intro v2 w3 hown hgrow _)
      rw [← pcells_append, hln, ← HV.out] at hown
      have HO3 := Lib.hid hown
      have HB3 := Lib.hid ((HB.out.alloc HB.out.size _).grown hgrow (Nat.le_trans HB.out.size (by simp)) (own_block HO.out))
      clear hown hgrow HO HB HV hln z0 z1 z2
      go_wp2_with fail
      go_roundw
      case rel => exact ⟨t, _, by omega, by omega, rfl, HO3.out, HB3.out⟩
      case measure => first | (simp [intOf]; done) | (simp [intOf]; omega)
theorem walk (hard : Bool) (c k : Int) (v : Value) (ps : List P3) (x y : Int) (w : World) (_ : (Lit.int .i64 c).wf = true) (_ : (Lit.int .i64 k).wf = true) (hps : ParamRow w v ps) (hn : NilOk v) (hk : CapOk v) (_ : (Lit.int .i64 x).wf = true) (_ : (Lit.int .i64 y).wf = true) : Calls Try.prog 6 #[.agg #[.bool hard, .int .i64 c, .int .i64 k], v, .agg #[.int .i64 x, .int .i64 y]] w (Yes w) := by
  obtain ⟨a, len, cap, rfl⟩ := row_slice hps
  by_cases h0 : len = 0
  · exact empty hard c k x y a len cap w h0
  by_cases hl : 70 < len
  · exact many hard c k x y a len cap w hl
  by_cases ht : testNum hard c k ps = 0
  · by_cases h1 : x < 0
    · exact low hard c k x y a len cap ps w hps (by omega) hl ht h1
    by_cases h2 : (len : Int) ≤ x
    · exact high hard c k x y a len cap ps w hps (by omega) hl ht h1 h2
    obtain ⟨i, rfl⟩ := Int.eq_ofNat_of_zero_le (show 0 ≤ x by omega)
    have hlen := row_len hps
    subst hlen
    obtain ⟨hc, hc'⟩ := hk _ _ _ rfl
    rcases hps with ⟨_, _, _, rfl⟩ | ⟨b, off, cap', e, hb, h3, h4⟩
    · simp at h0
    · cases e
      exact inside hard c k y i b off cap ps w (.inr ⟨b, off, cap, rfl, hb, h3, h4⟩) hc hc' hl (by omega) ht _ _ _ rfl
  · exact fails hard c k x y a len cap ps w hps (by omega) hl ht

set_option maxRecDepth 100000 in
theorem lifted (os : Os) (started : os.Started) (H : Type) (enc : TypeId × Value → H) :
    ReturnsInHanded {} Try.checked os 6 .any (Rows.admitLessSpec.pre6 enc Try.prog Try.f6 Rows.admitLessRow.domain false) (Rows.admitLessSpec.post enc Try.prog Try.f6 false true false false) := by
  refine returnsInHanded_of_change (C := Try.checked) own started (by kernel_rfl) Try.func6
    (ChangeSpec.witness6 (enc := enc) (C := Try.checked) false ⟨#[], #[.agg #[.bool false, .int .i64 0, .int .i64 0], .slice none 0 0, .agg #[.int .i64 0, .int .i64 0]], []⟩ 8 (by kernel_rfl) (by kernel_rfl) (by kernel_rfl) (by kernel_rfl)) ?_
  intro W base args ds gs before hval0 hW hcnd _
  have hval : ∀ (j : Nat) t v, Try.f6.params[j]? = some t → args[j]? = some v → Value.okWide Try.prog W .any base t v := hval0
  have hW' := hW
  obtain ⟨p, q, hA0, hV, _, hfz, hnd⟩ := hW'
  have hA : DataW.TrodAll enc Try.prog W 0 (fun _ => true) true Try.f6.params.toList args.toList ds p := hA0
  rw [Try.params6] at hA hval
  obtain ⟨v0, v1, v2, d0, d1, d2, p0, p1, p2, rfl, _, _, h0, h1, h2⟩ := trodAll_three hA
  obtain ⟨c00, c01, c02, y00, y01, y02, m0, rfl, _, _, hy00, hy01, hy02⟩ := open_agg3 Try.underlying23 (by kernel_rfl) (by kernel_rfl) (hval 0 23 v0 rfl rfl) h0
  obtain ⟨hard, e00, _⟩ := DataW.trod_bool Try.underlying4 hy00
  obtain ⟨c, e01, _, wc⟩ := DataW.trod_int Try.underlying3 hy01
  obtain ⟨k, e02, _, wk⟩ := DataW.trod_int Try.underlying3 hy02
  simp at e00 e01 e02
  subst e00 e01 e02
  obtain ⟨ps, hps, fps, lps⟩ := open_params Try.underlying24 Try.underlying40 (by kernel_rfl) (fun i hi => by match i, hi with | 0, _ => exact ⟨_, rfl, rfl, by kernel_rfl, Try.underlying3⟩ | 1, _ => exact ⟨_, rfl, rfl, by kernel_rfl, Try.underlying3⟩ | 2, _ => exact ⟨_, rfl, rfl, by kernel_rfl, Try.underlying3⟩) (hval 1 24 v1 rfl rfl) h1
  have nps := open_nil Try.underlying24 (hval 1 24 v1 rfl rfl) h1
  have kps := open_cap Try.underlying24 (hval 1 24 v1 rfl rfl) h1
  obtain ⟨x, y, rfl, wx, wy⟩ := open_arr2 Try.underlying47 Try.underlying3 (by kernel_rfl) (by kernel_rfl) (hval 2 47 v2 rfl rfl) h2
  refine (walk hard c k v1 ps x y W wc wk hps nps kps wx wy).mono fun e W' h => ?_
  exact law_post (f := Try.f6) rfl rfl Try.underlying4 (by kernel_rfl) (fun ds hd => by
    match ds, hd with
    | [_, _, _], _ => rfl) hW h

theorem over : Rows.admitLessRow.holds Try.pinned (OpenSpec.ofChange Rows.admitLessSpec) :=
  OpenClaim.holds_of_wide 6 Try.f6 rfl rfl rfl rfl rfl rfl rfl ⟨rfl, rfl, rfl, rfl, rfl⟩ rfl rfl rfl rfl rfl (by kernel_rfl) Try.func6 (by kernel_rfl)
    (of_decide_eq_true (by kernel_rfl)) (by unfold Func.isWrapper; first | (rw [if_pos (by decide +kernel)]; kernel_rfl) | (rw [if_neg (by decide +kernel)]; exact ⟨rfl, rfl⟩))
    (fun os started H enc _ => lifted os started H enc)

/-- THE STATEMENT. -/
theorem proved : Rows.AdmitLessSaid := over
end Go.Proofs.Ytoagdaenbanhlaa.admitLess
