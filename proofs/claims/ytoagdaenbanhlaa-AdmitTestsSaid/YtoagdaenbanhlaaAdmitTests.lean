/- AdmitTests answers true at every rule, every servers and every number. No condition. -/
import Derived.Test.YtoagdaenbanhlaaAdmitBox
import Derived.Deep.RegionHeld3
import Derived.Deep.QuietTactic
import Derived.Deep.CutBlock
import Derived.Deep.DeepCutAuto
namespace Go.Proofs.Ytoagdaenbanhlaa.admitTests
open Go.ChangeShapes Go.WideShapes Go.ChangeAt Go.RowKit Go.Joins Go.Shelf

set_option maxRecDepth 100000 in
set_option maxHeartbeats 4000000 in
theorem many (hard : Bool) (c k m : Int) (a : Option Addr) (len cap : Nat) (ps : List P3) (w : World) (_ : ParamRow w (.slice a len cap) ps) (hl : 70 < len) : Calls Try.prog 3 #[.agg #[.bool hard, .int .i64 c, .int .i64 k], .slice a len cap, .int .i64 m] w (Yes w) := by
  have d1 : decide (70 < (len : Int)) = true := decide_eq_true (by omega)
  clear hl
  go_enter Try.func3, Try.ntmps3
  go_wp2_with (go_at_call 9; refine (awake_yes _).mono ?_; rintro e w' ⟨rfl, hb⟩)
  go_ret
  exact ⟨rfl, bel_end (bel_alloc (Below.refl _ _)) hb⟩
set_option maxRecDepth 100000 in
set_option maxHeartbeats 4000000 in
theorem bad (hard : Bool) (c k m : Int) (a : Option Addr) (len cap : Nat) (ps : List P3) (w : World) (h : ParamRow w (.slice a len cap) ps) (hl : ¬ 70 < len) (hr : ¬ RuleMay c k) : Calls Try.prog 3 #[.agg #[.bool hard, .int .i64 c, .int .i64 k], .slice a len cap, .int .i64 m] w (Yes w) := by
  have hlen := row_len h
  have d1 : decide (70 < (len : Int)) = false := decide_eq_false (by omega)
  have HP := Lib.hid (h.below (bel_alloc (Below.refl w.heap.size w) (o := .cells #[.bool hard, .int .i64 c, .int .i64 k] 23)))
  have hl2 : ps.length ≤ 1000 := by omega
  have LD := Lib.hid (fun w2 (h2 : Below (w.alloc (.cells #[.bool hard, .int .i64 c, .int .i64 k] 23)).heap.size (w.alloc (.cells #[.bool hard, .int .i64 c, .int .i64 k] 23)) w2) => load_any hard c k _ ps w2 (HP.out.below h2) hl2)
  have TS := Lib.hid (fun w2 (h2 : Below (w.alloc (.cells #[.bool hard, .int .i64 c, .int .i64 k] 23)).heap.size (w.alloc (.cells #[.bool hard, .int .i64 c, .int .i64 k] 23)) w2) => test_any hard c k _ ps w2 (HP.out.below h2) hl2)
  have LT := Lib.hid (fun w2 (h2 : Below (w.alloc (.cells #[.bool hard, .int .i64 c, .int .i64 k] 23)).heap.size (w.alloc (.cells #[.bool hard, .int .i64 c, .int .i64 k] 23)) w2) => lawtest_any hard c k _ ps w2 (HP.out.below h2) hl2)
  have RL := Lib.hid (fun w2 (h2 : Below (w.alloc (.cells #[.bool hard, .int .i64 c, .int .i64 k] 23)).heap.size (w.alloc (.cells #[.bool hard, .int .i64 c, .int .i64 k] 23)) w2) => refload_any hard _ ps w2 (HP.out.below h2) hl2)
  have BD := Lib.hid (bound_any hard c k m)
  have RU := Lib.hid (rule_any c k)
  have CK := Lib.hid (acheck_bad hard c k hr)
  unfold ruleBox at CK
  rw [load_not (fun h => hr h.1)] at LD
  rw [test_not (fun h => hr h.1)] at TS
  rw [show boundVal hard c k m = .tuple #[.int .i64 0, .int .i64 1] by unfold boundVal; rw [if_neg hr]] at BD
  rw [decide_eq_false hr] at RU
  clear hr h hl hl2 hlen HP LT RL
  go_enter Try.func3, Try.ntmps3
  go_wp2_with fail
  refine (LD.out _ (Below.refl _ _)).mono ?_
  rintro e w1 ⟨rfl, b1⟩
  have R1 := Lib.hid (show Below (w.alloc (.cells #[.bool hard, .int .i64 c, .int .i64 k] 23)).heap.size (w.alloc (.cells #[.bool hard, .int .i64 c, .int .i64 k] 23)) w1 from by
    refine bel_end ?_ b1
    repeat (first | with_reducible exact Below.refl _ _ | with_reducible refine bel_alloc ?_ | with_reducible refine bel_drew ?_))
  clear b1
  obtain ⟨c10, c11, c12, l1⟩ := box_cells R1.out
  go_wp2_with fail
  refine (BD.out _).mono ?_
  clear c10 c11 c12 l1
  rintro e w2 ⟨rfl, b2⟩
  have R2 := Lib.hid (show Below (w.alloc (.cells #[.bool hard, .int .i64 c, .int .i64 k] 23)).heap.size (w.alloc (.cells #[.bool hard, .int .i64 c, .int .i64 k] 23)) w2 from by
    refine bel_end ?_ b2
    repeat (first | with_reducible exact R1.out | with_reducible refine bel_alloc ?_ | with_reducible refine bel_drew ?_))
  clear b2
  obtain ⟨c20, c21, c22, l2⟩ := box_cells R2.out
  go_wp2_with fail
  refine (RU.out _).mono ?_
  rintro e w3 ⟨rfl, rfl⟩
  go_wp2_with fail
  refine (CK.out _).mono ?_
  rintro e w4 ⟨rfl, rfl⟩
  have R4 := Lib.hid (bel_alloc R2.out (o := .cells #[.bool hard, .int .i64 c, .int .i64 k] 23))
  go_wp2_with fail
  refine (TS.out _ R4.out).mono ?_
  rintro e w5 ⟨rfl, b5⟩
  have HB := Lib.hid (bel_end (bel_alloc (Below.refl w.heap.size w)) (bel_end R4.out b5))
  clear b5
  go_wp2_with (go_at_call 9; refine (awake_yes _).mono ?_; rintro e w' ⟨rfl, hb⟩)
  go_ret
  exact ⟨rfl, bel_end HB.out hb⟩
set_option maxRecDepth 100000 in
set_option maxHeartbeats 4000000 in
theorem low_all (hard : Bool) (c k m : Int) (a : Option Addr) (len cap : Nat) (ps : List P3) (w : World) (h : ParamRow w (.slice a len cap) ps) (hl : ¬ 70 < len) (hr : RuleMay c k) (hm : m < 0) (ha : allMay ps = true) : Calls Try.prog 3 #[.agg #[.bool hard, .int .i64 c, .int .i64 k], .slice a len cap, .int .i64 m] w (Yes w) := by
  have hlen := row_len h
  have d1 : decide (70 < (len : Int)) = false := decide_eq_false (by omega)
  have HP := Lib.hid (h.below (bel_alloc (Below.refl w.heap.size w) (o := .cells #[.bool hard, .int .i64 c, .int .i64 k] 23)))
  have hl2 : ps.length ≤ 1000 := by omega
  have LD := Lib.hid (fun w2 (h2 : Below (w.alloc (.cells #[.bool hard, .int .i64 c, .int .i64 k] 23)).heap.size (w.alloc (.cells #[.bool hard, .int .i64 c, .int .i64 k] 23)) w2) => load_any hard c k _ ps w2 (HP.out.below h2) hl2)
  have TS := Lib.hid (fun w2 (h2 : Below (w.alloc (.cells #[.bool hard, .int .i64 c, .int .i64 k] 23)).heap.size (w.alloc (.cells #[.bool hard, .int .i64 c, .int .i64 k] 23)) w2) => test_any hard c k _ ps w2 (HP.out.below h2) hl2)
  have LT := Lib.hid (fun w2 (h2 : Below (w.alloc (.cells #[.bool hard, .int .i64 c, .int .i64 k] 23)).heap.size (w.alloc (.cells #[.bool hard, .int .i64 c, .int .i64 k] 23)) w2) => lawtest_any hard c k _ ps w2 (HP.out.below h2) hl2)
  have RL := Lib.hid (fun w2 (h2 : Below (w.alloc (.cells #[.bool hard, .int .i64 c, .int .i64 k] 23)).heap.size (w.alloc (.cells #[.bool hard, .int .i64 c, .int .i64 k] 23)) w2) => refload_any hard _ ps w2 (HP.out.below h2) hl2)
  have BD := Lib.hid (bound_any hard c k m)
  have RU := Lib.hid (rule_any c k)
  have CK := Lib.hid (acheck_ok hard c k hr)
  unfold ruleBox at CK
  rw [decide_eq_true hr] at RU
  rw [show boundVal hard c k m = .tuple #[.int .i64 0, .int .i64 10] by unfold boundVal; rw [if_pos hr, if_pos (by omega)]] at BD
  have e1 : decide (m < 0) = true := decide_eq_true hm
  clear hm
  rw [load_ok hr ha] at LD
  unfold loadVal at RL
  rw [if_pos ha] at RL
  generalize asked hard ps = q at *
  obtain ⟨S, M⟩ := q
  simp only at LD RL
  generalize testNum hard c k ps = T at *
  clear hr ha h hl hl2 hlen HP
  go_enter Try.func3, Try.ntmps3
  go_wp2_with fail
  refine (LD.out _ (Below.refl _ _)).mono ?_
  rintro e w1 ⟨rfl, b1⟩
  have R1 := Lib.hid (show Below (w.alloc (.cells #[.bool hard, .int .i64 c, .int .i64 k] 23)).heap.size (w.alloc (.cells #[.bool hard, .int .i64 c, .int .i64 k] 23)) w1 from by
    refine bel_end ?_ b1
    repeat (first | with_reducible exact Below.refl _ _ | with_reducible refine bel_alloc ?_ | with_reducible refine bel_drew ?_))
  clear b1
  obtain ⟨c10, c11, c12, l1⟩ := box_cells R1.out
  go_wp2_with fail
  refine (BD.out _).mono ?_
  clear c10 c11 c12 l1
  rintro e w2 ⟨rfl, b2⟩
  have R2 := Lib.hid (show Below (w.alloc (.cells #[.bool hard, .int .i64 c, .int .i64 k] 23)).heap.size (w.alloc (.cells #[.bool hard, .int .i64 c, .int .i64 k] 23)) w2 from by
    refine bel_end ?_ b2
    repeat (first | with_reducible exact R1.out | with_reducible refine bel_alloc ?_ | with_reducible refine bel_drew ?_))
  clear b2
  obtain ⟨c20, c21, c22, l2⟩ := box_cells R2.out
  go_wp2_with fail
  refine (RU.out _).mono ?_
  rintro e w3 ⟨rfl, rfl⟩
  go_upto_region 7 with fail
  go_cut [81] from 70 to 80 (fun s wx => s = .bool false ∧ Below (w.alloc (.cells #[.bool hard, .int .i64 c, .int .i64 k] 23)).heap.size (w.alloc (.cells #[.bool hard, .int .i64 c, .int .i64 k] 23)) wx)
  case first =>
    have R2' := R2.out
    clear c20 c21 c22
    go_region_held3 (fun w' => w'.cell? ⟨w.heap.size, 0, none⟩ = some (.bool hard) ∧ w'.cell? ⟨w.heap.size, 1, none⟩ = some (.int .i64 c) ∧ w'.cell? ⟨w.heap.size, 2, none⟩ = some (.int .i64 k) ∧ Below (w.alloc (.cells #[.bool hard, .int .i64 c, .int .i64 k] 23)).heap.size (w.alloc (.cells #[.bool hard, .int .i64 c, .int .i64 k] 23)) w') (first | exact box_all (by assumption) | exact box_all (bel_drew (by assumption)))
      (first
      | (go_at_call 14; go_split_ands; (with_reducible refine (TS.out _ (by assumption)).mono ?_); rintro e w9 ⟨rfl, b9⟩; have R9 := bel_end (by assumption) b9)
      | (go_at_call 15; go_split_ands; (with_reducible refine (LT.out _ (by assumption)).mono ?_); rintro e w9 ⟨rfl, b9⟩; have R9 := bel_end (by assumption) b9)
      | (go_at_call 13; go_split_ands; (with_reducible refine (CK.out _).mono ?_); rintro e w9 ⟨rfl, rfl⟩; have R9 := bel_alloc (by assumption) (o := .cells #[.bool hard, .int .i64 c, .int .i64 k] 23)))
    all_goals (go_split_ands; go_wp2_with fail; go_meet; exact ⟨by first | rfl | simp, by assumption⟩)
  case rest =>
  obtain ⟨rfl, r7⟩ := hcut
  obtain ⟨c70, c71, c72, l7⟩ := box_cells r7
  have R7 := Lib.hid r7
  clear c20 c21 c22 l2 R1 R2 r7
  go_wp2_with fail
  refine (RL.out _ R7.out).mono ?_
  rintro e w9 ⟨rfl, b9⟩
  have R9 := Lib.hid (show Below (w.alloc (.cells #[.bool hard, .int .i64 c, .int .i64 k] 23)).heap.size (w.alloc (.cells #[.bool hard, .int .i64 c, .int .i64 k] 23)) w9 from by
    refine bel_end ?_ b9
    repeat (first | with_reducible exact R7.out | with_reducible refine bel_alloc ?_ | with_reducible refine bel_drew ?_))
  clear b9
  have HB := Lib.hid (bel_end (bel_alloc (Below.refl w.heap.size w)) R9.out)
  go_wp2_with (go_at_call 9; refine (awake_yes _).mono ?_; rintro e w' ⟨rfl, hb⟩)
  go_ret
  exact ⟨rfl, bel_end HB.out hb⟩
set_option maxRecDepth 100000 in
set_option maxHeartbeats 4000000 in
theorem low_not (hard : Bool) (c k m : Int) (a : Option Addr) (len cap : Nat) (ps : List P3) (w : World) (h : ParamRow w (.slice a len cap) ps) (hl : ¬ 70 < len) (hr : RuleMay c k) (hm : m < 0) (ha : ¬ allMay ps = true) : Calls Try.prog 3 #[.agg #[.bool hard, .int .i64 c, .int .i64 k], .slice a len cap, .int .i64 m] w (Yes w) := by
  have hlen := row_len h
  have d1 : decide (70 < (len : Int)) = false := decide_eq_false (by omega)
  have HP := Lib.hid (h.below (bel_alloc (Below.refl w.heap.size w) (o := .cells #[.bool hard, .int .i64 c, .int .i64 k] 23)))
  have hl2 : ps.length ≤ 1000 := by omega
  have LD := Lib.hid (fun w2 (h2 : Below (w.alloc (.cells #[.bool hard, .int .i64 c, .int .i64 k] 23)).heap.size (w.alloc (.cells #[.bool hard, .int .i64 c, .int .i64 k] 23)) w2) => load_any hard c k _ ps w2 (HP.out.below h2) hl2)
  have TS := Lib.hid (fun w2 (h2 : Below (w.alloc (.cells #[.bool hard, .int .i64 c, .int .i64 k] 23)).heap.size (w.alloc (.cells #[.bool hard, .int .i64 c, .int .i64 k] 23)) w2) => test_any hard c k _ ps w2 (HP.out.below h2) hl2)
  have LT := Lib.hid (fun w2 (h2 : Below (w.alloc (.cells #[.bool hard, .int .i64 c, .int .i64 k] 23)).heap.size (w.alloc (.cells #[.bool hard, .int .i64 c, .int .i64 k] 23)) w2) => lawtest_any hard c k _ ps w2 (HP.out.below h2) hl2)
  have RL := Lib.hid (fun w2 (h2 : Below (w.alloc (.cells #[.bool hard, .int .i64 c, .int .i64 k] 23)).heap.size (w.alloc (.cells #[.bool hard, .int .i64 c, .int .i64 k] 23)) w2) => refload_any hard _ ps w2 (HP.out.below h2) hl2)
  have BD := Lib.hid (bound_any hard c k m)
  have RU := Lib.hid (rule_any c k)
  have CK := Lib.hid (acheck_ok hard c k hr)
  unfold ruleBox at CK
  rw [decide_eq_true hr] at RU
  rw [show boundVal hard c k m = .tuple #[.int .i64 0, .int .i64 10] by unfold boundVal; rw [if_pos hr, if_pos (by omega)]] at BD
  have e1 : decide (m < 0) = true := decide_eq_true hm
  clear hm
  rw [load_not (fun h => ha h.2)] at LD
  unfold loadVal at RL
  rw [if_neg ha] at RL
  generalize testNum hard c k ps = T at *
  clear hr ha h hl hl2 hlen HP
  go_enter Try.func3, Try.ntmps3
  go_wp2_with fail
  refine (LD.out _ (Below.refl _ _)).mono ?_
  rintro e w1 ⟨rfl, b1⟩
  have R1 := Lib.hid (show Below (w.alloc (.cells #[.bool hard, .int .i64 c, .int .i64 k] 23)).heap.size (w.alloc (.cells #[.bool hard, .int .i64 c, .int .i64 k] 23)) w1 from by
    refine bel_end ?_ b1
    repeat (first | with_reducible exact Below.refl _ _ | with_reducible refine bel_alloc ?_ | with_reducible refine bel_drew ?_))
  clear b1
  obtain ⟨c10, c11, c12, l1⟩ := box_cells R1.out
  go_wp2_with fail
  refine (BD.out _).mono ?_
  clear c10 c11 c12 l1
  rintro e w2 ⟨rfl, b2⟩
  have R2 := Lib.hid (show Below (w.alloc (.cells #[.bool hard, .int .i64 c, .int .i64 k] 23)).heap.size (w.alloc (.cells #[.bool hard, .int .i64 c, .int .i64 k] 23)) w2 from by
    refine bel_end ?_ b2
    repeat (first | with_reducible exact R1.out | with_reducible refine bel_alloc ?_ | with_reducible refine bel_drew ?_))
  clear b2
  obtain ⟨c20, c21, c22, l2⟩ := box_cells R2.out
  go_wp2_with fail
  refine (RU.out _).mono ?_
  rintro e w3 ⟨rfl, rfl⟩
  go_upto_region 7 with fail
  go_cut [81] from 70 to 80 (fun s wx => s = .bool false ∧ Below (w.alloc (.cells #[.bool hard, .int .i64 c, .int .i64 k] 23)).heap.size (w.alloc (.cells #[.bool hard, .int .i64 c, .int .i64 k] 23)) wx)
  case first =>
    have R2' := R2.out
    clear c20 c21 c22
    go_region_held3 (fun w' => w'.cell? ⟨w.heap.size, 0, none⟩ = some (.bool hard) ∧ w'.cell? ⟨w.heap.size, 1, none⟩ = some (.int .i64 c) ∧ w'.cell? ⟨w.heap.size, 2, none⟩ = some (.int .i64 k) ∧ Below (w.alloc (.cells #[.bool hard, .int .i64 c, .int .i64 k] 23)).heap.size (w.alloc (.cells #[.bool hard, .int .i64 c, .int .i64 k] 23)) w') (first | exact box_all (by assumption) | exact box_all (bel_drew (by assumption)))
      (first
      | (go_at_call 14; go_split_ands; (with_reducible refine (TS.out _ (by assumption)).mono ?_); rintro e w9 ⟨rfl, b9⟩; have R9 := bel_end (by assumption) b9)
      | (go_at_call 15; go_split_ands; (with_reducible refine (LT.out _ (by assumption)).mono ?_); rintro e w9 ⟨rfl, b9⟩; have R9 := bel_end (by assumption) b9)
      | (go_at_call 13; go_split_ands; (with_reducible refine (CK.out _).mono ?_); rintro e w9 ⟨rfl, rfl⟩; have R9 := bel_alloc (by assumption) (o := .cells #[.bool hard, .int .i64 c, .int .i64 k] 23)))
    all_goals (go_split_ands; go_wp2_with fail; go_meet; exact ⟨by first | rfl | simp, by assumption⟩)
  case rest =>
  obtain ⟨rfl, r7⟩ := hcut
  obtain ⟨c70, c71, c72, l7⟩ := box_cells r7
  have R7 := Lib.hid r7
  clear c20 c21 c22 l2 R1 R2 r7
  go_wp2_with fail
  refine (RL.out _ R7.out).mono ?_
  rintro e w9 ⟨rfl, b9⟩
  have R9 := Lib.hid (show Below (w.alloc (.cells #[.bool hard, .int .i64 c, .int .i64 k] 23)).heap.size (w.alloc (.cells #[.bool hard, .int .i64 c, .int .i64 k] 23)) w9 from by
    refine bel_end ?_ b9
    repeat (first | with_reducible exact R7.out | with_reducible refine bel_alloc ?_ | with_reducible refine bel_drew ?_))
  clear b9
  have HB := Lib.hid (bel_end (bel_alloc (Below.refl w.heap.size w)) R9.out)
  go_wp2_with (go_at_call 9; refine (awake_yes _).mono ?_; rintro e w' ⟨rfl, hb⟩)
  go_ret
  exact ⟨rfl, bel_end HB.out hb⟩
set_option maxRecDepth 100000 in
set_option maxHeartbeats 4000000 in
theorem high_all (hard : Bool) (c k m : Int) (a : Option Addr) (len cap : Nat) (ps : List P3) (w : World) (h : ParamRow w (.slice a len cap) ps) (hl : ¬ 70 < len) (hr : RuleMay c k) (hm : 1048576 < m) (ha : allMay ps = true) : Calls Try.prog 3 #[.agg #[.bool hard, .int .i64 c, .int .i64 k], .slice a len cap, .int .i64 m] w (Yes w) := by
  have hlen := row_len h
  have d1 : decide (70 < (len : Int)) = false := decide_eq_false (by omega)
  have HP := Lib.hid (h.below (bel_alloc (Below.refl w.heap.size w) (o := .cells #[.bool hard, .int .i64 c, .int .i64 k] 23)))
  have hl2 : ps.length ≤ 1000 := by omega
  have LD := Lib.hid (fun w2 (h2 : Below (w.alloc (.cells #[.bool hard, .int .i64 c, .int .i64 k] 23)).heap.size (w.alloc (.cells #[.bool hard, .int .i64 c, .int .i64 k] 23)) w2) => load_any hard c k _ ps w2 (HP.out.below h2) hl2)
  have TS := Lib.hid (fun w2 (h2 : Below (w.alloc (.cells #[.bool hard, .int .i64 c, .int .i64 k] 23)).heap.size (w.alloc (.cells #[.bool hard, .int .i64 c, .int .i64 k] 23)) w2) => test_any hard c k _ ps w2 (HP.out.below h2) hl2)
  have LT := Lib.hid (fun w2 (h2 : Below (w.alloc (.cells #[.bool hard, .int .i64 c, .int .i64 k] 23)).heap.size (w.alloc (.cells #[.bool hard, .int .i64 c, .int .i64 k] 23)) w2) => lawtest_any hard c k _ ps w2 (HP.out.below h2) hl2)
  have RL := Lib.hid (fun w2 (h2 : Below (w.alloc (.cells #[.bool hard, .int .i64 c, .int .i64 k] 23)).heap.size (w.alloc (.cells #[.bool hard, .int .i64 c, .int .i64 k] 23)) w2) => refload_any hard _ ps w2 (HP.out.below h2) hl2)
  have BD := Lib.hid (bound_any hard c k m)
  have RU := Lib.hid (rule_any c k)
  have CK := Lib.hid (acheck_ok hard c k hr)
  unfold ruleBox at CK
  rw [decide_eq_true hr] at RU
  rw [show boundVal hard c k m = .tuple #[.int .i64 0, .int .i64 10] by unfold boundVal; rw [if_pos hr, if_pos (by omega)]] at BD
  have e1 : decide (m < 0) = false := decide_eq_false (by omega)
  have e2 : decide (1048576 < m) = true := decide_eq_true hm
  clear hm
  rw [load_ok hr ha] at LD
  unfold loadVal at RL
  rw [if_pos ha] at RL
  generalize asked hard ps = q at *
  obtain ⟨S, M⟩ := q
  simp only at LD RL
  generalize testNum hard c k ps = T at *
  clear hr ha h hl hl2 hlen HP
  go_enter Try.func3, Try.ntmps3
  go_wp2_with fail
  refine (LD.out _ (Below.refl _ _)).mono ?_
  rintro e w1 ⟨rfl, b1⟩
  have R1 := Lib.hid (show Below (w.alloc (.cells #[.bool hard, .int .i64 c, .int .i64 k] 23)).heap.size (w.alloc (.cells #[.bool hard, .int .i64 c, .int .i64 k] 23)) w1 from by
    refine bel_end ?_ b1
    repeat (first | with_reducible exact Below.refl _ _ | with_reducible refine bel_alloc ?_ | with_reducible refine bel_drew ?_))
  clear b1
  obtain ⟨c10, c11, c12, l1⟩ := box_cells R1.out
  go_wp2_with fail
  refine (BD.out _).mono ?_
  clear c10 c11 c12 l1
  rintro e w2 ⟨rfl, b2⟩
  have R2 := Lib.hid (show Below (w.alloc (.cells #[.bool hard, .int .i64 c, .int .i64 k] 23)).heap.size (w.alloc (.cells #[.bool hard, .int .i64 c, .int .i64 k] 23)) w2 from by
    refine bel_end ?_ b2
    repeat (first | with_reducible exact R1.out | with_reducible refine bel_alloc ?_ | with_reducible refine bel_drew ?_))
  clear b2
  obtain ⟨c20, c21, c22, l2⟩ := box_cells R2.out
  go_wp2_with fail
  refine (RU.out _).mono ?_
  rintro e w3 ⟨rfl, rfl⟩
  go_upto_region 7 with fail
  go_cut [81] from 70 to 80 (fun s wx => s = .bool false ∧ Below (w.alloc (.cells #[.bool hard, .int .i64 c, .int .i64 k] 23)).heap.size (w.alloc (.cells #[.bool hard, .int .i64 c, .int .i64 k] 23)) wx)
  case first =>
    have R2' := R2.out
    clear c20 c21 c22
    go_region_held3 (fun w' => w'.cell? ⟨w.heap.size, 0, none⟩ = some (.bool hard) ∧ w'.cell? ⟨w.heap.size, 1, none⟩ = some (.int .i64 c) ∧ w'.cell? ⟨w.heap.size, 2, none⟩ = some (.int .i64 k) ∧ Below (w.alloc (.cells #[.bool hard, .int .i64 c, .int .i64 k] 23)).heap.size (w.alloc (.cells #[.bool hard, .int .i64 c, .int .i64 k] 23)) w') (first | exact box_all (by assumption) | exact box_all (bel_drew (by assumption)))
      (first
      | (go_at_call 14; go_split_ands; (with_reducible refine (TS.out _ (by assumption)).mono ?_); rintro e w9 ⟨rfl, b9⟩; have R9 := bel_end (by assumption) b9)
      | (go_at_call 15; go_split_ands; (with_reducible refine (LT.out _ (by assumption)).mono ?_); rintro e w9 ⟨rfl, b9⟩; have R9 := bel_end (by assumption) b9)
      | (go_at_call 13; go_split_ands; (with_reducible refine (CK.out _).mono ?_); rintro e w9 ⟨rfl, rfl⟩; have R9 := bel_alloc (by assumption) (o := .cells #[.bool hard, .int .i64 c, .int .i64 k] 23)))
    all_goals (go_split_ands; go_wp2_with fail; go_meet; exact ⟨by first | rfl | simp, by assumption⟩)
  case rest =>
  obtain ⟨rfl, r7⟩ := hcut
  obtain ⟨c70, c71, c72, l7⟩ := box_cells r7
  have R7 := Lib.hid r7
  clear c20 c21 c22 l2 R1 R2 r7
  go_wp2_with fail
  refine (RL.out _ R7.out).mono ?_
  rintro e w9 ⟨rfl, b9⟩
  have R9 := Lib.hid (show Below (w.alloc (.cells #[.bool hard, .int .i64 c, .int .i64 k] 23)).heap.size (w.alloc (.cells #[.bool hard, .int .i64 c, .int .i64 k] 23)) w9 from by
    refine bel_end ?_ b9
    repeat (first | with_reducible exact R7.out | with_reducible refine bel_alloc ?_ | with_reducible refine bel_drew ?_))
  clear b9
  have HB := Lib.hid (bel_end (bel_alloc (Below.refl w.heap.size w)) R9.out)
  go_wp2_with (go_at_call 9; refine (awake_yes _).mono ?_; rintro e w' ⟨rfl, hb⟩)
  go_ret
  exact ⟨rfl, bel_end HB.out hb⟩
set_option maxRecDepth 100000 in
set_option maxHeartbeats 4000000 in
theorem high_not (hard : Bool) (c k m : Int) (a : Option Addr) (len cap : Nat) (ps : List P3) (w : World) (h : ParamRow w (.slice a len cap) ps) (hl : ¬ 70 < len) (hr : RuleMay c k) (hm : 1048576 < m) (ha : ¬ allMay ps = true) : Calls Try.prog 3 #[.agg #[.bool hard, .int .i64 c, .int .i64 k], .slice a len cap, .int .i64 m] w (Yes w) := by
  have hlen := row_len h
  have d1 : decide (70 < (len : Int)) = false := decide_eq_false (by omega)
  have HP := Lib.hid (h.below (bel_alloc (Below.refl w.heap.size w) (o := .cells #[.bool hard, .int .i64 c, .int .i64 k] 23)))
  have hl2 : ps.length ≤ 1000 := by omega
  have LD := Lib.hid (fun w2 (h2 : Below (w.alloc (.cells #[.bool hard, .int .i64 c, .int .i64 k] 23)).heap.size (w.alloc (.cells #[.bool hard, .int .i64 c, .int .i64 k] 23)) w2) => load_any hard c k _ ps w2 (HP.out.below h2) hl2)
  have TS := Lib.hid (fun w2 (h2 : Below (w.alloc (.cells #[.bool hard, .int .i64 c, .int .i64 k] 23)).heap.size (w.alloc (.cells #[.bool hard, .int .i64 c, .int .i64 k] 23)) w2) => test_any hard c k _ ps w2 (HP.out.below h2) hl2)
  have LT := Lib.hid (fun w2 (h2 : Below (w.alloc (.cells #[.bool hard, .int .i64 c, .int .i64 k] 23)).heap.size (w.alloc (.cells #[.bool hard, .int .i64 c, .int .i64 k] 23)) w2) => lawtest_any hard c k _ ps w2 (HP.out.below h2) hl2)
  have RL := Lib.hid (fun w2 (h2 : Below (w.alloc (.cells #[.bool hard, .int .i64 c, .int .i64 k] 23)).heap.size (w.alloc (.cells #[.bool hard, .int .i64 c, .int .i64 k] 23)) w2) => refload_any hard _ ps w2 (HP.out.below h2) hl2)
  have BD := Lib.hid (bound_any hard c k m)
  have RU := Lib.hid (rule_any c k)
  have CK := Lib.hid (acheck_ok hard c k hr)
  unfold ruleBox at CK
  rw [decide_eq_true hr] at RU
  rw [show boundVal hard c k m = .tuple #[.int .i64 0, .int .i64 10] by unfold boundVal; rw [if_pos hr, if_pos (by omega)]] at BD
  have e1 : decide (m < 0) = false := decide_eq_false (by omega)
  have e2 : decide (1048576 < m) = true := decide_eq_true hm
  clear hm
  rw [load_not (fun h => ha h.2)] at LD
  unfold loadVal at RL
  rw [if_neg ha] at RL
  generalize testNum hard c k ps = T at *
  clear hr ha h hl hl2 hlen HP
  go_enter Try.func3, Try.ntmps3
  go_wp2_with fail
  refine (LD.out _ (Below.refl _ _)).mono ?_
  rintro e w1 ⟨rfl, b1⟩
  have R1 := Lib.hid (show Below (w.alloc (.cells #[.bool hard, .int .i64 c, .int .i64 k] 23)).heap.size (w.alloc (.cells #[.bool hard, .int .i64 c, .int .i64 k] 23)) w1 from by
    refine bel_end ?_ b1
    repeat (first | with_reducible exact Below.refl _ _ | with_reducible refine bel_alloc ?_ | with_reducible refine bel_drew ?_))
  clear b1
  obtain ⟨c10, c11, c12, l1⟩ := box_cells R1.out
  go_wp2_with fail
  refine (BD.out _).mono ?_
  clear c10 c11 c12 l1
  rintro e w2 ⟨rfl, b2⟩
  have R2 := Lib.hid (show Below (w.alloc (.cells #[.bool hard, .int .i64 c, .int .i64 k] 23)).heap.size (w.alloc (.cells #[.bool hard, .int .i64 c, .int .i64 k] 23)) w2 from by
    refine bel_end ?_ b2
    repeat (first | with_reducible exact R1.out | with_reducible refine bel_alloc ?_ | with_reducible refine bel_drew ?_))
  clear b2
  obtain ⟨c20, c21, c22, l2⟩ := box_cells R2.out
  go_wp2_with fail
  refine (RU.out _).mono ?_
  rintro e w3 ⟨rfl, rfl⟩
  go_upto_region 7 with fail
  go_cut [81] from 70 to 80 (fun s wx => s = .bool false ∧ Below (w.alloc (.cells #[.bool hard, .int .i64 c, .int .i64 k] 23)).heap.size (w.alloc (.cells #[.bool hard, .int .i64 c, .int .i64 k] 23)) wx)
  case first =>
    have R2' := R2.out
    clear c20 c21 c22
    go_region_held3 (fun w' => w'.cell? ⟨w.heap.size, 0, none⟩ = some (.bool hard) ∧ w'.cell? ⟨w.heap.size, 1, none⟩ = some (.int .i64 c) ∧ w'.cell? ⟨w.heap.size, 2, none⟩ = some (.int .i64 k) ∧ Below (w.alloc (.cells #[.bool hard, .int .i64 c, .int .i64 k] 23)).heap.size (w.alloc (.cells #[.bool hard, .int .i64 c, .int .i64 k] 23)) w') (first | exact box_all (by assumption) | exact box_all (bel_drew (by assumption)))
      (first
      | (go_at_call 14; go_split_ands; (with_reducible refine (TS.out _ (by assumption)).mono ?_); rintro e w9 ⟨rfl, b9⟩; have R9 := bel_end (by assumption) b9)
      | (go_at_call 15; go_split_ands; (with_reducible refine (LT.out _ (by assumption)).mono ?_); rintro e w9 ⟨rfl, b9⟩; have R9 := bel_end (by assumption) b9)
      | (go_at_call 13; go_split_ands; (with_reducible refine (CK.out _).mono ?_); rintro e w9 ⟨rfl, rfl⟩; have R9 := bel_alloc (by assumption) (o := .cells #[.bool hard, .int .i64 c, .int .i64 k] 23)))
    all_goals (go_split_ands; go_wp2_with fail; go_meet; exact ⟨by first | rfl | simp, by assumption⟩)
  case rest =>
  obtain ⟨rfl, r7⟩ := hcut
  obtain ⟨c70, c71, c72, l7⟩ := box_cells r7
  have R7 := Lib.hid r7
  clear c20 c21 c22 l2 R1 R2 r7
  go_wp2_with fail
  refine (RL.out _ R7.out).mono ?_
  rintro e w9 ⟨rfl, b9⟩
  have R9 := Lib.hid (show Below (w.alloc (.cells #[.bool hard, .int .i64 c, .int .i64 k] 23)).heap.size (w.alloc (.cells #[.bool hard, .int .i64 c, .int .i64 k] 23)) w9 from by
    refine bel_end ?_ b9
    repeat (first | with_reducible exact R7.out | with_reducible refine bel_alloc ?_ | with_reducible refine bel_drew ?_))
  clear b9
  have HB := Lib.hid (bel_end (bel_alloc (Below.refl w.heap.size w)) R9.out)
  go_wp2_with (go_at_call 9; refine (awake_yes _).mono ?_; rintro e w' ⟨rfl, hb⟩)
  go_ret
  exact ⟨rfl, bel_end HB.out hb⟩
set_option maxRecDepth 100000 in
set_option maxHeartbeats 4000000 in
theorem in_all (hard : Bool) (c k m : Int) (a : Option Addr) (len cap : Nat) (ps : List P3) (w : World) (h : ParamRow w (.slice a len cap) ps) (hl : ¬ 70 < len) (hr : RuleMay c k) (hm : 0 ≤ m) (hm' : m ≤ 1048576) (ha : allMay ps = true) : Calls Try.prog 3 #[.agg #[.bool hard, .int .i64 c, .int .i64 k], .slice a len cap, .int .i64 m] w (Yes w) := by
  have hlen := row_len h
  have d1 : decide (70 < (len : Int)) = false := decide_eq_false (by omega)
  have HP := Lib.hid (h.below (bel_alloc (Below.refl w.heap.size w) (o := .cells #[.bool hard, .int .i64 c, .int .i64 k] 23)))
  have hl2 : ps.length ≤ 1000 := by omega
  have LD := Lib.hid (fun w2 (h2 : Below (w.alloc (.cells #[.bool hard, .int .i64 c, .int .i64 k] 23)).heap.size (w.alloc (.cells #[.bool hard, .int .i64 c, .int .i64 k] 23)) w2) => load_any hard c k _ ps w2 (HP.out.below h2) hl2)
  have TS := Lib.hid (fun w2 (h2 : Below (w.alloc (.cells #[.bool hard, .int .i64 c, .int .i64 k] 23)).heap.size (w.alloc (.cells #[.bool hard, .int .i64 c, .int .i64 k] 23)) w2) => test_any hard c k _ ps w2 (HP.out.below h2) hl2)
  have LT := Lib.hid (fun w2 (h2 : Below (w.alloc (.cells #[.bool hard, .int .i64 c, .int .i64 k] 23)).heap.size (w.alloc (.cells #[.bool hard, .int .i64 c, .int .i64 k] 23)) w2) => lawtest_any hard c k _ ps w2 (HP.out.below h2) hl2)
  have RL := Lib.hid (fun w2 (h2 : Below (w.alloc (.cells #[.bool hard, .int .i64 c, .int .i64 k] 23)).heap.size (w.alloc (.cells #[.bool hard, .int .i64 c, .int .i64 k] 23)) w2) => refload_any hard _ ps w2 (HP.out.below h2) hl2)
  have BD := Lib.hid (bound_any hard c k m)
  have RU := Lib.hid (rule_any c k)
  have CK := Lib.hid (acheck_ok hard c k hr)
  unfold ruleBox at CK
  rw [decide_eq_true hr] at RU
  have RB := Lib.hid (refbound_any hard c k m hr (by omega) (by omega))
  rw [bound_ok hr (by omega) (by omega)] at BD
  generalize boundOf hard c k m = B at *
  have e1 : decide (m < 0) = false := decide_eq_false (by omega)
  have e2 : decide (1048576 < m) = false := decide_eq_false (by omega)
  clear hm hm'
  rw [load_ok hr ha] at LD
  unfold loadVal at RL
  rw [if_pos ha] at RL
  generalize asked hard ps = q at *
  obtain ⟨S, M⟩ := q
  simp only at LD RL
  generalize testNum hard c k ps = T at *
  clear hr ha h hl hl2 hlen HP
  go_enter Try.func3, Try.ntmps3
  go_wp2_with fail
  refine (LD.out _ (Below.refl _ _)).mono ?_
  rintro e w1 ⟨rfl, b1⟩
  have R1 := Lib.hid (show Below (w.alloc (.cells #[.bool hard, .int .i64 c, .int .i64 k] 23)).heap.size (w.alloc (.cells #[.bool hard, .int .i64 c, .int .i64 k] 23)) w1 from by
    refine bel_end ?_ b1
    repeat (first | with_reducible exact Below.refl _ _ | with_reducible refine bel_alloc ?_ | with_reducible refine bel_drew ?_))
  clear b1
  obtain ⟨c10, c11, c12, l1⟩ := box_cells R1.out
  go_wp2_with fail
  refine (BD.out _).mono ?_
  clear c10 c11 c12 l1
  rintro e w2 ⟨rfl, b2⟩
  have R2 := Lib.hid (show Below (w.alloc (.cells #[.bool hard, .int .i64 c, .int .i64 k] 23)).heap.size (w.alloc (.cells #[.bool hard, .int .i64 c, .int .i64 k] 23)) w2 from by
    refine bel_end ?_ b2
    repeat (first | with_reducible exact R1.out | with_reducible refine bel_alloc ?_ | with_reducible refine bel_drew ?_))
  clear b2
  obtain ⟨c20, c21, c22, l2⟩ := box_cells R2.out
  go_wp2_with fail
  refine (RU.out _).mono ?_
  rintro e w3 ⟨rfl, rfl⟩
  go_upto_region 7 with fail
  go_cut [81] from 70 to 80 (fun s wx => s = .bool false ∧ Below (w.alloc (.cells #[.bool hard, .int .i64 c, .int .i64 k] 23)).heap.size (w.alloc (.cells #[.bool hard, .int .i64 c, .int .i64 k] 23)) wx)
  case first =>
    have R2' := R2.out
    clear c20 c21 c22
    go_region_held3 (fun w' => w'.cell? ⟨w.heap.size, 0, none⟩ = some (.bool hard) ∧ w'.cell? ⟨w.heap.size, 1, none⟩ = some (.int .i64 c) ∧ w'.cell? ⟨w.heap.size, 2, none⟩ = some (.int .i64 k) ∧ Below (w.alloc (.cells #[.bool hard, .int .i64 c, .int .i64 k] 23)).heap.size (w.alloc (.cells #[.bool hard, .int .i64 c, .int .i64 k] 23)) w') (first | exact box_all (by assumption) | exact box_all (bel_drew (by assumption)))
      (first
      | (go_at_call 14; go_split_ands; (with_reducible refine (TS.out _ (by assumption)).mono ?_); rintro e w9 ⟨rfl, b9⟩; have R9 := bel_end (by assumption) b9)
      | (go_at_call 15; go_split_ands; (with_reducible refine (LT.out _ (by assumption)).mono ?_); rintro e w9 ⟨rfl, b9⟩; have R9 := bel_end (by assumption) b9)
      | (go_at_call 13; go_split_ands; (with_reducible refine (CK.out _).mono ?_); rintro e w9 ⟨rfl, rfl⟩; have R9 := bel_alloc (by assumption) (o := .cells #[.bool hard, .int .i64 c, .int .i64 k] 23)))
    all_goals (go_split_ands; go_wp2_with fail; go_meet; exact ⟨by first | rfl | simp, by assumption⟩)
  case rest =>
  obtain ⟨rfl, r7⟩ := hcut
  obtain ⟨c70, c71, c72, l7⟩ := box_cells r7
  have R7 := Lib.hid r7
  clear c20 c21 c22 l2 R1 R2 r7
  go_wp2_with fail
  refine (RB.out _).mono ?_
  rintro e w8 ⟨rfl, rfl⟩
  go_wp2_with fail
  refine (RL.out _ R7.out).mono ?_
  rintro e w9 ⟨rfl, b9⟩
  have R9 := Lib.hid (show Below (w.alloc (.cells #[.bool hard, .int .i64 c, .int .i64 k] 23)).heap.size (w.alloc (.cells #[.bool hard, .int .i64 c, .int .i64 k] 23)) w9 from by
    refine bel_end ?_ b9
    repeat (first | with_reducible exact R7.out | with_reducible refine bel_alloc ?_ | with_reducible refine bel_drew ?_))
  clear b9
  have HB := Lib.hid (bel_end (bel_alloc (Below.refl w.heap.size w)) R9.out)
  go_wp2_with (go_at_call 9; refine (awake_yes _).mono ?_; rintro e w' ⟨rfl, hb⟩)
  go_ret
  exact ⟨rfl, bel_end HB.out hb⟩
set_option maxRecDepth 100000 in
set_option maxHeartbeats 4000000 in
theorem in_not (hard : Bool) (c k m : Int) (a : Option Addr) (len cap : Nat) (ps : List P3) (w : World) (h : ParamRow w (.slice a len cap) ps) (hl : ¬ 70 < len) (hr : RuleMay c k) (hm : 0 ≤ m) (hm' : m ≤ 1048576) (ha : ¬ allMay ps = true) : Calls Try.prog 3 #[.agg #[.bool hard, .int .i64 c, .int .i64 k], .slice a len cap, .int .i64 m] w (Yes w) := by
  have hlen := row_len h
  have d1 : decide (70 < (len : Int)) = false := decide_eq_false (by omega)
  have HP := Lib.hid (h.below (bel_alloc (Below.refl w.heap.size w) (o := .cells #[.bool hard, .int .i64 c, .int .i64 k] 23)))
  have hl2 : ps.length ≤ 1000 := by omega
  have LD := Lib.hid (fun w2 (h2 : Below (w.alloc (.cells #[.bool hard, .int .i64 c, .int .i64 k] 23)).heap.size (w.alloc (.cells #[.bool hard, .int .i64 c, .int .i64 k] 23)) w2) => load_any hard c k _ ps w2 (HP.out.below h2) hl2)
  have TS := Lib.hid (fun w2 (h2 : Below (w.alloc (.cells #[.bool hard, .int .i64 c, .int .i64 k] 23)).heap.size (w.alloc (.cells #[.bool hard, .int .i64 c, .int .i64 k] 23)) w2) => test_any hard c k _ ps w2 (HP.out.below h2) hl2)
  have LT := Lib.hid (fun w2 (h2 : Below (w.alloc (.cells #[.bool hard, .int .i64 c, .int .i64 k] 23)).heap.size (w.alloc (.cells #[.bool hard, .int .i64 c, .int .i64 k] 23)) w2) => lawtest_any hard c k _ ps w2 (HP.out.below h2) hl2)
  have RL := Lib.hid (fun w2 (h2 : Below (w.alloc (.cells #[.bool hard, .int .i64 c, .int .i64 k] 23)).heap.size (w.alloc (.cells #[.bool hard, .int .i64 c, .int .i64 k] 23)) w2) => refload_any hard _ ps w2 (HP.out.below h2) hl2)
  have BD := Lib.hid (bound_any hard c k m)
  have RU := Lib.hid (rule_any c k)
  have CK := Lib.hid (acheck_ok hard c k hr)
  unfold ruleBox at CK
  rw [decide_eq_true hr] at RU
  have RB := Lib.hid (refbound_any hard c k m hr (by omega) (by omega))
  rw [bound_ok hr (by omega) (by omega)] at BD
  generalize boundOf hard c k m = B at *
  have e1 : decide (m < 0) = false := decide_eq_false (by omega)
  have e2 : decide (1048576 < m) = false := decide_eq_false (by omega)
  clear hm hm'
  rw [load_not (fun h => ha h.2)] at LD
  unfold loadVal at RL
  rw [if_neg ha] at RL
  generalize testNum hard c k ps = T at *
  clear hr ha h hl hl2 hlen HP
  go_enter Try.func3, Try.ntmps3
  go_wp2_with fail
  refine (LD.out _ (Below.refl _ _)).mono ?_
  rintro e w1 ⟨rfl, b1⟩
  have R1 := Lib.hid (show Below (w.alloc (.cells #[.bool hard, .int .i64 c, .int .i64 k] 23)).heap.size (w.alloc (.cells #[.bool hard, .int .i64 c, .int .i64 k] 23)) w1 from by
    refine bel_end ?_ b1
    repeat (first | with_reducible exact Below.refl _ _ | with_reducible refine bel_alloc ?_ | with_reducible refine bel_drew ?_))
  clear b1
  obtain ⟨c10, c11, c12, l1⟩ := box_cells R1.out
  go_wp2_with fail
  refine (BD.out _).mono ?_
  clear c10 c11 c12 l1
  rintro e w2 ⟨rfl, b2⟩
  have R2 := Lib.hid (show Below (w.alloc (.cells #[.bool hard, .int .i64 c, .int .i64 k] 23)).heap.size (w.alloc (.cells #[.bool hard, .int .i64 c, .int .i64 k] 23)) w2 from by
    refine bel_end ?_ b2
    repeat (first | with_reducible exact R1.out | with_reducible refine bel_alloc ?_ | with_reducible refine bel_drew ?_))
  clear b2
  obtain ⟨c20, c21, c22, l2⟩ := box_cells R2.out
  go_wp2_with fail
  refine (RU.out _).mono ?_
  rintro e w3 ⟨rfl, rfl⟩
  go_upto_region 7 with fail
  go_cut [81] from 70 to 80 (fun s wx => s = .bool false ∧ Below (w.alloc (.cells #[.bool hard, .int .i64 c, .int .i64 k] 23)).heap.size (w.alloc (.cells #[.bool hard, .int .i64 c, .int .i64 k] 23)) wx)
  case first =>
    have R2' := R2.out
    clear c20 c21 c22
    go_region_held3 (fun w' => w'.cell? ⟨w.heap.size, 0, none⟩ = some (.bool hard) ∧ w'.cell? ⟨w.heap.size, 1, none⟩ = some (.int .i64 c) ∧ w'.cell? ⟨w.heap.size, 2, none⟩ = some (.int .i64 k) ∧ Below (w.alloc (.cells #[.bool hard, .int .i64 c, .int .i64 k] 23)).heap.size (w.alloc (.cells #[.bool hard, .int .i64 c, .int .i64 k] 23)) w') (first | exact box_all (by assumption) | exact box_all (bel_drew (by assumption)))
      (first
      | (go_at_call 14; go_split_ands; (with_reducible refine (TS.out _ (by assumption)).mono ?_); rintro e w9 ⟨rfl, b9⟩; have R9 := bel_end (by assumption) b9)
      | (go_at_call 15; go_split_ands; (with_reducible refine (LT.out _ (by assumption)).mono ?_); rintro e w9 ⟨rfl, b9⟩; have R9 := bel_end (by assumption) b9)
      | (go_at_call 13; go_split_ands; (with_reducible refine (CK.out _).mono ?_); rintro e w9 ⟨rfl, rfl⟩; have R9 := bel_alloc (by assumption) (o := .cells #[.bool hard, .int .i64 c, .int .i64 k] 23)))
    all_goals (go_split_ands; go_wp2_with fail; go_meet; exact ⟨by first | rfl | simp, by assumption⟩)
  case rest =>
  obtain ⟨rfl, r7⟩ := hcut
  obtain ⟨c70, c71, c72, l7⟩ := box_cells r7
  have R7 := Lib.hid r7
  clear c20 c21 c22 l2 R1 R2 r7
  go_wp2_with fail
  refine (RB.out _).mono ?_
  rintro e w8 ⟨rfl, rfl⟩
  go_wp2_with fail
  refine (RL.out _ R7.out).mono ?_
  rintro e w9 ⟨rfl, b9⟩
  have R9 := Lib.hid (show Below (w.alloc (.cells #[.bool hard, .int .i64 c, .int .i64 k] 23)).heap.size (w.alloc (.cells #[.bool hard, .int .i64 c, .int .i64 k] 23)) w9 from by
    refine bel_end ?_ b9
    repeat (first | with_reducible exact R7.out | with_reducible refine bel_alloc ?_ | with_reducible refine bel_drew ?_))
  clear b9
  have HB := Lib.hid (bel_end (bel_alloc (Below.refl w.heap.size w)) R9.out)
  go_wp2_with (go_at_call 9; refine (awake_yes _).mono ?_; rintro e w' ⟨rfl, hb⟩)
  go_ret
  exact ⟨rfl, bel_end HB.out hb⟩
theorem walk (hard : Bool) (c k : Int) (v : Value) (ps : List P3) (m : Int) (w : World) (_ : (Lit.int .i64 c).wf = true) (_ : (Lit.int .i64 k).wf = true) (hps : ParamRow w v ps) (_ : ∀ p ∈ ps, Fit3 p) (_ : ps.length ≤ maxLen) (_ : (Lit.int .i64 m).wf = true) : Calls Try.prog 3 #[.agg #[.bool hard, .int .i64 c, .int .i64 k], v, .int .i64 m] w (Yes w) := by
  obtain ⟨a, len, cap, rfl⟩ := row_slice hps
  by_cases hl : 70 < len
  · exact many hard c k m a len cap ps w hps hl
  by_cases hr : RuleMay c k
  · by_cases ha : allMay ps = true
    · by_cases hm : m < 0
      · exact low_all hard c k m a len cap ps w hps hl hr hm ha
      by_cases hm' : 1048576 < m
      · exact high_all hard c k m a len cap ps w hps hl hr hm' ha
      exact in_all hard c k m a len cap ps w hps hl hr (by omega) (by omega) ha
    · by_cases hm : m < 0
      · exact low_not hard c k m a len cap ps w hps hl hr hm ha
      by_cases hm' : 1048576 < m
      · exact high_not hard c k m a len cap ps w hps hl hr hm' ha
      exact in_not hard c k m a len cap ps w hps hl hr (by omega) (by omega) ha
  · exact bad hard c k m a len cap ps w hps hl hr

set_option maxRecDepth 100000 in
theorem lifted (os : Os) (started : os.Started) (H : Type) (enc : TypeId × Value → H) :
    ReturnsInHanded {} Try.checked os 3 .any (Rows.admitTestsSpec.pre6 enc Try.prog Try.f3 Rows.admitTestsRow.domain false) (Rows.admitTestsSpec.post enc Try.prog Try.f3 false true false false) := by
  refine returnsInHanded_of_change (C := Try.checked) own started (by kernel_rfl) Try.func3
    (ChangeSpec.witness6 (enc := enc) (C := Try.checked) false ⟨#[], #[.agg #[.bool false, .int .i64 0, .int .i64 0], .slice none 0 0, .int .i64 0], []⟩ 8 (by kernel_rfl) (by kernel_rfl) (by kernel_rfl) (by kernel_rfl)) ?_
  intro W base args ds gs before hval0 hW hcnd _
  have hval : ∀ (j : Nat) t v, Try.f3.params[j]? = some t → args[j]? = some v → Value.okWide Try.prog W .any base t v := hval0
  have hW' := hW
  obtain ⟨p, q, hA0, hV, _, hfz, hnd⟩ := hW'
  have hA : DataW.TrodAll enc Try.prog W 0 (fun _ => true) true Try.f3.params.toList args.toList ds p := hA0
  rw [Try.params3] at hA hval
  obtain ⟨v0, v1, v2, d0, d1, d2, p0, p1, p2, rfl, _, _, h0, h1, h2⟩ := trodAll_three hA
  obtain ⟨c00, c01, c02, y00, y01, y02, m0, rfl, _, _, hy00, hy01, hy02⟩ := open_agg3 Try.underlying23 (by kernel_rfl) (by kernel_rfl) (hval 0 23 v0 rfl rfl) h0
  obtain ⟨hard, e00, _⟩ := DataW.trod_bool Try.underlying4 hy00
  obtain ⟨c, e01, _, wc⟩ := DataW.trod_int Try.underlying3 hy01
  obtain ⟨k, e02, _, wk⟩ := DataW.trod_int Try.underlying3 hy02
  simp at e00 e01 e02
  subst e00 e01 e02
  obtain ⟨ps, hps, fps, lps⟩ := open_params Try.underlying24 Try.underlying40 (by kernel_rfl) (fun i hi => by match i, hi with | 0, _ => exact ⟨_, rfl, rfl, by kernel_rfl, Try.underlying3⟩ | 1, _ => exact ⟨_, rfl, rfl, by kernel_rfl, Try.underlying3⟩ | 2, _ => exact ⟨_, rfl, rfl, by kernel_rfl, Try.underlying3⟩) (hval 1 24 v1 rfl rfl) h1
  obtain ⟨m, rfl, _, _, wm⟩ := open_int Try.underlying3 (hval 2 3 v2 rfl rfl) h2
  refine (walk hard c k v1 ps m W wc wk hps fps lps wm).mono fun e W' h => ?_
  exact law_post (f := Try.f3) rfl rfl Try.underlying4 (by kernel_rfl) (fun ds hd => by
    match ds, hd with
    | [_, _, _], _ => rfl) hW h

theorem over : Rows.admitTestsRow.holds Try.pinned (OpenSpec.ofChange Rows.admitTestsSpec) :=
  OpenClaim.holds_of_wide 3 Try.f3 rfl rfl rfl rfl rfl rfl rfl ⟨rfl, rfl, rfl, rfl, rfl⟩ rfl rfl rfl rfl rfl (by kernel_rfl) Try.func3 (by kernel_rfl)
    (of_decide_eq_true (by kernel_rfl)) (by unfold Func.isWrapper; first | (rw [if_pos (by decide +kernel)]; kernel_rfl) | (rw [if_neg (by decide +kernel)]; exact ⟨rfl, rfl⟩))
    (fun os started H enc _ => lifted os started H enc)

/-- THE STATEMENT. -/
theorem proved : Rows.AdmitTestsSaid := over
end Go.Proofs.Ytoagdaenbanhlaa.admitTests
