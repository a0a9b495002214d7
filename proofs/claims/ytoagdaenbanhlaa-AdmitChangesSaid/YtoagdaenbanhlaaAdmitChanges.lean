/- AdmitChanges answers true at every rule, every servers, and every turn. No condition. -/
import Derived.Test.YtoagdaenbanhlaaAdmitChange
import Derived.Deep.CutBlock
import Derived.Deep.DeepCutAuto
namespace Go.Proofs.Ytoagdaenbanhlaa.admitChanges
open Go.ChangeShapes Go.WideShapes Go.ChangeAt Go.RowKit Go.Joins Go.Shelf Go.Deep

theorem cells0 {hard : Bool} {c k i : Int} {p : P3} {w w' : World} (h : Below ((w.alloc (.cells #[.bool hard, .int .i64 c, .int .i64 k] 23)).alloc (.cells #[.int .i64 i, .int .i64 p.1, .int .i64 p.2.1, .int .i64 p.2.2] 44)).heap.size ((w.alloc (.cells #[.bool hard, .int .i64 c, .int .i64 k] 23)).alloc (.cells #[.int .i64 i, .int .i64 p.1, .int .i64 p.2.1, .int .i64 p.2.2] 44)) w') :
    w'.cell? ⟨w.heap.size, 0, none⟩ = some (Value.bool hard) ∧ w'.cell? ⟨w.heap.size, 1, none⟩ = some (Value.int .i64 c) ∧ w'.cell? ⟨w.heap.size, 2, none⟩ = some (Value.int .i64 k) ∧ w'.cell? ⟨w.heap.size + 1, 0, none⟩ = some (Value.int .i64 i) ∧ w'.cell? ⟨w.heap.size + 1, 1, none⟩ = some (Value.int .i64 p.1) ∧ w'.cell? ⟨w.heap.size + 1, 2, none⟩ = some (Value.int .i64 p.2.1) ∧ w'.cell? ⟨w.heap.size + 1, 3, none⟩ = some (Value.int .i64 p.2.2) ∧ w.heap.size < w'.heap.size ∧ w.heap.size + 1 < w'.heap.size := by
  have c0 := (h.cell (p := ⟨w.heap.size, 0, none⟩) (by first | (simp; done) | (simp; omega))).trans (show _ = some (Value.bool hard) by go_simp)
  have c1 := (h.cell (p := ⟨w.heap.size, 1, none⟩) (by first | (simp; done) | (simp; omega))).trans (show _ = some (Value.int .i64 c) by go_simp)
  have c2 := (h.cell (p := ⟨w.heap.size, 2, none⟩) (by first | (simp; done) | (simp; omega))).trans (show _ = some (Value.int .i64 k) by go_simp)
  have c3 := (h.cell (p := ⟨w.heap.size + 1, 0, none⟩) (by first | (simp; done) | (simp; omega))).trans (show _ = some (Value.int .i64 i) by go_simp)
  have c4 := (h.cell (p := ⟨w.heap.size + 1, 1, none⟩) (by first | (simp; done) | (simp; omega))).trans (show _ = some (Value.int .i64 p.1) by go_simp)
  have c5 := (h.cell (p := ⟨w.heap.size + 1, 2, none⟩) (by first | (simp; done) | (simp; omega))).trans (show _ = some (Value.int .i64 p.2.1) by go_simp)
  have c6 := (h.cell (p := ⟨w.heap.size + 1, 3, none⟩) (by first | (simp; done) | (simp; omega))).trans (show _ = some (Value.int .i64 p.2.2) by go_simp)
  exact ⟨c0, c1, c2, c3, c4, c5, c6, cell_lt c0, cell_lt c3⟩
set_option maxRecDepth 100000 in
set_option maxHeartbeats 4000000 in
theorem many (hard : Bool) (c k i : Int) (p : P3) (a : Option Addr) (len cap : Nat) (w : World) (hl : 70 < len) : Calls Try.prog 5 #[.agg #[.bool hard, .int .i64 c, .int .i64 k], .slice a len cap, .agg #[.int .i64 i, .int .i64 p.1, .int .i64 p.2.1, .int .i64 p.2.2]] w (Yes w) := by
  have d1 : decide (70 < (len : Int)) = true := decide_eq_true (by omega)
  clear hl
  go_enter Try.func5, Try.ntmps5
  go_wp2_with (go_at_call 9; refine (awake_yes _).mono ?_; rintro e w' ⟨rfl, hb⟩)
  go_ret
  exact ⟨rfl, bel_end (bel_alloc (bel_alloc (Below.refl _ _))) hb⟩
set_option maxRecDepth 100000 in
set_option maxHeartbeats 4000000 in
theorem bad (hard : Bool) (c k i : Int) (p : P3) (a : Option Addr) (len cap : Nat) (ps : List P3) (w : World) (h : ParamRow w (.slice a len cap) ps) (hn : NilOk (.slice a len cap)) (hl : ¬ 70 < len) (hr : ¬ RuleMay c k) : Calls Try.prog 5 #[.agg #[.bool hard, .int .i64 c, .int .i64 k], .slice a len cap, .agg #[.int .i64 i, .int .i64 p.1, .int .i64 p.2.1, .int .i64 p.2.2]] w (Yes w) := by
  have hlen := row_len h
  subst hlen
  have d1 : decide (70 < (ps.length : Int)) = false := decide_eq_false (by omega)
  have HP := Lib.hid (h.below (bel_alloc (bel_alloc (Below.refl w.heap.size w)) : Below w.heap.size w ((w.alloc (.cells #[.bool hard, .int .i64 c, .int .i64 k] 23)).alloc (.cells #[.int .i64 i, .int .i64 p.1, .int .i64 p.2.1, .int .i64 p.2.2] 44))))
  have hl2 : ps.length ≤ 1000 := by omega
  have CH := Lib.hid (fun w2 (h2 : Below ((w.alloc (.cells #[.bool hard, .int .i64 c, .int .i64 k] 23)).alloc (.cells #[.int .i64 i, .int .i64 p.1, .int .i64 p.2.1, .int .i64 p.2.2] 44)).heap.size ((w.alloc (.cells #[.bool hard, .int .i64 c, .int .i64 k] 23)).alloc (.cells #[.int .i64 i, .int .i64 p.1, .int .i64 p.2.1, .int .i64 p.2.2] 44)) w2) => change_any hard c k i p _ ps w2 (HP.out.below h2) hn hl2)
  have RU := Lib.hid (rule_any c k)
  rw [show changeNum hard c k i p ps = 1 by unfold changeNum; rw [if_neg hr]] at CH
  rw [decide_eq_false hr] at RU
  clear hr h hn hl hl2 HP
  go_enter Try.func5, Try.ntmps5
  go_wp2_with fail
  refine (CH.out _ (Below.refl _ _)).mono ?_
  rintro e w1 ⟨rfl, b⟩
  have R1 := Lib.hid (show Below ((w.alloc (.cells #[.bool hard, .int .i64 c, .int .i64 k] 23)).alloc (.cells #[.int .i64 i, .int .i64 p.1, .int .i64 p.2.1, .int .i64 p.2.2] 44)).heap.size ((w.alloc (.cells #[.bool hard, .int .i64 c, .int .i64 k] 23)).alloc (.cells #[.int .i64 i, .int .i64 p.1, .int .i64 p.2.1, .int .i64 p.2.2] 44)) w1 from by
    refine bel_end ?_ b
    repeat (first | with_reducible exact Below.refl _ _ | with_reducible refine bel_alloc ?_ | with_reducible refine bel_drew ?_))
  clear b
  obtain ⟨c1_0, c1_1, c1_2, c1_3, c1_4, c1_5, c1_6, l1_0, l1_1⟩ := cells0 R1.out
  go_wp2_with fail
  refine (RU.out _).mono ?_
  rintro e w2 ⟨rfl, hw⟩
  have hw2 := hw.symm
  subst hw2
  have HB := Lib.hid (bel_end (bel_alloc (bel_alloc (Below.refl w.heap.size w))) R1.out)
  go_wp2_with (go_at_call 9; refine (awake_yes _).mono ?_; rintro e w' ⟨rfl, hb⟩)
  go_ret
  refine ⟨rfl, bel_end ?_ hb⟩
  repeat (first | with_reducible exact HB.out | with_reducible refine bel_alloc ?_ | with_reducible refine bel_drew ?_)
set_option maxRecDepth 100000 in
set_option maxHeartbeats 4000000 in
theorem low (hard : Bool) (c k i : Int) (p : P3) (a : Option Addr) (len cap : Nat) (ps : List P3) (w : World) (h : ParamRow w (.slice a len cap) ps) (hn : NilOk (.slice a len cap)) (hl : ¬ 70 < len) (hr : RuleMay c k) (hi : i < 0) : Calls Try.prog 5 #[.agg #[.bool hard, .int .i64 c, .int .i64 k], .slice a len cap, .agg #[.int .i64 i, .int .i64 p.1, .int .i64 p.2.1, .int .i64 p.2.2]] w (Yes w) := by
  have hlen := row_len h
  subst hlen
  have d1 : decide (70 < (ps.length : Int)) = false := decide_eq_false (by omega)
  have HP := Lib.hid (h.below (bel_alloc (bel_alloc (Below.refl w.heap.size w)) : Below w.heap.size w ((w.alloc (.cells #[.bool hard, .int .i64 c, .int .i64 k] 23)).alloc (.cells #[.int .i64 i, .int .i64 p.1, .int .i64 p.2.1, .int .i64 p.2.2] 44))))
  have hl2 : ps.length ≤ 1000 := by omega
  have CH := Lib.hid (fun w2 (h2 : Below ((w.alloc (.cells #[.bool hard, .int .i64 c, .int .i64 k] 23)).alloc (.cells #[.int .i64 i, .int .i64 p.1, .int .i64 p.2.1, .int .i64 p.2.2] 44)).heap.size ((w.alloc (.cells #[.bool hard, .int .i64 c, .int .i64 k] 23)).alloc (.cells #[.int .i64 i, .int .i64 p.1, .int .i64 p.2.1, .int .i64 p.2.2] 44)) w2) => change_any hard c k i p _ ps w2 (HP.out.below h2) hn hl2)
  have RU := Lib.hid (rule_any c k)
  rw [show changeNum hard c k i p ps = 14 by unfold changeNum; rw [if_pos hr, if_pos (by omega)]] at CH
  rw [decide_eq_true hr] at RU
  have e1 : decide (i < 0) = true := decide_eq_true hi
  clear hr h hn hl hl2 HP hi
  go_enter Try.func5, Try.ntmps5
  go_wp2_with fail
  refine (CH.out _ (Below.refl _ _)).mono ?_
  rintro e w1 ⟨rfl, b⟩
  have R1 := Lib.hid (show Below ((w.alloc (.cells #[.bool hard, .int .i64 c, .int .i64 k] 23)).alloc (.cells #[.int .i64 i, .int .i64 p.1, .int .i64 p.2.1, .int .i64 p.2.2] 44)).heap.size ((w.alloc (.cells #[.bool hard, .int .i64 c, .int .i64 k] 23)).alloc (.cells #[.int .i64 i, .int .i64 p.1, .int .i64 p.2.1, .int .i64 p.2.2] 44)) w1 from by
    refine bel_end ?_ b
    repeat (first | with_reducible exact Below.refl _ _ | with_reducible refine bel_alloc ?_ | with_reducible refine bel_drew ?_))
  clear b
  obtain ⟨c1_0, c1_1, c1_2, c1_3, c1_4, c1_5, c1_6, l1_0, l1_1⟩ := cells0 R1.out
  go_wp2_with fail
  refine (RU.out _).mono ?_
  rintro e w2 ⟨rfl, hw⟩
  have hw2 := hw.symm
  subst hw2
  have HB := Lib.hid (bel_end (bel_alloc (bel_alloc (Below.refl w.heap.size w))) R1.out)
  go_wp2_with (go_at_call 9; refine (awake_yes _).mono ?_; rintro e w' ⟨rfl, hb⟩)
  go_ret
  refine ⟨rfl, bel_end ?_ hb⟩
  repeat (first | with_reducible exact HB.out | with_reducible refine bel_alloc ?_ | with_reducible refine bel_drew ?_)
set_option maxRecDepth 100000 in
set_option maxHeartbeats 4000000 in
theorem high (hard : Bool) (c k i : Int) (p : P3) (a : Option Addr) (len cap : Nat) (ps : List P3) (w : World) (h : ParamRow w (.slice a len cap) ps) (hn : NilOk (.slice a len cap)) (hl : ¬ 70 < len) (hr : RuleMay c k) (hi : ¬ i < 0) (hi' : (len : Int) ≤ i) : Calls Try.prog 5 #[.agg #[.bool hard, .int .i64 c, .int .i64 k], .slice a len cap, .agg #[.int .i64 i, .int .i64 p.1, .int .i64 p.2.1, .int .i64 p.2.2]] w (Yes w) := by
  have hlen := row_len h
  subst hlen
  have d1 : decide (70 < (ps.length : Int)) = false := decide_eq_false (by omega)
  have HP := Lib.hid (h.below (bel_alloc (bel_alloc (Below.refl w.heap.size w)) : Below w.heap.size w ((w.alloc (.cells #[.bool hard, .int .i64 c, .int .i64 k] 23)).alloc (.cells #[.int .i64 i, .int .i64 p.1, .int .i64 p.2.1, .int .i64 p.2.2] 44))))
  have hl2 : ps.length ≤ 1000 := by omega
  have CH := Lib.hid (fun w2 (h2 : Below ((w.alloc (.cells #[.bool hard, .int .i64 c, .int .i64 k] 23)).alloc (.cells #[.int .i64 i, .int .i64 p.1, .int .i64 p.2.1, .int .i64 p.2.2] 44)).heap.size ((w.alloc (.cells #[.bool hard, .int .i64 c, .int .i64 k] 23)).alloc (.cells #[.int .i64 i, .int .i64 p.1, .int .i64 p.2.1, .int .i64 p.2.2] 44)) w2) => change_any hard c k i p _ ps w2 (HP.out.below h2) hn hl2)
  have RU := Lib.hid (rule_any c k)
  rw [show changeNum hard c k i p ps = 14 by unfold changeNum; rw [if_pos hr, if_pos (by omega)]] at CH
  rw [decide_eq_true hr] at RU
  have e1 : decide (i < 0) = false := decide_eq_false hi
  have e2 : decide ((ps.length : Int) ≤ i) = true := decide_eq_true hi'
  clear hr h hn hl hl2 HP hi hi'
  go_enter Try.func5, Try.ntmps5
  go_wp2_with fail
  refine (CH.out _ (Below.refl _ _)).mono ?_
  rintro e w1 ⟨rfl, b⟩
  have R1 := Lib.hid (show Below ((w.alloc (.cells #[.bool hard, .int .i64 c, .int .i64 k] 23)).alloc (.cells #[.int .i64 i, .int .i64 p.1, .int .i64 p.2.1, .int .i64 p.2.2] 44)).heap.size ((w.alloc (.cells #[.bool hard, .int .i64 c, .int .i64 k] 23)).alloc (.cells #[.int .i64 i, .int .i64 p.1, .int .i64 p.2.1, .int .i64 p.2.2] 44)) w1 from by
    refine bel_end ?_ b
    repeat (first | with_reducible exact Below.refl _ _ | with_reducible refine bel_alloc ?_ | with_reducible refine bel_drew ?_))
  clear b
  obtain ⟨c1_0, c1_1, c1_2, c1_3, c1_4, c1_5, c1_6, l1_0, l1_1⟩ := cells0 R1.out
  go_wp2_with fail
  refine (RU.out _).mono ?_
  rintro e w2 ⟨rfl, hw⟩
  have hw2 := hw.symm
  subst hw2
  have HB := Lib.hid (bel_end (bel_alloc (bel_alloc (Below.refl w.heap.size w))) R1.out)
  go_wp2_with (go_at_call 9; refine (awake_yes _).mono ?_; rintro e w' ⟨rfl, hb⟩)
  go_ret
  refine ⟨rfl, bel_end ?_ hb⟩
  repeat (first | with_reducible exact HB.out | with_reducible refine bel_alloc ?_ | with_reducible refine bel_drew ?_)
set_option maxRecDepth 100000 in
set_option maxHeartbeats 4000000 in
theorem inside (hard : Bool) (c k : Int) (i : Nat) (p : P3) (ad : Addr) (len cap : Nat) (ps : List P3) (w : World) (h : ParamRow w (.slice (some ad) len cap) ps) (hl : ¬ 70 < len) (hr : RuleMay c k) (hi : i < len) : Calls Try.prog 5 #[.agg #[.bool hard, .int .i64 c, .int .i64 k], .slice (some ad) len cap, .agg #[.int .i64 i, .int .i64 p.1, .int .i64 p.2.1, .int .i64 p.2.2]] w (Yes w) := by
  have hn : NilOk (.slice (some ad) len cap) := fun _ _ e => by cases e
  obtain ⟨_, hcs⟩ := row_cells h
  have hlen := row_len h
  subst hlen
  have d1 : decide (70 < (ps.length : Int)) = false := decide_eq_false (by omega)
  have HP := Lib.hid (h.below (bel_alloc (bel_alloc (Below.refl w.heap.size w)) : Below w.heap.size w ((w.alloc (.cells #[.bool hard, .int .i64 c, .int .i64 k] 23)).alloc (.cells #[.int .i64 (i : Int), .int .i64 p.1, .int .i64 p.2.1, .int .i64 p.2.2] 44))))
  have hl2 : ps.length ≤ 1000 := by omega
  have CH := Lib.hid (fun w2 (h2 : Below ((w.alloc (.cells #[.bool hard, .int .i64 c, .int .i64 k] 23)).alloc (.cells #[.int .i64 (i : Int), .int .i64 p.1, .int .i64 p.2.1, .int .i64 p.2.2] 44)).heap.size ((w.alloc (.cells #[.bool hard, .int .i64 c, .int .i64 k] 23)).alloc (.cells #[.int .i64 (i : Int), .int .i64 p.1, .int .i64 p.2.1, .int .i64 p.2.2] 44)) w2) => change_any hard c k (i : Int) p _ ps w2 (HP.out.below h2) hn hl2)
  have RU := Lib.hid (rule_any c k)
  rw [show changeNum hard c k (i : Int) p ps = testNum hard c k (ps.set i p) by unfold changeNum; rw [if_pos hr, if_neg (by omega), Int.toNat_natCast]] at CH
  rw [decide_eq_true hr] at RU
  have e1 : decide ((i : Int) < 0) = false := decide_eq_false (by omega)
  have e2 : decide ((ps.length : Int) ≤ (i : Int)) = false := decide_eq_false (by omega)
  have hii : (i : Int) < (ps.length : Int) := by omega
  have e3 : decide (ps.length ≤ i) = false := decide_eq_false (by omega)
  have TN := Lib.hid (fun v w2 h2 => lawtest_any hard c k v (ps.set i p) w2 h2 (by rw [List.length_set]; exact hl2))
  generalize testNum hard c k (ps.set i p) = T at *
  obtain ⟨i0, hi1, hz0, hz1, hz2⟩ := info_parts Try.infoParams
  have HC : Hid (∀ w2, Below ((w.alloc (.cells #[.bool hard, .int .i64 c, .int .i64 k] 23)).alloc (.cells #[.int .i64 (i : Int), .int .i64 p.1, .int .i64 p.2.1, .int .i64 p.2.2] 44)).heap.size ((w.alloc (.cells #[.bool hard, .int .i64 c, .int .i64 k] 23)).alloc (.cells #[.int .i64 (i : Int), .int .i64 p.1, .int .i64 p.2.1, .int .i64 p.2.2] 44)) w2 → ∀ j u, (pcells ps)[j]? = some u → w2.cell? (ad.add j) = some u) := fun w2 h2 => (row_cells (HP.out.below h2)).2
  clear hr h hn hl HP hcs
  go_enter Try.func5, Try.ntmps5
  go_wp2_with fail
  refine (CH.out _ (Below.refl _ _)).mono ?_
  rintro e w1 ⟨rfl, b⟩
  have R1 := Lib.hid (show Below ((w.alloc (.cells #[.bool hard, .int .i64 c, .int .i64 k] 23)).alloc (.cells #[.int .i64 i, .int .i64 p.1, .int .i64 p.2.1, .int .i64 p.2.2] 44)).heap.size ((w.alloc (.cells #[.bool hard, .int .i64 c, .int .i64 k] 23)).alloc (.cells #[.int .i64 i, .int .i64 p.1, .int .i64 p.2.1, .int .i64 p.2.2] 44)) w1 from by
    refine bel_end ?_ b
    repeat (first | with_reducible exact Below.refl _ _ | with_reducible refine bel_alloc ?_ | with_reducible refine bel_drew ?_))
  clear b
  obtain ⟨c1_0, c1_1, c1_2, c1_3, c1_4, c1_5, c1_6, l1_0, l1_1⟩ := cells0 R1.out
  go_wp2_with fail
  refine (RU.out _).mono ?_
  rintro e w2 ⟨rfl, hw⟩
  have hw2 := hw.symm
  subst hw2
  go_upto_region 9 with fail
  go_cut [8] from 46 to 48 (fun s wx => Owns wx w1.heap.size s ps ∧ Below w1.heap.size w1 wx)
  case first =>
    go_wp2_with (at_builtin; (refine wpList_append_own _ rfl _ _ 24 rfl w1.heap.size 40 i0 (.agg #[.int .i64 0, .int .i64 0, .int .i64 0]) 3 24 Try.underlying24 hi1 hz0 hz1 hz2 rfl (by decide) _ 0 [] rfl (own_nil _ _) ad ps.length cap (pcells ps) rfl (pcells_length ps) (HC.out _ R1.out) (pcells_one ps) (by unfold maxLen; omega) (by omega) (Nat.le_refl _) ?_); intro v' w2 hown hgrow _)
    simp only [Nat.zero_add, List.nil_append] at hown
    go_meet
    exact ⟨hown, (Below.refl w1.heap.size w1).grown hgrow (Nat.le_refl _) (fun k e => by cases e)⟩
  case rest =>
  obtain ⟨hown, b⟩ := hcut
  obtain ⟨g, cap2, hv, hB, hg, hat⟩ := own_shape hown (by omega)
  subst hv
  have R2 := Lib.hid (bel_end R1.out b)
  obtain ⟨c2_0, c2_1, c2_2, c2_3, c2_4, c2_5, c2_6, l2_0, l2_1⟩ := cells0 R2.out
  have g0 : w.heap.size < g := by omega
  have g1 : w.heap.size + 1 < g := by omega
  have HA := Lib.hid hat
  have HG := Lib.hid hB
  obtain ⟨⟨q0, q1, q2⟩, f0, f1, f2⟩ := hat i (by omega)
  clear hat hown b c1_0 c1_1 c1_2 c1_3 c1_4 c1_5 c1_6 hB
  generalize ps.getD i p0 = q at *
  go_wp2_with fail
  have hgs : ((w.alloc (.cells #[.bool hard, .int .i64 c, .int .i64 k] 23)).alloc (.cells #[.int .i64 (i : Int), .int .i64 p.1, .int .i64 p.2.1, .int .i64 p.2.2] 44)).heap.size ≤ g := Nat.le_trans R1.out.size HG.out
  have RS := Lib.hid (stored_below (o := i * 3) (p := p) R2.out hgs)
  have T1 := Lib.hid (TN.out (.slice (some ⟨g, 0, none⟩) ps.length cap2) (stored3 wc g (i * 3) p) (row_set (by omega) hg (fun j hj => (HA.out j hj).1)))
  unfold stored3 at T1 RS
  refine T1.out.mono ?_
  rintro e w3 ⟨rfl, b3⟩
  have HB := Lib.hid (bel_end (bel_alloc (bel_alloc (Below.refl w.heap.size w))) (bel_end RS.out b3))
  clear b3
  go_wp2_with (go_at_call 9; refine (awake_yes _).mono ?_; rintro e w' ⟨rfl, hb⟩)
  go_ret
  refine ⟨rfl, bel_end ?_ hb⟩
  repeat (first | with_reducible exact HB.out | with_reducible refine bel_alloc ?_ | with_reducible refine bel_drew ?_)
theorem walk (hard : Bool) (c k : Int) (v : Value) (ps : List P3) (i q d t : Int) (w : World) (_ : (Lit.int .i64 c).wf = true) (_ : (Lit.int .i64 k).wf = true) (hps : ParamRow w v ps) (hn : NilOk v) (_ : (Lit.int .i64 i).wf = true) (_ : (Lit.int .i64 q).wf = true) (_ : (Lit.int .i64 d).wf = true) (_ : (Lit.int .i64 t).wf = true) : Calls Try.prog 5 #[.agg #[.bool hard, .int .i64 c, .int .i64 k], v, .agg #[.int .i64 i, .int .i64 q, .int .i64 d, .int .i64 t]] w (Yes w) := by
  obtain ⟨a, len, cap, rfl⟩ := row_slice hps
  by_cases hl : 70 < len
  · exact many hard c k i (q, d, t) a len cap w hl
  by_cases hr : RuleMay c k
  · by_cases h1 : i < 0
    · exact low hard c k i (q, d, t) a len cap ps w hps hn hl hr h1
    by_cases h2 : (len : Int) ≤ i
    · exact high hard c k i (q, d, t) a len cap ps w hps hn hl hr h1 h2
    obtain ⟨i, rfl⟩ := Int.eq_ofNat_of_zero_le (show 0 ≤ i by omega)
    cases a with
    | none => obtain ⟨rfl, _⟩ := hn _ _ rfl; omega
    | some ad => exact inside hard c k i (q, d, t) ad len cap ps w hps hl hr (by omega)
  · exact bad hard c k i (q, d, t) a len cap ps w hps hn hl hr

set_option maxRecDepth 100000 in
theorem lifted (os : Os) (started : os.Started) (H : Type) (enc : TypeId × Value → H) :
    ReturnsInHanded {} Try.checked os 5 .any (Rows.admitChangesSpec.pre6 enc Try.prog Try.f5 Rows.admitChangesRow.domain false) (Rows.admitChangesSpec.post enc Try.prog Try.f5 false true false false) := by
  refine returnsInHanded_of_change (C := Try.checked) own started (by kernel_rfl) Try.func5
    (ChangeSpec.witness6 (enc := enc) (C := Try.checked) false ⟨#[], #[.agg #[.bool false, .int .i64 0, .int .i64 0], .slice none 0 0, .agg #[.int .i64 0, .int .i64 0, .int .i64 0, .int .i64 0]], []⟩ 8 (by kernel_rfl) (by kernel_rfl) (by kernel_rfl) (by kernel_rfl)) ?_
  intro W base args ds gs before hval0 hW hcnd _
  have hval : ∀ (j : Nat) t v, Try.f5.params[j]? = some t → args[j]? = some v → Value.okWide Try.prog W .any base t v := hval0
  have hW' := hW
  obtain ⟨p, q, hA0, hV, _, hfz, hnd⟩ := hW'
  have hA : DataW.TrodAll enc Try.prog W 0 (fun _ => true) true Try.f5.params.toList args.toList ds p := hA0
  rw [Try.params5] at hA hval
  obtain ⟨v0, v1, v2, d0, d1, d2, p0, p1, p2, rfl, _, _, h0, h1, h2⟩ := trodAll_three hA
  obtain ⟨c00, c01, c02, y00, y01, y02, m0, rfl, _, _, hy00, hy01, hy02⟩ := open_agg3 Try.underlying23 (by kernel_rfl) (by kernel_rfl) (hval 0 23 v0 rfl rfl) h0
  obtain ⟨hard, e00, _⟩ := DataW.trod_bool Try.underlying4 hy00
  obtain ⟨c, e01, _, wc⟩ := DataW.trod_int Try.underlying3 hy01
  obtain ⟨k, e02, _, wk⟩ := DataW.trod_int Try.underlying3 hy02
  simp at e00 e01 e02
  subst e00 e01 e02
  obtain ⟨ps, hps, fps, lps⟩ := open_params Try.underlying24 Try.underlying40 (by kernel_rfl) (fun i hi => by match i, hi with | 0, _ => exact ⟨_, rfl, rfl, by kernel_rfl, Try.underlying3⟩ | 1, _ => exact ⟨_, rfl, rfl, by kernel_rfl, Try.underlying3⟩ | 2, _ => exact ⟨_, rfl, rfl, by kernel_rfl, Try.underlying3⟩) (hval 1 24 v1 rfl rfl) h1
  have nps := open_nil Try.underlying24 (hval 1 24 v1 rfl rfl) h1
  obtain ⟨i, q, d, t, rfl, wi, wq, wd, wt⟩ := open_turn Try.underlying44 Try.underlying40 (by kernel_rfl) ⟨rfl, by kernel_rfl, Try.underlying3⟩ ⟨rfl, by kernel_rfl, rfl⟩ (fun i hi => by match i, hi with | 0, _ => exact ⟨_, rfl, rfl, by kernel_rfl, Try.underlying3⟩ | 1, _ => exact ⟨_, rfl, rfl, by kernel_rfl, Try.underlying3⟩ | 2, _ => exact ⟨_, rfl, rfl, by kernel_rfl, Try.underlying3⟩) (hval 2 44 v2 rfl rfl) h2
  refine (walk hard c k v1 ps i q d t W wc wk hps nps wi wq wd wt).mono fun e W' h => ?_
  exact law_post (f := Try.f5) rfl rfl Try.underlying4 (by kernel_rfl) (fun ds hd => by
    match ds, hd with
    | [_, _, _], _ => rfl) hW h

theorem over : Rows.admitChangesRow.holds Try.pinned (OpenSpec.ofChange Rows.admitChangesSpec) :=
  OpenClaim.holds_of_wide 5 Try.f5 rfl rfl rfl rfl rfl rfl rfl ⟨rfl, rfl, rfl, rfl, rfl⟩ rfl rfl rfl rfl rfl (by kernel_rfl) Try.func5 (by kernel_rfl)
    (of_decide_eq_true (by kernel_rfl)) (by unfold Func.isWrapper; first | (rw [if_pos (by decide +kernel)]; kernel_rfl) | (rw [if_neg (by decide +kernel)]; exact ⟨rfl, rfl⟩))
    (fun os started H enc _ => lifted os started H enc)

/-- THE STATEMENT. -/
theorem proved : Rows.AdmitChangesSaid := over
end Go.Proofs.Ytoagdaenbanhlaa.admitChanges
