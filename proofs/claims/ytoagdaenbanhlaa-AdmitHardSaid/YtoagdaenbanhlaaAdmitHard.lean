/- AdmitHard answers true at every number of workers, every servers and every server. No condition. -/
import Derived.Test.YtoagdaenbanhlaaAdmitLaws
namespace Go.Proofs.Ytoagdaenbanhlaa.admitHard
open Go.ChangeShapes Go.WideShapes Go.ChangeAt Go.RowKit Go.Joins Go.Shelf

/-! ### the walk -/
theorem cells0 {p : P3} {k : Int} {w w' : World} (h : Below (((w.alloc (.cells #[.int .i64 p.1, .int .i64 p.2.1, .int .i64 p.2.2] 40)).alloc (.cells #[.bool true, .int .i64 0, .int .i64 k] 23)).alloc (.cells #[.bool false, .int .i64 1048576, .int .i64 k] 23)).heap.size (((w.alloc (.cells #[.int .i64 p.1, .int .i64 p.2.1, .int .i64 p.2.2] 40)).alloc (.cells #[.bool true, .int .i64 0, .int .i64 k] 23)).alloc (.cells #[.bool false, .int .i64 1048576, .int .i64 k] 23)) w') :
    w'.cell? ⟨w.heap.size, 0, none⟩ = some (Value.int .i64 p.1) ∧ w'.cell? ⟨w.heap.size, 1, none⟩ = some (Value.int .i64 p.2.1) ∧ w'.cell? ⟨w.heap.size, 2, none⟩ = some (Value.int .i64 p.2.2) ∧ w'.cell? ⟨w.heap.size + 1, 0, none⟩ = some (Value.bool true) ∧ w'.cell? ⟨w.heap.size + 1, 1, none⟩ = some (Value.int .i64 0) ∧ w'.cell? ⟨w.heap.size + 1, 2, none⟩ = some (Value.int .i64 k) ∧ w'.cell? ⟨w.heap.size + 1 + 1, 0, none⟩ = some (Value.bool false) ∧ w'.cell? ⟨w.heap.size + 1 + 1, 1, none⟩ = some (Value.int .i64 1048576) ∧ w'.cell? ⟨w.heap.size + 1 + 1, 2, none⟩ = some (Value.int .i64 k) ∧ w.heap.size < w'.heap.size ∧ w.heap.size + 1 < w'.heap.size ∧ w.heap.size + 1 + 1 < w'.heap.size := by
  have c0 := (h.cell (p := ⟨w.heap.size, 0, none⟩) (by first | (simp; done) | (simp; omega))).trans (show _ = some (Value.int .i64 p.1) by go_simp)
  have c1 := (h.cell (p := ⟨w.heap.size, 1, none⟩) (by first | (simp; done) | (simp; omega))).trans (show _ = some (Value.int .i64 p.2.1) by go_simp)
  have c2 := (h.cell (p := ⟨w.heap.size, 2, none⟩) (by first | (simp; done) | (simp; omega))).trans (show _ = some (Value.int .i64 p.2.2) by go_simp)
  have c3 := (h.cell (p := ⟨w.heap.size + 1, 0, none⟩) (by first | (simp; done) | (simp; omega))).trans (show _ = some (Value.bool true) by go_simp)
  have c4 := (h.cell (p := ⟨w.heap.size + 1, 1, none⟩) (by first | (simp; done) | (simp; omega))).trans (show _ = some (Value.int .i64 0) by go_simp)
  have c5 := (h.cell (p := ⟨w.heap.size + 1, 2, none⟩) (by first | (simp; done) | (simp; omega))).trans (show _ = some (Value.int .i64 k) by go_simp)
  have c6 := (h.cell (p := ⟨w.heap.size + 1 + 1, 0, none⟩) (by first | (simp; done) | (simp; omega))).trans (show _ = some (Value.bool false) by go_simp)
  have c7 := (h.cell (p := ⟨w.heap.size + 1 + 1, 1, none⟩) (by first | (simp; done) | (simp; omega))).trans (show _ = some (Value.int .i64 1048576) by go_simp)
  have c8 := (h.cell (p := ⟨w.heap.size + 1 + 1, 2, none⟩) (by first | (simp; done) | (simp; omega))).trans (show _ = some (Value.int .i64 k) by go_simp)
  exact ⟨c0, c1, c2, c3, c4, c5, c6, c7, c8, cell_lt c0, cell_lt c3, cell_lt c6⟩
set_option maxRecDepth 100000 in
set_option maxHeartbeats 4000000 in
theorem low (k : Int) (a : Option Addr) (len cap : Nat) (p : P3) (w : World) (hk : k < 1) : Calls Try.prog 4 #[.int .i64 k, .slice a len cap, .agg #[.int .i64 p.1, .int .i64 p.2.1, .int .i64 p.2.2]] w (Yes w) := by
  have d0 : decide (k < 1) = true := decide_eq_true hk
  clear hk
  go_enter Try.func4, Try.ntmps4
  go_wp2_with (go_at_call 9; refine (awake_yes _).mono ?_; rintro e w' ⟨rfl, hb⟩)
  go_ret
  exact ⟨rfl, bel_end (bel_alloc (Below.refl _ _)) hb⟩
set_option maxRecDepth 100000 in
set_option maxHeartbeats 4000000 in
theorem high (k : Int) (a : Option Addr) (len cap : Nat) (p : P3) (w : World) (hk : ¬ k < 1) (hk' : 16 < k) : Calls Try.prog 4 #[.int .i64 k, .slice a len cap, .agg #[.int .i64 p.1, .int .i64 p.2.1, .int .i64 p.2.2]] w (Yes w) := by
  have d0 : decide (k < 1) = false := decide_eq_false hk
  have d1 : decide (16 < k) = true := decide_eq_true hk'
  clear hk hk'
  go_enter Try.func4, Try.ntmps4
  go_wp2_with (go_at_call 9; refine (awake_yes _).mono ?_; rintro e w' ⟨rfl, hb⟩)
  go_ret
  exact ⟨rfl, bel_end (bel_alloc (Below.refl _ _)) hb⟩
set_option maxRecDepth 100000 in
set_option maxHeartbeats 4000000 in
theorem many (k : Int) (a : Option Addr) (len cap : Nat) (p : P3) (w : World) (hk : ¬ k < 1) (hk' : ¬ 16 < k) (hl : 70 < len) : Calls Try.prog 4 #[.int .i64 k, .slice a len cap, .agg #[.int .i64 p.1, .int .i64 p.2.1, .int .i64 p.2.2]] w (Yes w) := by
  have d0 : decide (k < 1) = false := decide_eq_false hk
  have d1 : decide (16 < k) = false := decide_eq_false hk'
  have d2 : decide (70 < (len : Int)) = true := decide_eq_true (by omega)
  clear hk hk' hl
  go_enter Try.func4, Try.ntmps4
  go_wp2_with (go_at_call 9; refine (awake_yes _).mono ?_; rintro e w' ⟨rfl, hb⟩)
  go_ret
  exact ⟨rfl, bel_end (bel_alloc (Below.refl _ _)) hb⟩
set_option maxRecDepth 100000 in
set_option maxHeartbeats 4000000 in
theorem may_in (k : Int) (a : Option Addr) (len cap : Nat) (ps : List P3) (p : P3) (w : World) (h : ParamRow w (.slice a len cap) ps) (hk : 1 ≤ k) (hk' : k ≤ 16) (hl : len ≤ 70) (hp : May p) (ht : testNum true 0 k ps = 0) : Calls Try.prog 4 #[.int .i64 k, .slice a len cap, .agg #[.int .i64 p.1, .int .i64 p.2.1, .int .i64 p.2.2]] w (Yes w) := by
  have hlen := row_len h
  have d0 : decide (k < 1) = false := decide_eq_false (by omega)
  have d1 : decide (16 < k) = false := decide_eq_false (by omega)
  have d2 : decide (70 < (len : Int)) = false := decide_eq_false (by omega)
  have hh : RuleMay 0 k := ⟨by omega, by omega, by omega, by omega⟩
  have hs : RuleMay 1048576 k := ⟨by omega, by omega, by omega, by omega⟩
  have HP := Lib.hid (h.below (bel_alloc (bel_alloc (bel_alloc (Below.refl w.heap.size w))) : Below w.heap.size w (((w.alloc (.cells #[.int .i64 p.1, .int .i64 p.2.1, .int .i64 p.2.2] 40)).alloc (.cells #[.bool true, .int .i64 0, .int .i64 k] 23)).alloc (.cells #[.bool false, .int .i64 1048576, .int .i64 k] 23))))
  have hl2 : ps.length ≤ 1000 := by omega
  have TH := Lib.hid (fun w2 (h2 : Below (((w.alloc (.cells #[.int .i64 p.1, .int .i64 p.2.1, .int .i64 p.2.2] 40)).alloc (.cells #[.bool true, .int .i64 0, .int .i64 k] 23)).alloc (.cells #[.bool false, .int .i64 1048576, .int .i64 k] 23)).heap.size (((w.alloc (.cells #[.int .i64 p.1, .int .i64 p.2.1, .int .i64 p.2.2] 40)).alloc (.cells #[.bool true, .int .i64 0, .int .i64 k] 23)).alloc (.cells #[.bool false, .int .i64 1048576, .int .i64 k] 23)) w2) => test_any true 0 k _ ps w2 (HP.out.below h2) hl2)
  have TE := Lib.hid (fun w2 => test_any true 0 k (.slice none 0 0) [] w2 (.inl ⟨_, _, rfl, rfl⟩) (by simp))
  have TF := Lib.hid (fun w2 => test_any false 1048576 k (.slice none 0 0) [] w2 (.inl ⟨_, _, rfl, rfl⟩) (by simp))
  rw [test_empty hh] at TE
  rw [test_empty hs] at TF
  have RI := Lib.hid (right_any p)
  rw [decide_eq_true hp] at RI
  have TO : Hid (∀ v w2, ParamRow w2 v [p] → Calls Try.prog 14 #[.agg #[.bool true, .int .i64 0, .int .i64 k], v] w2 (Gives (.int .i64 0) w2)) := fun v w2 h2 => by
    have := test_any true 0 k v [p] w2 h2 (by simp)
    rwa [hard_one hh hp] at this
  rw [ht] at TH
  obtain ⟨g1, g2, g3, g4⟩ := hard_soft hk hk' ht
  obtain ⟨_, ha⟩ := test_zero ht
  have LH := Lib.hid (fun w2 (h2 : Below (((w.alloc (.cells #[.int .i64 p.1, .int .i64 p.2.1, .int .i64 p.2.2] 40)).alloc (.cells #[.bool true, .int .i64 0, .int .i64 k] 23)).alloc (.cells #[.bool false, .int .i64 1048576, .int .i64 k] 23)).heap.size (((w.alloc (.cells #[.int .i64 p.1, .int .i64 p.2.1, .int .i64 p.2.2] 40)).alloc (.cells #[.bool true, .int .i64 0, .int .i64 k] 23)).alloc (.cells #[.bool false, .int .i64 1048576, .int .i64 k] 23)) w2) => load_any true 0 k _ ps w2 (HP.out.below h2) hl2)
  have LS := Lib.hid (fun w2 (h2 : Below (((w.alloc (.cells #[.int .i64 p.1, .int .i64 p.2.1, .int .i64 p.2.2] 40)).alloc (.cells #[.bool true, .int .i64 0, .int .i64 k] 23)).alloc (.cells #[.bool false, .int .i64 1048576, .int .i64 k] 23)).heap.size (((w.alloc (.cells #[.int .i64 p.1, .int .i64 p.2.1, .int .i64 p.2.2] 40)).alloc (.cells #[.bool true, .int .i64 0, .int .i64 k] 23)).alloc (.cells #[.bool false, .int .i64 1048576, .int .i64 k] 23)) w2) => load_any false 1048576 k _ ps w2 (HP.out.below h2) hl2)
  have TS := Lib.hid (fun w2 (h2 : Below (((w.alloc (.cells #[.int .i64 p.1, .int .i64 p.2.1, .int .i64 p.2.2] 40)).alloc (.cells #[.bool true, .int .i64 0, .int .i64 k] 23)).alloc (.cells #[.bool false, .int .i64 1048576, .int .i64 k] 23)).heap.size (((w.alloc (.cells #[.int .i64 p.1, .int .i64 p.2.1, .int .i64 p.2.2] 40)).alloc (.cells #[.bool true, .int .i64 0, .int .i64 k] 23)).alloc (.cells #[.bool false, .int .i64 1048576, .int .i64 k] 23)) w2) => test_any false 1048576 k _ ps w2 (HP.out.below h2) hl2)
  rw [load_ok hh ha] at LH
  rw [load_ok hs ha] at LS
  rw [g4] at TS
  generalize asked true ps = q at *
  generalize asked false ps = r at *
  obtain ⟨S, M⟩ := q
  obtain ⟨S', M'⟩ := r
  simp only at LH LS g1 g2 g3
  have i1 : (S' : Int) ≤ (S : Int) := by omega
  have i2 : (M : Int) ≤ 1048576 := by omega
  clear g1 g2 g4 ha ht
  clear hp h hl hl2 hlen hh hs HP
  go_enter Try.func4, Try.ntmps4
  go_wp2_with fail
  refine (RI.out _).mono ?_
  rintro e w1 ⟨rfl, b⟩
  have R1 := Lib.hid (show Below (((w.alloc (.cells #[.int .i64 p.1, .int .i64 p.2.1, .int .i64 p.2.2] 40)).alloc (.cells #[.bool true, .int .i64 0, .int .i64 k] 23)).alloc (.cells #[.bool false, .int .i64 1048576, .int .i64 k] 23)).heap.size (((w.alloc (.cells #[.int .i64 p.1, .int .i64 p.2.1, .int .i64 p.2.2] 40)).alloc (.cells #[.bool true, .int .i64 0, .int .i64 k] 23)).alloc (.cells #[.bool false, .int .i64 1048576, .int .i64 k] 23)) w1 from by
    refine bel_end ?_ b
    repeat (first | with_reducible exact Below.refl _ _ | with_reducible refine bel_alloc ?_ | with_reducible refine bel_drew ?_))
  clear b
  obtain ⟨c1_0, c1_1, c1_2, c1_3, c1_4, c1_5, c1_6, c1_7, c1_8, l1_0, l1_1, l1_2⟩ := cells0 R1.out
  go_wp2_with fail
  refine (TO.out _ _ (row_one ⟨by go_simp, by go_simp, by go_simp⟩)).mono ?_
  rintro e w2 ⟨rfl, b⟩
  have R2 := Lib.hid (show Below (((w.alloc (.cells #[.int .i64 p.1, .int .i64 p.2.1, .int .i64 p.2.2] 40)).alloc (.cells #[.bool true, .int .i64 0, .int .i64 k] 23)).alloc (.cells #[.bool false, .int .i64 1048576, .int .i64 k] 23)).heap.size (((w.alloc (.cells #[.int .i64 p.1, .int .i64 p.2.1, .int .i64 p.2.2] 40)).alloc (.cells #[.bool true, .int .i64 0, .int .i64 k] 23)).alloc (.cells #[.bool false, .int .i64 1048576, .int .i64 k] 23)) w2 from by
    refine bel_end ?_ b
    repeat (first | with_reducible exact R1.out | with_reducible refine bel_alloc ?_ | with_reducible refine bel_drew ?_))
  clear b
  clear c1_0 c1_1 c1_2 c1_3 c1_4 c1_5 c1_6 c1_7 c1_8 l1_0 l1_1 l1_2
  obtain ⟨c2_0, c2_1, c2_2, c2_3, c2_4, c2_5, c2_6, c2_7, c2_8, l2_0, l2_1, l2_2⟩ := cells0 R2.out
  go_wp2_with fail
  refine (TE.out _).mono ?_
  rintro e w3 ⟨rfl, b⟩
  have R3 := Lib.hid (show Below (((w.alloc (.cells #[.int .i64 p.1, .int .i64 p.2.1, .int .i64 p.2.2] 40)).alloc (.cells #[.bool true, .int .i64 0, .int .i64 k] 23)).alloc (.cells #[.bool false, .int .i64 1048576, .int .i64 k] 23)).heap.size (((w.alloc (.cells #[.int .i64 p.1, .int .i64 p.2.1, .int .i64 p.2.2] 40)).alloc (.cells #[.bool true, .int .i64 0, .int .i64 k] 23)).alloc (.cells #[.bool false, .int .i64 1048576, .int .i64 k] 23)) w3 from by
    refine bel_end ?_ b
    repeat (first | with_reducible exact R2.out | with_reducible refine bel_alloc ?_ | with_reducible refine bel_drew ?_))
  clear b
  clear c2_0 c2_1 c2_2 c2_3 c2_4 c2_5 c2_6 c2_7 c2_8 l2_0 l2_1 l2_2
  obtain ⟨c3_0, c3_1, c3_2, c3_3, c3_4, c3_5, c3_6, c3_7, c3_8, l3_0, l3_1, l3_2⟩ := cells0 R3.out
  go_wp2_with fail
  refine (TF.out _).mono ?_
  rintro e w4 ⟨rfl, b⟩
  have R4 := Lib.hid (show Below (((w.alloc (.cells #[.int .i64 p.1, .int .i64 p.2.1, .int .i64 p.2.2] 40)).alloc (.cells #[.bool true, .int .i64 0, .int .i64 k] 23)).alloc (.cells #[.bool false, .int .i64 1048576, .int .i64 k] 23)).heap.size (((w.alloc (.cells #[.int .i64 p.1, .int .i64 p.2.1, .int .i64 p.2.2] 40)).alloc (.cells #[.bool true, .int .i64 0, .int .i64 k] 23)).alloc (.cells #[.bool false, .int .i64 1048576, .int .i64 k] 23)) w4 from by
    refine bel_end ?_ b
    repeat (first | with_reducible exact R3.out | with_reducible refine bel_alloc ?_ | with_reducible refine bel_drew ?_))
  clear b
  clear c3_0 c3_1 c3_2 c3_3 c3_4 c3_5 c3_6 c3_7 c3_8 l3_0 l3_1 l3_2
  obtain ⟨c4_0, c4_1, c4_2, c4_3, c4_4, c4_5, c4_6, c4_7, c4_8, l4_0, l4_1, l4_2⟩ := cells0 R4.out
  go_wp2_with fail
  refine (TH.out _ R4.out).mono ?_
  rintro e w5 ⟨rfl, b⟩
  have R5 := Lib.hid (show Below (((w.alloc (.cells #[.int .i64 p.1, .int .i64 p.2.1, .int .i64 p.2.2] 40)).alloc (.cells #[.bool true, .int .i64 0, .int .i64 k] 23)).alloc (.cells #[.bool false, .int .i64 1048576, .int .i64 k] 23)).heap.size (((w.alloc (.cells #[.int .i64 p.1, .int .i64 p.2.1, .int .i64 p.2.2] 40)).alloc (.cells #[.bool true, .int .i64 0, .int .i64 k] 23)).alloc (.cells #[.bool false, .int .i64 1048576, .int .i64 k] 23)) w5 from by
    refine bel_end ?_ b
    repeat (first | with_reducible exact R4.out | with_reducible refine bel_alloc ?_ | with_reducible refine bel_drew ?_))
  clear b
  clear c4_0 c4_1 c4_2 c4_3 c4_4 c4_5 c4_6 c4_7 c4_8 l4_0 l4_1 l4_2
  obtain ⟨c5_0, c5_1, c5_2, c5_3, c5_4, c5_5, c5_6, c5_7, c5_8, l5_0, l5_1, l5_2⟩ := cells0 R5.out
  go_wp2_with fail
  refine (LH.out _ R5.out).mono ?_
  rintro e w6 ⟨rfl, b⟩
  have R6 := Lib.hid (show Below (((w.alloc (.cells #[.int .i64 p.1, .int .i64 p.2.1, .int .i64 p.2.2] 40)).alloc (.cells #[.bool true, .int .i64 0, .int .i64 k] 23)).alloc (.cells #[.bool false, .int .i64 1048576, .int .i64 k] 23)).heap.size (((w.alloc (.cells #[.int .i64 p.1, .int .i64 p.2.1, .int .i64 p.2.2] 40)).alloc (.cells #[.bool true, .int .i64 0, .int .i64 k] 23)).alloc (.cells #[.bool false, .int .i64 1048576, .int .i64 k] 23)) w6 from by
    refine bel_end ?_ b
    repeat (first | with_reducible exact R5.out | with_reducible refine bel_alloc ?_ | with_reducible refine bel_drew ?_))
  clear b
  clear c5_0 c5_1 c5_2 c5_3 c5_4 c5_5 c5_6 c5_7 c5_8 l5_0 l5_1 l5_2
  obtain ⟨c6_0, c6_1, c6_2, c6_3, c6_4, c6_5, c6_6, c6_7, c6_8, l6_0, l6_1, l6_2⟩ := cells0 R6.out
  go_wp2_with fail
  refine (LS.out _ R6.out).mono ?_
  rintro e w7 ⟨rfl, b⟩
  have R7 := Lib.hid (show Below (((w.alloc (.cells #[.int .i64 p.1, .int .i64 p.2.1, .int .i64 p.2.2] 40)).alloc (.cells #[.bool true, .int .i64 0, .int .i64 k] 23)).alloc (.cells #[.bool false, .int .i64 1048576, .int .i64 k] 23)).heap.size (((w.alloc (.cells #[.int .i64 p.1, .int .i64 p.2.1, .int .i64 p.2.2] 40)).alloc (.cells #[.bool true, .int .i64 0, .int .i64 k] 23)).alloc (.cells #[.bool false, .int .i64 1048576, .int .i64 k] 23)) w7 from by
    refine bel_end ?_ b
    repeat (first | with_reducible exact R6.out | with_reducible refine bel_alloc ?_ | with_reducible refine bel_drew ?_))
  clear b
  clear c6_0 c6_1 c6_2 c6_3 c6_4 c6_5 c6_6 c6_7 c6_8 l6_0 l6_1 l6_2
  obtain ⟨c7_0, c7_1, c7_2, c7_3, c7_4, c7_5, c7_6, c7_7, c7_8, l7_0, l7_1, l7_2⟩ := cells0 R7.out
  go_wp2_with fail
  refine (TS.out _ R7.out).mono ?_
  rintro e w8 ⟨rfl, b⟩
  have R8 := Lib.hid (show Below (((w.alloc (.cells #[.int .i64 p.1, .int .i64 p.2.1, .int .i64 p.2.2] 40)).alloc (.cells #[.bool true, .int .i64 0, .int .i64 k] 23)).alloc (.cells #[.bool false, .int .i64 1048576, .int .i64 k] 23)).heap.size (((w.alloc (.cells #[.int .i64 p.1, .int .i64 p.2.1, .int .i64 p.2.2] 40)).alloc (.cells #[.bool true, .int .i64 0, .int .i64 k] 23)).alloc (.cells #[.bool false, .int .i64 1048576, .int .i64 k] 23)) w8 from by
    refine bel_end ?_ b
    repeat (first | with_reducible exact R7.out | with_reducible refine bel_alloc ?_ | with_reducible refine bel_drew ?_))
  clear b
  clear c7_0 c7_1 c7_2 c7_3 c7_4 c7_5 c7_6 c7_7 c7_8 l7_0 l7_1 l7_2
  have HB := Lib.hid (bel_end (bel_alloc (bel_alloc (bel_alloc (Below.refl w.heap.size w)))) R8.out)
  go_wp2_with (go_at_call 9; refine (awake_yes _).mono ?_; rintro e w' ⟨rfl, hb⟩)
  go_ret
  refine ⟨rfl, bel_end ?_ hb⟩
  repeat (first | with_reducible exact HB.out | with_reducible refine bel_alloc ?_ | with_reducible refine bel_drew ?_)
set_option maxRecDepth 100000 in
set_option maxHeartbeats 4000000 in
theorem may_out (k : Int) (a : Option Addr) (len cap : Nat) (ps : List P3) (p : P3) (w : World) (h : ParamRow w (.slice a len cap) ps) (hk : 1 ≤ k) (hk' : k ≤ 16) (hl : len ≤ 70) (hp : May p) (ht : testNum true 0 k ps ≠ 0) : Calls Try.prog 4 #[.int .i64 k, .slice a len cap, .agg #[.int .i64 p.1, .int .i64 p.2.1, .int .i64 p.2.2]] w (Yes w) := by
  have hlen := row_len h
  have d0 : decide (k < 1) = false := decide_eq_false (by omega)
  have d1 : decide (16 < k) = false := decide_eq_false (by omega)
  have d2 : decide (70 < (len : Int)) = false := decide_eq_false (by omega)
  have hh : RuleMay 0 k := ⟨by omega, by omega, by omega, by omega⟩
  have hs : RuleMay 1048576 k := ⟨by omega, by omega, by omega, by omega⟩
  have HP := Lib.hid (h.below (bel_alloc (bel_alloc (bel_alloc (Below.refl w.heap.size w))) : Below w.heap.size w (((w.alloc (.cells #[.int .i64 p.1, .int .i64 p.2.1, .int .i64 p.2.2] 40)).alloc (.cells #[.bool true, .int .i64 0, .int .i64 k] 23)).alloc (.cells #[.bool false, .int .i64 1048576, .int .i64 k] 23))))
  have hl2 : ps.length ≤ 1000 := by omega
  have TH := Lib.hid (fun w2 (h2 : Below (((w.alloc (.cells #[.int .i64 p.1, .int .i64 p.2.1, .int .i64 p.2.2] 40)).alloc (.cells #[.bool true, .int .i64 0, .int .i64 k] 23)).alloc (.cells #[.bool false, .int .i64 1048576, .int .i64 k] 23)).heap.size (((w.alloc (.cells #[.int .i64 p.1, .int .i64 p.2.1, .int .i64 p.2.2] 40)).alloc (.cells #[.bool true, .int .i64 0, .int .i64 k] 23)).alloc (.cells #[.bool false, .int .i64 1048576, .int .i64 k] 23)) w2) => test_any true 0 k _ ps w2 (HP.out.below h2) hl2)
  have TE := Lib.hid (fun w2 => test_any true 0 k (.slice none 0 0) [] w2 (.inl ⟨_, _, rfl, rfl⟩) (by simp))
  have TF := Lib.hid (fun w2 => test_any false 1048576 k (.slice none 0 0) [] w2 (.inl ⟨_, _, rfl, rfl⟩) (by simp))
  rw [test_empty hh] at TE
  rw [test_empty hs] at TF
  have RI := Lib.hid (right_any p)
  rw [decide_eq_true hp] at RI
  have TO : Hid (∀ v w2, ParamRow w2 v [p] → Calls Try.prog 14 #[.agg #[.bool true, .int .i64 0, .int .i64 k], v] w2 (Gives (.int .i64 0) w2)) := fun v w2 h2 => by
    have := test_any true 0 k v [p] w2 h2 (by simp)
    rwa [hard_one hh hp] at this
  generalize testNum true 0 k ps = T at *
  have e1 : (T == 0) = false := by simp; exact ht
  have e2 : (T != 0) = true := by simp; exact ht
  clear ht
  clear hp h hl hl2 hlen hh hs HP
  go_enter Try.func4, Try.ntmps4
  go_wp2_with fail
  refine (RI.out _).mono ?_
  rintro e w1 ⟨rfl, b⟩
  have R1 := Lib.hid (show Below (((w.alloc (.cells #[.int .i64 p.1, .int .i64 p.2.1, .int .i64 p.2.2] 40)).alloc (.cells #[.bool true, .int .i64 0, .int .i64 k] 23)).alloc (.cells #[.bool false, .int .i64 1048576, .int .i64 k] 23)).heap.size (((w.alloc (.cells #[.int .i64 p.1, .int .i64 p.2.1, .int .i64 p.2.2] 40)).alloc (.cells #[.bool true, .int .i64 0, .int .i64 k] 23)).alloc (.cells #[.bool false, .int .i64 1048576, .int .i64 k] 23)) w1 from by
    refine bel_end ?_ b
    repeat (first | with_reducible exact Below.refl _ _ | with_reducible refine bel_alloc ?_ | with_reducible refine bel_drew ?_))
  clear b
  obtain ⟨c1_0, c1_1, c1_2, c1_3, c1_4, c1_5, c1_6, c1_7, c1_8, l1_0, l1_1, l1_2⟩ := cells0 R1.out
  go_wp2_with fail
  refine (TO.out _ _ (row_one ⟨by go_simp, by go_simp, by go_simp⟩)).mono ?_
  rintro e w2 ⟨rfl, b⟩
  have R2 := Lib.hid (show Below (((w.alloc (.cells #[.int .i64 p.1, .int .i64 p.2.1, .int .i64 p.2.2] 40)).alloc (.cells #[.bool true, .int .i64 0, .int .i64 k] 23)).alloc (.cells #[.bool false, .int .i64 1048576, .int .i64 k] 23)).heap.size (((w.alloc (.cells #[.int .i64 p.1, .int .i64 p.2.1, .int .i64 p.2.2] 40)).alloc (.cells #[.bool true, .int .i64 0, .int .i64 k] 23)).alloc (.cells #[.bool false, .int .i64 1048576, .int .i64 k] 23)) w2 from by
    refine bel_end ?_ b
    repeat (first | with_reducible exact R1.out | with_reducible refine bel_alloc ?_ | with_reducible refine bel_drew ?_))
  clear b
  clear c1_0 c1_1 c1_2 c1_3 c1_4 c1_5 c1_6 c1_7 c1_8 l1_0 l1_1 l1_2
  obtain ⟨c2_0, c2_1, c2_2, c2_3, c2_4, c2_5, c2_6, c2_7, c2_8, l2_0, l2_1, l2_2⟩ := cells0 R2.out
  go_wp2_with fail
  refine (TE.out _).mono ?_
  rintro e w3 ⟨rfl, b⟩
  have R3 := Lib.hid (show Below (((w.alloc (.cells #[.int .i64 p.1, .int .i64 p.2.1, .int .i64 p.2.2] 40)).alloc (.cells #[.bool true, .int .i64 0, .int .i64 k] 23)).alloc (.cells #[.bool false, .int .i64 1048576, .int .i64 k] 23)).heap.size (((w.alloc (.cells #[.int .i64 p.1, .int .i64 p.2.1, .int .i64 p.2.2] 40)).alloc (.cells #[.bool true, .int .i64 0, .int .i64 k] 23)).alloc (.cells #[.bool false, .int .i64 1048576, .int .i64 k] 23)) w3 from by
    refine bel_end ?_ b
    repeat (first | with_reducible exact R2.out | with_reducible refine bel_alloc ?_ | with_reducible refine bel_drew ?_))
  clear b
  clear c2_0 c2_1 c2_2 c2_3 c2_4 c2_5 c2_6 c2_7 c2_8 l2_0 l2_1 l2_2
  obtain ⟨c3_0, c3_1, c3_2, c3_3, c3_4, c3_5, c3_6, c3_7, c3_8, l3_0, l3_1, l3_2⟩ := cells0 R3.out
  go_wp2_with fail
  refine (TF.out _).mono ?_
  rintro e w4 ⟨rfl, b⟩
  have R4 := Lib.hid (show Below (((w.alloc (.cells #[.int .i64 p.1, .int .i64 p.2.1, .int .i64 p.2.2] 40)).alloc (.cells #[.bool true, .int .i64 0, .int .i64 k] 23)).alloc (.cells #[.bool false, .int .i64 1048576, .int .i64 k] 23)).heap.size (((w.alloc (.cells #[.int .i64 p.1, .int .i64 p.2.1, .int .i64 p.2.2] 40)).alloc (.cells #[.bool true, .int .i64 0, .int .i64 k] 23)).alloc (.cells #[.bool false, .int .i64 1048576, .int .i64 k] 23)) w4 from by
    refine bel_end ?_ b
    repeat (first | with_reducible exact R3.out | with_reducible refine bel_alloc ?_ | with_reducible refine bel_drew ?_))
  clear b
  clear c3_0 c3_1 c3_2 c3_3 c3_4 c3_5 c3_6 c3_7 c3_8 l3_0 l3_1 l3_2
  obtain ⟨c4_0, c4_1, c4_2, c4_3, c4_4, c4_5, c4_6, c4_7, c4_8, l4_0, l4_1, l4_2⟩ := cells0 R4.out
  go_wp2_with fail
  refine (TH.out _ R4.out).mono ?_
  rintro e w5 ⟨rfl, b⟩
  have R5 := Lib.hid (show Below (((w.alloc (.cells #[.int .i64 p.1, .int .i64 p.2.1, .int .i64 p.2.2] 40)).alloc (.cells #[.bool true, .int .i64 0, .int .i64 k] 23)).alloc (.cells #[.bool false, .int .i64 1048576, .int .i64 k] 23)).heap.size (((w.alloc (.cells #[.int .i64 p.1, .int .i64 p.2.1, .int .i64 p.2.2] 40)).alloc (.cells #[.bool true, .int .i64 0, .int .i64 k] 23)).alloc (.cells #[.bool false, .int .i64 1048576, .int .i64 k] 23)) w5 from by
    refine bel_end ?_ b
    repeat (first | with_reducible exact R4.out | with_reducible refine bel_alloc ?_ | with_reducible refine bel_drew ?_))
  clear b
  clear c4_0 c4_1 c4_2 c4_3 c4_4 c4_5 c4_6 c4_7 c4_8 l4_0 l4_1 l4_2
  obtain ⟨c5_0, c5_1, c5_2, c5_3, c5_4, c5_5, c5_6, c5_7, c5_8, l5_0, l5_1, l5_2⟩ := cells0 R5.out
  have HB := Lib.hid (bel_end (bel_alloc (bel_alloc (bel_alloc (Below.refl w.heap.size w)))) R5.out)
  go_wp2_with (go_at_call 9; refine (awake_yes _).mono ?_; rintro e w' ⟨rfl, hb⟩)
  go_ret
  refine ⟨rfl, bel_end ?_ hb⟩
  repeat (first | with_reducible exact HB.out | with_reducible refine bel_alloc ?_ | with_reducible refine bel_drew ?_)
set_option maxRecDepth 100000 in
set_option maxHeartbeats 4000000 in
theorem not_in (k : Int) (a : Option Addr) (len cap : Nat) (ps : List P3) (p : P3) (w : World) (h : ParamRow w (.slice a len cap) ps) (hk : 1 ≤ k) (hk' : k ≤ 16) (hl : len ≤ 70) (hp : ¬ May p) (ht : testNum true 0 k ps = 0) : Calls Try.prog 4 #[.int .i64 k, .slice a len cap, .agg #[.int .i64 p.1, .int .i64 p.2.1, .int .i64 p.2.2]] w (Yes w) := by
  have hlen := row_len h
  have d0 : decide (k < 1) = false := decide_eq_false (by omega)
  have d1 : decide (16 < k) = false := decide_eq_false (by omega)
  have d2 : decide (70 < (len : Int)) = false := decide_eq_false (by omega)
  have hh : RuleMay 0 k := ⟨by omega, by omega, by omega, by omega⟩
  have hs : RuleMay 1048576 k := ⟨by omega, by omega, by omega, by omega⟩
  have HP := Lib.hid (h.below (bel_alloc (bel_alloc (bel_alloc (Below.refl w.heap.size w))) : Below w.heap.size w (((w.alloc (.cells #[.int .i64 p.1, .int .i64 p.2.1, .int .i64 p.2.2] 40)).alloc (.cells #[.bool true, .int .i64 0, .int .i64 k] 23)).alloc (.cells #[.bool false, .int .i64 1048576, .int .i64 k] 23))))
  have hl2 : ps.length ≤ 1000 := by omega
  have TH := Lib.hid (fun w2 (h2 : Below (((w.alloc (.cells #[.int .i64 p.1, .int .i64 p.2.1, .int .i64 p.2.2] 40)).alloc (.cells #[.bool true, .int .i64 0, .int .i64 k] 23)).alloc (.cells #[.bool false, .int .i64 1048576, .int .i64 k] 23)).heap.size (((w.alloc (.cells #[.int .i64 p.1, .int .i64 p.2.1, .int .i64 p.2.2] 40)).alloc (.cells #[.bool true, .int .i64 0, .int .i64 k] 23)).alloc (.cells #[.bool false, .int .i64 1048576, .int .i64 k] 23)) w2) => test_any true 0 k _ ps w2 (HP.out.below h2) hl2)
  have TE := Lib.hid (fun w2 => test_any true 0 k (.slice none 0 0) [] w2 (.inl ⟨_, _, rfl, rfl⟩) (by simp))
  have TF := Lib.hid (fun w2 => test_any false 1048576 k (.slice none 0 0) [] w2 (.inl ⟨_, _, rfl, rfl⟩) (by simp))
  rw [test_empty hh] at TE
  rw [test_empty hs] at TF
  have RI := Lib.hid (right_any p)
  rw [decide_eq_false hp] at RI
  rw [ht] at TH
  obtain ⟨g1, g2, g3, g4⟩ := hard_soft hk hk' ht
  obtain ⟨_, ha⟩ := test_zero ht
  have LH := Lib.hid (fun w2 (h2 : Below (((w.alloc (.cells #[.int .i64 p.1, .int .i64 p.2.1, .int .i64 p.2.2] 40)).alloc (.cells #[.bool true, .int .i64 0, .int .i64 k] 23)).alloc (.cells #[.bool false, .int .i64 1048576, .int .i64 k] 23)).heap.size (((w.alloc (.cells #[.int .i64 p.1, .int .i64 p.2.1, .int .i64 p.2.2] 40)).alloc (.cells #[.bool true, .int .i64 0, .int .i64 k] 23)).alloc (.cells #[.bool false, .int .i64 1048576, .int .i64 k] 23)) w2) => load_any true 0 k _ ps w2 (HP.out.below h2) hl2)
  have LS := Lib.hid (fun w2 (h2 : Below (((w.alloc (.cells #[.int .i64 p.1, .int .i64 p.2.1, .int .i64 p.2.2] 40)).alloc (.cells #[.bool true, .int .i64 0, .int .i64 k] 23)).alloc (.cells #[.bool false, .int .i64 1048576, .int .i64 k] 23)).heap.size (((w.alloc (.cells #[.int .i64 p.1, .int .i64 p.2.1, .int .i64 p.2.2] 40)).alloc (.cells #[.bool true, .int .i64 0, .int .i64 k] 23)).alloc (.cells #[.bool false, .int .i64 1048576, .int .i64 k] 23)) w2) => load_any false 1048576 k _ ps w2 (HP.out.below h2) hl2)
  have TS := Lib.hid (fun w2 (h2 : Below (((w.alloc (.cells #[.int .i64 p.1, .int .i64 p.2.1, .int .i64 p.2.2] 40)).alloc (.cells #[.bool true, .int .i64 0, .int .i64 k] 23)).alloc (.cells #[.bool false, .int .i64 1048576, .int .i64 k] 23)).heap.size (((w.alloc (.cells #[.int .i64 p.1, .int .i64 p.2.1, .int .i64 p.2.2] 40)).alloc (.cells #[.bool true, .int .i64 0, .int .i64 k] 23)).alloc (.cells #[.bool false, .int .i64 1048576, .int .i64 k] 23)) w2) => test_any false 1048576 k _ ps w2 (HP.out.below h2) hl2)
  rw [load_ok hh ha] at LH
  rw [load_ok hs ha] at LS
  rw [g4] at TS
  generalize asked true ps = q at *
  generalize asked false ps = r at *
  obtain ⟨S, M⟩ := q
  obtain ⟨S', M'⟩ := r
  simp only at LH LS g1 g2 g3
  have i1 : (S' : Int) ≤ (S : Int) := by omega
  have i2 : (M : Int) ≤ 1048576 := by omega
  clear g1 g2 g4 ha ht
  clear hp h hl hl2 hlen hh hs HP
  go_enter Try.func4, Try.ntmps4
  go_wp2_with fail
  refine (RI.out _).mono ?_
  rintro e w1 ⟨rfl, b⟩
  have R1 := Lib.hid (show Below (((w.alloc (.cells #[.int .i64 p.1, .int .i64 p.2.1, .int .i64 p.2.2] 40)).alloc (.cells #[.bool true, .int .i64 0, .int .i64 k] 23)).alloc (.cells #[.bool false, .int .i64 1048576, .int .i64 k] 23)).heap.size (((w.alloc (.cells #[.int .i64 p.1, .int .i64 p.2.1, .int .i64 p.2.2] 40)).alloc (.cells #[.bool true, .int .i64 0, .int .i64 k] 23)).alloc (.cells #[.bool false, .int .i64 1048576, .int .i64 k] 23)) w1 from by
    refine bel_end ?_ b
    repeat (first | with_reducible exact Below.refl _ _ | with_reducible refine bel_alloc ?_ | with_reducible refine bel_drew ?_))
  clear b
  obtain ⟨c1_0, c1_1, c1_2, c1_3, c1_4, c1_5, c1_6, c1_7, c1_8, l1_0, l1_1, l1_2⟩ := cells0 R1.out
  go_wp2_with fail
  refine (TE.out _).mono ?_
  rintro e w2 ⟨rfl, b⟩
  have R2 := Lib.hid (show Below (((w.alloc (.cells #[.int .i64 p.1, .int .i64 p.2.1, .int .i64 p.2.2] 40)).alloc (.cells #[.bool true, .int .i64 0, .int .i64 k] 23)).alloc (.cells #[.bool false, .int .i64 1048576, .int .i64 k] 23)).heap.size (((w.alloc (.cells #[.int .i64 p.1, .int .i64 p.2.1, .int .i64 p.2.2] 40)).alloc (.cells #[.bool true, .int .i64 0, .int .i64 k] 23)).alloc (.cells #[.bool false, .int .i64 1048576, .int .i64 k] 23)) w2 from by
    refine bel_end ?_ b
    repeat (first | with_reducible exact R1.out | with_reducible refine bel_alloc ?_ | with_reducible refine bel_drew ?_))
  clear b
  clear c1_0 c1_1 c1_2 c1_3 c1_4 c1_5 c1_6 c1_7 c1_8 l1_0 l1_1 l1_2
  obtain ⟨c2_0, c2_1, c2_2, c2_3, c2_4, c2_5, c2_6, c2_7, c2_8, l2_0, l2_1, l2_2⟩ := cells0 R2.out
  go_wp2_with fail
  refine (TF.out _).mono ?_
  rintro e w3 ⟨rfl, b⟩
  have R3 := Lib.hid (show Below (((w.alloc (.cells #[.int .i64 p.1, .int .i64 p.2.1, .int .i64 p.2.2] 40)).alloc (.cells #[.bool true, .int .i64 0, .int .i64 k] 23)).alloc (.cells #[.bool false, .int .i64 1048576, .int .i64 k] 23)).heap.size (((w.alloc (.cells #[.int .i64 p.1, .int .i64 p.2.1, .int .i64 p.2.2] 40)).alloc (.cells #[.bool true, .int .i64 0, .int .i64 k] 23)).alloc (.cells #[.bool false, .int .i64 1048576, .int .i64 k] 23)) w3 from by
    refine bel_end ?_ b
    repeat (first | with_reducible exact R2.out | with_reducible refine bel_alloc ?_ | with_reducible refine bel_drew ?_))
  clear b
  clear c2_0 c2_1 c2_2 c2_3 c2_4 c2_5 c2_6 c2_7 c2_8 l2_0 l2_1 l2_2
  obtain ⟨c3_0, c3_1, c3_2, c3_3, c3_4, c3_5, c3_6, c3_7, c3_8, l3_0, l3_1, l3_2⟩ := cells0 R3.out
  go_wp2_with fail
  refine (TH.out _ R3.out).mono ?_
  rintro e w4 ⟨rfl, b⟩
  have R4 := Lib.hid (show Below (((w.alloc (.cells #[.int .i64 p.1, .int .i64 p.2.1, .int .i64 p.2.2] 40)).alloc (.cells #[.bool true, .int .i64 0, .int .i64 k] 23)).alloc (.cells #[.bool false, .int .i64 1048576, .int .i64 k] 23)).heap.size (((w.alloc (.cells #[.int .i64 p.1, .int .i64 p.2.1, .int .i64 p.2.2] 40)).alloc (.cells #[.bool true, .int .i64 0, .int .i64 k] 23)).alloc (.cells #[.bool false, .int .i64 1048576, .int .i64 k] 23)) w4 from by
    refine bel_end ?_ b
    repeat (first | with_reducible exact R3.out | with_reducible refine bel_alloc ?_ | with_reducible refine bel_drew ?_))
  clear b
  clear c3_0 c3_1 c3_2 c3_3 c3_4 c3_5 c3_6 c3_7 c3_8 l3_0 l3_1 l3_2
  obtain ⟨c4_0, c4_1, c4_2, c4_3, c4_4, c4_5, c4_6, c4_7, c4_8, l4_0, l4_1, l4_2⟩ := cells0 R4.out
  go_wp2_with fail
  refine (LH.out _ R4.out).mono ?_
  rintro e w5 ⟨rfl, b⟩
  have R5 := Lib.hid (show Below (((w.alloc (.cells #[.int .i64 p.1, .int .i64 p.2.1, .int .i64 p.2.2] 40)).alloc (.cells #[.bool true, .int .i64 0, .int .i64 k] 23)).alloc (.cells #[.bool false, .int .i64 1048576, .int .i64 k] 23)).heap.size (((w.alloc (.cells #[.int .i64 p.1, .int .i64 p.2.1, .int .i64 p.2.2] 40)).alloc (.cells #[.bool true, .int .i64 0, .int .i64 k] 23)).alloc (.cells #[.bool false, .int .i64 1048576, .int .i64 k] 23)) w5 from by
    refine bel_end ?_ b
    repeat (first | with_reducible exact R4.out | with_reducible refine bel_alloc ?_ | with_reducible refine bel_drew ?_))
  clear b
  clear c4_0 c4_1 c4_2 c4_3 c4_4 c4_5 c4_6 c4_7 c4_8 l4_0 l4_1 l4_2
  obtain ⟨c5_0, c5_1, c5_2, c5_3, c5_4, c5_5, c5_6, c5_7, c5_8, l5_0, l5_1, l5_2⟩ := cells0 R5.out
  go_wp2_with fail
  refine (LS.out _ R5.out).mono ?_
  rintro e w6 ⟨rfl, b⟩
  have R6 := Lib.hid (show Below (((w.alloc (.cells #[.int .i64 p.1, .int .i64 p.2.1, .int .i64 p.2.2] 40)).alloc (.cells #[.bool true, .int .i64 0, .int .i64 k] 23)).alloc (.cells #[.bool false, .int .i64 1048576, .int .i64 k] 23)).heap.size (((w.alloc (.cells #[.int .i64 p.1, .int .i64 p.2.1, .int .i64 p.2.2] 40)).alloc (.cells #[.bool true, .int .i64 0, .int .i64 k] 23)).alloc (.cells #[.bool false, .int .i64 1048576, .int .i64 k] 23)) w6 from by
    refine bel_end ?_ b
    repeat (first | with_reducible exact R5.out | with_reducible refine bel_alloc ?_ | with_reducible refine bel_drew ?_))
  clear b
  clear c5_0 c5_1 c5_2 c5_3 c5_4 c5_5 c5_6 c5_7 c5_8 l5_0 l5_1 l5_2
  obtain ⟨c6_0, c6_1, c6_2, c6_3, c6_4, c6_5, c6_6, c6_7, c6_8, l6_0, l6_1, l6_2⟩ := cells0 R6.out
  go_wp2_with fail
  refine (TS.out _ R6.out).mono ?_
  rintro e w7 ⟨rfl, b⟩
  have R7 := Lib.hid (show Below (((w.alloc (.cells #[.int .i64 p.1, .int .i64 p.2.1, .int .i64 p.2.2] 40)).alloc (.cells #[.bool true, .int .i64 0, .int .i64 k] 23)).alloc (.cells #[.bool false, .int .i64 1048576, .int .i64 k] 23)).heap.size (((w.alloc (.cells #[.int .i64 p.1, .int .i64 p.2.1, .int .i64 p.2.2] 40)).alloc (.cells #[.bool true, .int .i64 0, .int .i64 k] 23)).alloc (.cells #[.bool false, .int .i64 1048576, .int .i64 k] 23)) w7 from by
    refine bel_end ?_ b
    repeat (first | with_reducible exact R6.out | with_reducible refine bel_alloc ?_ | with_reducible refine bel_drew ?_))
  clear b
  clear c6_0 c6_1 c6_2 c6_3 c6_4 c6_5 c6_6 c6_7 c6_8 l6_0 l6_1 l6_2
  have HB := Lib.hid (bel_end (bel_alloc (bel_alloc (bel_alloc (Below.refl w.heap.size w)))) R7.out)
  go_wp2_with (go_at_call 9; refine (awake_yes _).mono ?_; rintro e w' ⟨rfl, hb⟩)
  go_ret
  refine ⟨rfl, bel_end ?_ hb⟩
  repeat (first | with_reducible exact HB.out | with_reducible refine bel_alloc ?_ | with_reducible refine bel_drew ?_)
set_option maxRecDepth 100000 in
set_option maxHeartbeats 4000000 in
theorem not_out (k : Int) (a : Option Addr) (len cap : Nat) (ps : List P3) (p : P3) (w : World) (h : ParamRow w (.slice a len cap) ps) (hk : 1 ≤ k) (hk' : k ≤ 16) (hl : len ≤ 70) (hp : ¬ May p) (ht : testNum true 0 k ps ≠ 0) : Calls Try.prog 4 #[.int .i64 k, .slice a len cap, .agg #[.int .i64 p.1, .int .i64 p.2.1, .int .i64 p.2.2]] w (Yes w) := by
  have hlen := row_len h
  have d0 : decide (k < 1) = false := decide_eq_false (by omega)
  have d1 : decide (16 < k) = false := decide_eq_false (by omega)
  have d2 : decide (70 < (len : Int)) = false := decide_eq_false (by omega)
  have hh : RuleMay 0 k := ⟨by omega, by omega, by omega, by omega⟩
  have hs : RuleMay 1048576 k := ⟨by omega, by omega, by omega, by omega⟩
  have HP := Lib.hid (h.below (bel_alloc (bel_alloc (bel_alloc (Below.refl w.heap.size w))) : Below w.heap.size w (((w.alloc (.cells #[.int .i64 p.1, .int .i64 p.2.1, .int .i64 p.2.2] 40)).alloc (.cells #[.bool true, .int .i64 0, .int .i64 k] 23)).alloc (.cells #[.bool false, .int .i64 1048576, .int .i64 k] 23))))
  have hl2 : ps.length ≤ 1000 := by omega
  have TH := Lib.hid (fun w2 (h2 : Below (((w.alloc (.cells #[.int .i64 p.1, .int .i64 p.2.1, .int .i64 p.2.2] 40)).alloc (.cells #[.bool true, .int .i64 0, .int .i64 k] 23)).alloc (.cells #[.bool false, .int .i64 1048576, .int .i64 k] 23)).heap.size (((w.alloc (.cells #[.int .i64 p.1, .int .i64 p.2.1, .int .i64 p.2.2] 40)).alloc (.cells #[.bool true, .int .i64 0, .int .i64 k] 23)).alloc (.cells #[.bool false, .int .i64 1048576, .int .i64 k] 23)) w2) => test_any true 0 k _ ps w2 (HP.out.below h2) hl2)
  have TE := Lib.hid (fun w2 => test_any true 0 k (.slice none 0 0) [] w2 (.inl ⟨_, _, rfl, rfl⟩) (by simp))
  have TF := Lib.hid (fun w2 => test_any false 1048576 k (.slice none 0 0) [] w2 (.inl ⟨_, _, rfl, rfl⟩) (by simp))
  rw [test_empty hh] at TE
  rw [test_empty hs] at TF
  have RI := Lib.hid (right_any p)
  rw [decide_eq_false hp] at RI
  generalize testNum true 0 k ps = T at *
  have e1 : (T == 0) = false := by simp; exact ht
  have e2 : (T != 0) = true := by simp; exact ht
  clear ht
  clear hp h hl hl2 hlen hh hs HP
  go_enter Try.func4, Try.ntmps4
  go_wp2_with fail
  refine (RI.out _).mono ?_
  rintro e w1 ⟨rfl, b⟩
  have R1 := Lib.hid (show Below (((w.alloc (.cells #[.int .i64 p.1, .int .i64 p.2.1, .int .i64 p.2.2] 40)).alloc (.cells #[.bool true, .int .i64 0, .int .i64 k] 23)).alloc (.cells #[.bool false, .int .i64 1048576, .int .i64 k] 23)).heap.size (((w.alloc (.cells #[.int .i64 p.1, .int .i64 p.2.1, .int .i64 p.2.2] 40)).alloc (.cells #[.bool true, .int .i64 0, .int .i64 k] 23)).alloc (.cells #[.bool false, .int .i64 1048576, .int .i64 k] 23)) w1 from by
    refine bel_end ?_ b
    repeat (first | with_reducible exact Below.refl _ _ | with_reducible refine bel_alloc ?_ | with_reducible refine bel_drew ?_))
  clear b
  obtain ⟨c1_0, c1_1, c1_2, c1_3, c1_4, c1_5, c1_6, c1_7, c1_8, l1_0, l1_1, l1_2⟩ := cells0 R1.out
  go_wp2_with fail
  refine (TE.out _).mono ?_
  rintro e w2 ⟨rfl, b⟩
  have R2 := Lib.hid (show Below (((w.alloc (.cells #[.int .i64 p.1, .int .i64 p.2.1, .int .i64 p.2.2] 40)).alloc (.cells #[.bool true, .int .i64 0, .int .i64 k] 23)).alloc (.cells #[.bool false, .int .i64 1048576, .int .i64 k] 23)).heap.size (((w.alloc (.cells #[.int .i64 p.1, .int .i64 p.2.1, .int .i64 p.2.2] 40)).alloc (.cells #[.bool true, .int .i64 0, .int .i64 k] 23)).alloc (.cells #[.bool false, .int .i64 1048576, .int .i64 k] 23)) w2 from by
    refine bel_end ?_ b
    repeat (first | with_reducible exact R1.out | with_reducible refine bel_alloc ?_ | with_reducible refine bel_drew ?_))
  clear b
  clear c1_0 c1_1 c1_2 c1_3 c1_4 c1_5 c1_6 c1_7 c1_8 l1_0 l1_1 l1_2
  obtain ⟨c2_0, c2_1, c2_2, c2_3, c2_4, c2_5, c2_6, c2_7, c2_8, l2_0, l2_1, l2_2⟩ := cells0 R2.out
  go_wp2_with fail
  refine (TF.out _).mono ?_
  rintro e w3 ⟨rfl, b⟩
  have R3 := Lib.hid (show Below (((w.alloc (.cells #[.int .i64 p.1, .int .i64 p.2.1, .int .i64 p.2.2] 40)).alloc (.cells #[.bool true, .int .i64 0, .int .i64 k] 23)).alloc (.cells #[.bool false, .int .i64 1048576, .int .i64 k] 23)).heap.size (((w.alloc (.cells #[.int .i64 p.1, .int .i64 p.2.1, .int .i64 p.2.2] 40)).alloc (.cells #[.bool true, .int .i64 0, .int .i64 k] 23)).alloc (.cells #[.bool false, .int .i64 1048576, .int .i64 k] 23)) w3 from by
    refine bel_end ?_ b
    repeat (first | with_reducible exact R2.out | with_reducible refine bel_alloc ?_ | with_reducible refine bel_drew ?_))
  clear b
  clear c2_0 c2_1 c2_2 c2_3 c2_4 c2_5 c2_6 c2_7 c2_8 l2_0 l2_1 l2_2
  obtain ⟨c3_0, c3_1, c3_2, c3_3, c3_4, c3_5, c3_6, c3_7, c3_8, l3_0, l3_1, l3_2⟩ := cells0 R3.out
  go_wp2_with fail
  refine (TH.out _ R3.out).mono ?_
  rintro e w4 ⟨rfl, b⟩
  have R4 := Lib.hid (show Below (((w.alloc (.cells #[.int .i64 p.1, .int .i64 p.2.1, .int .i64 p.2.2] 40)).alloc (.cells #[.bool true, .int .i64 0, .int .i64 k] 23)).alloc (.cells #[.bool false, .int .i64 1048576, .int .i64 k] 23)).heap.size (((w.alloc (.cells #[.int .i64 p.1, .int .i64 p.2.1, .int .i64 p.2.2] 40)).alloc (.cells #[.bool true, .int .i64 0, .int .i64 k] 23)).alloc (.cells #[.bool false, .int .i64 1048576, .int .i64 k] 23)) w4 from by
    refine bel_end ?_ b
    repeat (first | with_reducible exact R3.out | with_reducible refine bel_alloc ?_ | with_reducible refine bel_drew ?_))
  clear b
  clear c3_0 c3_1 c3_2 c3_3 c3_4 c3_5 c3_6 c3_7 c3_8 l3_0 l3_1 l3_2
  obtain ⟨c4_0, c4_1, c4_2, c4_3, c4_4, c4_5, c4_6, c4_7, c4_8, l4_0, l4_1, l4_2⟩ := cells0 R4.out
  have HB := Lib.hid (bel_end (bel_alloc (bel_alloc (bel_alloc (Below.refl w.heap.size w)))) R4.out)
  go_wp2_with (go_at_call 9; refine (awake_yes _).mono ?_; rintro e w' ⟨rfl, hb⟩)
  go_ret
  refine ⟨rfl, bel_end ?_ hb⟩
  repeat (first | with_reducible exact HB.out | with_reducible refine bel_alloc ?_ | with_reducible refine bel_drew ?_)
theorem walk (k : Int) (v : Value) (ps : List P3) (q d t : Int) (w : World) (_ : (Lit.int .i64 k).wf = true) (hps : ParamRow w v ps) (_ : ∀ p ∈ ps, Fit3 p) (_ : ps.length ≤ maxLen) (_ : (Lit.int .i64 q).wf = true) (_ : (Lit.int .i64 d).wf = true) (_ : (Lit.int .i64 t).wf = true) : Calls Try.prog 4 #[.int .i64 k, v, .agg #[.int .i64 q, .int .i64 d, .int .i64 t]] w (Yes w) := by
  obtain ⟨a, len, cap, rfl⟩ := row_slice hps
  by_cases h1 : k < 1
  · exact low k a len cap (q, d, t) w h1
  by_cases h2 : 16 < k
  · exact high k a len cap (q, d, t) w h1 h2
  by_cases h3 : 70 < len
  · exact many k a len cap (q, d, t) w h1 h2 h3
  by_cases hp : May (q, d, t)
  · by_cases ht : testNum true 0 k ps = 0
    · exact may_in k a len cap ps (q, d, t) w hps (by omega) (by omega) (by omega) hp ht
    · exact may_out k a len cap ps (q, d, t) w hps (by omega) (by omega) (by omega) hp ht
  · by_cases ht : testNum true 0 k ps = 0
    · exact not_in k a len cap ps (q, d, t) w hps (by omega) (by omega) (by omega) hp ht
    · exact not_out k a len cap ps (q, d, t) w hps (by omega) (by omega) (by omega) hp ht

set_option maxRecDepth 100000 in
theorem lifted (os : Os) (started : os.Started) (H : Type) (enc : TypeId × Value → H) :
    ReturnsInHanded {} Try.checked os 4 .any (Rows.admitHardSpec.pre6 enc Try.prog Try.f4 Rows.admitHardRow.domain false) (Rows.admitHardSpec.post enc Try.prog Try.f4 false true false false) := by
  refine returnsInHanded_of_change (C := Try.checked) own started (by kernel_rfl) Try.func4
    (ChangeSpec.witness6 (enc := enc) (C := Try.checked) false ⟨#[], #[.int .i64 0, .slice none 0 0, .agg #[.int .i64 0, .int .i64 0, .int .i64 0]], []⟩ 8 (by kernel_rfl) (by kernel_rfl) (by kernel_rfl) (by kernel_rfl)) ?_
  intro W base args ds gs before hval0 hW hcnd _
  have hval : ∀ (j : Nat) t v, Try.f4.params[j]? = some t → args[j]? = some v → Value.okWide Try.prog W .any base t v := hval0
  have hW' := hW
  obtain ⟨p, q, hA0, hV, _, hfz, hnd⟩ := hW'
  have hA : DataW.TrodAll enc Try.prog W 0 (fun _ => true) true Try.f4.params.toList args.toList ds p := hA0
  rw [Try.params4] at hA hval
  obtain ⟨v0, v1, v2, d0, d1, d2, p0, p1, p2, rfl, _, _, h0, h1, h2⟩ := trodAll_three hA
  obtain ⟨k, rfl, _, _, wk⟩ := open_int Try.underlying3 (hval 0 3 v0 rfl rfl) h0
  obtain ⟨ps, hps, fps, lps⟩ := open_params Try.underlying24 Try.underlying40 (by kernel_rfl) (fun i hi => by match i, hi with | 0, _ => exact ⟨_, rfl, rfl, by kernel_rfl, Try.underlying3⟩ | 1, _ => exact ⟨_, rfl, rfl, by kernel_rfl, Try.underlying3⟩ | 2, _ => exact ⟨_, rfl, rfl, by kernel_rfl, Try.underlying3⟩) (hval 1 24 v1 rfl rfl) h1
  obtain ⟨c20, c21, c22, y20, y21, y22, m2, rfl, _, _, hy20, hy21, hy22⟩ := open_agg3 Try.underlying40 (by kernel_rfl) (by kernel_rfl) (hval 2 40 v2 rfl rfl) h2
  obtain ⟨q, e20, _, wq⟩ := DataW.trod_int Try.underlying3 hy20
  obtain ⟨d, e21, _, wd⟩ := DataW.trod_int Try.underlying3 hy21
  obtain ⟨t, e22, _, wt⟩ := DataW.trod_int Try.underlying3 hy22
  simp at e20 e21 e22
  subst e20 e21 e22
  refine (walk k v1 ps q d t W wk hps fps lps wq wd wt).mono fun e W' h => ?_
  exact law_post (f := Try.f4) rfl rfl Try.underlying4 (by kernel_rfl) (fun ds hd => by
    match ds, hd with
    | [_, _, _], _ => rfl) hW h

theorem over : Rows.admitHardRow.holds Try.pinned (OpenSpec.ofChange Rows.admitHardSpec) :=
  OpenClaim.holds_of_wide 4 Try.f4 rfl rfl rfl rfl rfl rfl rfl ⟨rfl, rfl, rfl, rfl, rfl⟩ rfl rfl rfl rfl rfl (by kernel_rfl) Try.func4 (by kernel_rfl)
    (of_decide_eq_true (by kernel_rfl)) (by unfold Func.isWrapper; first | (rw [if_pos (by decide +kernel)]; kernel_rfl) | (rw [if_neg (by decide +kernel)]; exact ⟨rfl, rfl⟩))
    (fun os started H enc _ => lifted os started H enc)

/-- THE STATEMENT. -/
theorem proved : Rows.AdmitHardSaid := over
end Go.Proofs.Ytoagdaenbanhlaa.admitHard
