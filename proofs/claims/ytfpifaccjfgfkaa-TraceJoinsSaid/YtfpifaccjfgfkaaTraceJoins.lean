/- TraceJoins answers true at every charges, every server and every three times. No condition. -/
import Derived.Test.YtfpifaccjfgfkaaTraceMade
import Derived.BigQuiet
namespace Go.Proofs.Ytfpifaccjfgfkaa.traceJoins
open Go.ChangeShapes Go.WideShapes Go.ChangeAt Go.RowKit Go.Deep Go.Joins
attribute [local go_sem] Oper.semAt_some

theorem in_joins (a b c : Int) (ha : a ≤ b) (hb : b ≤ c) (x : VC) : inWin a b x.1 + inWin b c x.1 ≤ inWin a c x.1 := by
  obtain ⟨x, hx⟩ := x
  obtain ⟨_, _, _, _, _, _, x1, x2, x3, x4, x5⟩ := hx
  unfold inWin
  dsimp only
  split <;> split <;> split <;> omega
theorem both_joins (f t a b c : Int) (ha : a ≤ b) (hb : b ≤ c) (hf : f < t) : bothOf f t a b + bothOf f t b c = bothOf f t a c := by
  unfold bothOf
  omega
theorem at_joins (a b c : Int) (ha : a ≤ b) (hb : b ≤ c) (x : VC) : atWin a c x.1 ≤ atWin a b x.1 + atWin b c x.1 := by
  obtain ⟨x, hx⟩ := x
  obtain ⟨_, _, _, _, _, _, x1, x2, x3, x4, x5⟩ := hx
  have h := both_joins x.fr x.to a b c ha hb x2
  have h1 : 0 ≤ bothOf x.fr x.to a b := by unfold bothOf; omega
  have h2 : 0 ≤ bothOf x.fr x.to b c := by unfold bothOf; omega
  unfold atWin
  dsimp only
  omega
theorem busy_joins (k a b c : Int) (ha : a ≤ b) (hb : b ≤ c) (x : VC) : busyWin k a b x.1 + busyWin k b c x.1 = busyWin k a c x.1 := by
  obtain ⟨x, hx⟩ := x
  obtain ⟨_, _, _, _, _, _, x1, x2, x3, x4, x5⟩ := hx
  have h := both_joins x.fr x.to a b c ha hb x2
  unfold busyWin
  dsimp only
  split <;> omega
set_option maxRecDepth 100000 in
set_option maxHeartbeats 600000 in
theorem many (o : Option Addr) (len cap : Nat) (l : List Chg) (n a b c : Int) (w : World) (_ : ChgRow w (.slice o len cap) l) (hl : 20 < len) : Calls Try.prog 6 #[.slice o len cap, .int .i64 n, .agg #[.int .i64 a, .int .i64 b, .int .i64 c]] w (Gives (.bool true) w) := by
  have d1 : decide (20 < (len : Int)) = true := decide_eq_true (by omega)
  go_enter Try.func6, Try.ntmps6
  go_wp2_with fail
  refine (new_any _).mono ?_
  rintro e w1 ⟨rfl, hT, hb⟩
  have HB1 := Lib.hid ((bel_alloc (Below.refl w.heap.size w)).trans (hb.mono (by simp)))
  clear hT hb
  go_wp2_with fail
  refine (awake_true _).mono ?_
  rintro e w9 ⟨rfl, b9⟩
  have HE := Lib.hid (HB1.out.trans (b9.mono HB1.out.size))
  clear b9
  go_wp2_with fail
  go_ret
  exact ⟨rfl, HE.out⟩
set_option maxRecDepth 100000 in
set_option maxHeartbeats 600000 in
theorem neg (o : Option Addr) (len cap : Nat) (l : List Chg) (n a b c : Int) (w : World) (_ : ChgRow w (.slice o len cap) l) (hl : ¬ 20 < len) (hn : n < 0) : Calls Try.prog 6 #[.slice o len cap, .int .i64 n, .agg #[.int .i64 a, .int .i64 b, .int .i64 c]] w (Gives (.bool true) w) := by
  have d1 : decide (20 < (len : Int)) = false := decide_eq_false (by omega)
  have d2 : decide (n < 0) = true := decide_eq_true (by omega)
  go_enter Try.func6, Try.ntmps6
  go_wp2_with fail
  refine (new_any _).mono ?_
  rintro e w1 ⟨rfl, hT, hb⟩
  have HB1 := Lib.hid ((bel_alloc (Below.refl w.heap.size w)).trans (hb.mono (by simp)))
  clear hT hb
  go_wp2_with fail
  refine (awake_true _).mono ?_
  rintro e w9 ⟨rfl, b9⟩
  have HE := Lib.hid (HB1.out.trans (b9.mono HB1.out.size))
  clear b9
  go_wp2_with fail
  go_ret
  exact ⟨rfl, HE.out⟩
set_option maxRecDepth 100000 in
set_option maxHeartbeats 600000 in
theorem big (o : Option Addr) (len cap : Nat) (l : List Chg) (n a b c : Int) (w : World) (_ : ChgRow w (.slice o len cap) l) (hl : ¬ 20 < len) (hn : ¬ n < 0) (hm : 15 < n) : Calls Try.prog 6 #[.slice o len cap, .int .i64 n, .agg #[.int .i64 a, .int .i64 b, .int .i64 c]] w (Gives (.bool true) w) := by
  have d1 : decide (20 < (len : Int)) = false := decide_eq_false (by omega)
  have d2 : decide (n < 0) = false := decide_eq_false (by omega)
  have d3 : decide (15 < n) = true := decide_eq_true (by omega)
  go_enter Try.func6, Try.ntmps6
  go_wp2_with fail
  refine (new_any _).mono ?_
  rintro e w1 ⟨rfl, hT, hb⟩
  have HB1 := Lib.hid ((bel_alloc (Below.refl w.heap.size w)).trans (hb.mono (by simp)))
  clear hT hb
  go_wp2_with fail
  refine (awake_true _).mono ?_
  rintro e w9 ⟨rfl, b9⟩
  have HE := Lib.hid (HB1.out.trans (b9.mono HB1.out.size))
  clear b9
  go_wp2_with fail
  go_ret
  exact ⟨rfl, HE.out⟩
set_option maxRecDepth 100000 in
set_option maxHeartbeats 600000 in
theorem bad (o : Option Addr) (len cap : Nat) (l : List Chg) (n a b c : Int) (w : World) (h : ChgRow w (.slice o len cap) l) (hl : ¬ 20 < len) (hn : ¬ n < 0) (hm : ¬ 15 < n) (ha : (addAll [] l).2 ≠ 0) : Calls Try.prog 6 #[.slice o len cap, .int .i64 n, .agg #[.int .i64 a, .int .i64 b, .int .i64 c]] w (Gives (.bool true) w) := by
  have hnot := add_not ha
  have e1 : ((addAll [] l).2 == 0) = false := by rw [beq_eq_false_iff_ne]; exact ha
  have e2 : ((addAll [] l).2 != 0) = true := by rw [bne_iff_ne]; exact ha
  have d1 : decide (20 < (len : Int)) = false := decide_eq_false (by omega)
  have d2 : decide (n < 0) = false := decide_eq_false (by omega)
  have d3 : decide (15 < n) = false := decide_eq_false (by omega)
  go_enter Try.func6, Try.ntmps6
  go_wp2_with fail
  refine (new_any _).mono ?_
  rintro e w1 ⟨rfl, hT, hb⟩
  have HB1 := Lib.hid ((bel_alloc (Below.refl w.heap.size w)).trans (hb.mono (by simp)))
  have sz0 : (w.alloc (.cells #[.int .i64 a, .int .i64 b, .int .i64 c] 41)).heap.size = w.heap.size + 1 := by simp
  rw [sz0] at hT
  have HT := Lib.hid (hT.base (B := w.heap.size))
  have AD := Lib.hid (add_fresh w.heap.size _ _ l w w1 h HB1.out (by omega) HT.out HB1.out.size (by have := row_len h; omega))
  have cb0 := (hb.cell (p := ⟨w.heap.size, 0, none⟩) (by simp)).trans (show _ = some (Value.int .i64 a) by go_simp)
  have cb1 := (hb.cell (p := ⟨w.heap.size, 1, none⟩) (by simp)).trans (show _ = some (Value.int .i64 b) by go_simp)
  have cb2 := (hb.cell (p := ⟨w.heap.size, 2, none⟩) (by simp)).trans (show _ = some (Value.int .i64 c) by go_simp)
  clear hT hb h
  go_wp2_with fail
  refine AD.out.mono ?_
  rintro e w2 ⟨he, v2, hT2, hO, _⟩
  have hb2 := added_below (B := w.heap.size + 1) hO (by have := cell_lt cb0; omega) (by omega)
  have HB2 := Lib.hid (HB1.out.trans (hb2.mono (Nat.le_succ _)))
  replace cb0 := (hb2.cell (p := ⟨w.heap.size, 0, none⟩) (by simp)).trans cb0
  replace cb1 := (hb2.cell (p := ⟨w.heap.size, 1, none⟩) (by simp)).trans cb1
  replace cb2 := (hb2.cell (p := ⟨w.heap.size, 2, none⟩) (by simp)).trans cb2
  clear hO hb2 AD HT
  subst he
  rw [hnot] at hT2
  have LN := Lib.hid (len_any w.heap.size _ v2 [] w2 hT2)
  clear hT2 ha hnot
  generalize (addAll [] l).2 = E at *
  go_wp2_with fail
  refine LN.out.mono ?_
  rintro e w3 ⟨rfl, rfl⟩
  go_wp2_with fail
  refine (awake_true _).mono ?_
  rintro e w9 ⟨rfl, b9⟩
  have HE := Lib.hid (HB2.out.trans (b9.mono HB2.out.size))
  clear b9
  go_wp2_with fail
  go_ret
  exact ⟨rfl, HE.out⟩
set_option maxRecDepth 100000 in
set_option maxHeartbeats 600000 in
theorem w1 (o : Option Addr) (len cap : Nat) (l : List Chg) (n a b c : Int) (w : World) (h : ChgRow w (.slice o len cap) l) (hl : ¬ 20 < len) (hn : ¬ n < 0) (hm : ¬ 15 < n) (ha : (addAll [] l).2 = 0) (ka : a < 0) : Calls Try.prog 6 #[.slice o len cap, .int .i64 n, .agg #[.int .i64 a, .int .i64 b, .int .i64 c]] w (Gives (.bool true) w) := by
  have d1 : decide (20 < (len : Int)) = false := decide_eq_false (by omega)
  have d2 : decide (n < 0) = false := decide_eq_false (by omega)
  have d3 : decide (15 < n) = false := decide_eq_false (by omega)
  have d4 : decide (a < 0) = true := decide_eq_true (by omega)
  go_enter Try.func6, Try.ntmps6
  go_wp2_with fail
  refine (new_any _).mono ?_
  rintro e w1 ⟨rfl, hT, hb⟩
  have HB1 := Lib.hid ((bel_alloc (Below.refl w.heap.size w)).trans (hb.mono (by simp)))
  have sz0 : (w.alloc (.cells #[.int .i64 a, .int .i64 b, .int .i64 c] 41)).heap.size = w.heap.size + 1 := by simp
  rw [sz0] at hT
  have HT := Lib.hid (hT.base (B := w.heap.size))
  have AD := Lib.hid (add_fresh w.heap.size _ _ l w w1 h HB1.out (by omega) HT.out HB1.out.size (by have := row_len h; omega))
  have cb0 := (hb.cell (p := ⟨w.heap.size, 0, none⟩) (by simp)).trans (show _ = some (Value.int .i64 a) by go_simp)
  have cb1 := (hb.cell (p := ⟨w.heap.size, 1, none⟩) (by simp)).trans (show _ = some (Value.int .i64 b) by go_simp)
  have cb2 := (hb.cell (p := ⟨w.heap.size, 2, none⟩) (by simp)).trans (show _ = some (Value.int .i64 c) by go_simp)
  clear hT hb h
  go_wp2_with fail
  refine AD.out.mono ?_
  rintro e w2 ⟨he, v2, hT2, hO, _⟩
  have hb2 := added_below (B := w.heap.size + 1) hO (by have := cell_lt cb0; omega) (by omega)
  have HB2 := Lib.hid (HB1.out.trans (hb2.mono (Nat.le_succ _)))
  replace cb0 := (hb2.cell (p := ⟨w.heap.size, 0, none⟩) (by simp)).trans cb0
  replace cb1 := (hb2.cell (p := ⟨w.heap.size, 1, none⟩) (by simp)).trans cb1
  replace cb2 := (hb2.cell (p := ⟨w.heap.size, 2, none⟩) (by simp)).trans cb2
  clear hO hb2 AD HT
  subst he
  rw [ha]
  clear hT2 ha
  go_wp2_with fail
  refine (awake_true _).mono ?_
  rintro e w9 ⟨rfl, b9⟩
  have HE := Lib.hid (HB2.out.trans (b9.mono HB2.out.size))
  clear b9
  go_wp2_with fail
  go_ret
  exact ⟨rfl, HE.out⟩
set_option maxRecDepth 100000 in
set_option maxHeartbeats 600000 in
theorem w2 (o : Option Addr) (len cap : Nat) (l : List Chg) (n a b c : Int) (w : World) (h : ChgRow w (.slice o len cap) l) (hl : ¬ 20 < len) (hn : ¬ n < 0) (hm : ¬ 15 < n) (ha : (addAll [] l).2 = 0) (ka : ¬ a < 0) (kb : b < a) : Calls Try.prog 6 #[.slice o len cap, .int .i64 n, .agg #[.int .i64 a, .int .i64 b, .int .i64 c]] w (Gives (.bool true) w) := by
  have d1 : decide (20 < (len : Int)) = false := decide_eq_false (by omega)
  have d2 : decide (n < 0) = false := decide_eq_false (by omega)
  have d3 : decide (15 < n) = false := decide_eq_false (by omega)
  have d4 : decide (a < 0) = false := decide_eq_false (by omega)
  have d5 : decide (b < a) = true := decide_eq_true (by omega)
  go_enter Try.func6, Try.ntmps6
  go_wp2_with fail
  refine (new_any _).mono ?_
  rintro e w1 ⟨rfl, hT, hb⟩
  have HB1 := Lib.hid ((bel_alloc (Below.refl w.heap.size w)).trans (hb.mono (by simp)))
  have sz0 : (w.alloc (.cells #[.int .i64 a, .int .i64 b, .int .i64 c] 41)).heap.size = w.heap.size + 1 := by simp
  rw [sz0] at hT
  have HT := Lib.hid (hT.base (B := w.heap.size))
  have AD := Lib.hid (add_fresh w.heap.size _ _ l w w1 h HB1.out (by omega) HT.out HB1.out.size (by have := row_len h; omega))
  have cb0 := (hb.cell (p := ⟨w.heap.size, 0, none⟩) (by simp)).trans (show _ = some (Value.int .i64 a) by go_simp)
  have cb1 := (hb.cell (p := ⟨w.heap.size, 1, none⟩) (by simp)).trans (show _ = some (Value.int .i64 b) by go_simp)
  have cb2 := (hb.cell (p := ⟨w.heap.size, 2, none⟩) (by simp)).trans (show _ = some (Value.int .i64 c) by go_simp)
  clear hT hb h
  go_wp2_with fail
  refine AD.out.mono ?_
  rintro e w2 ⟨he, v2, hT2, hO, _⟩
  have hb2 := added_below (B := w.heap.size + 1) hO (by have := cell_lt cb0; omega) (by omega)
  have HB2 := Lib.hid (HB1.out.trans (hb2.mono (Nat.le_succ _)))
  replace cb0 := (hb2.cell (p := ⟨w.heap.size, 0, none⟩) (by simp)).trans cb0
  replace cb1 := (hb2.cell (p := ⟨w.heap.size, 1, none⟩) (by simp)).trans cb1
  replace cb2 := (hb2.cell (p := ⟨w.heap.size, 2, none⟩) (by simp)).trans cb2
  clear hO hb2 AD HT
  subst he
  rw [ha]
  clear hT2 ha
  go_wp2_with fail
  refine (awake_true _).mono ?_
  rintro e w9 ⟨rfl, b9⟩
  have HE := Lib.hid (HB2.out.trans (b9.mono HB2.out.size))
  clear b9
  go_wp2_with fail
  go_ret
  exact ⟨rfl, HE.out⟩
set_option maxRecDepth 100000 in
set_option maxHeartbeats 600000 in
theorem w3 (o : Option Addr) (len cap : Nat) (l : List Chg) (n a b c : Int) (w : World) (h : ChgRow w (.slice o len cap) l) (hl : ¬ 20 < len) (hn : ¬ n < 0) (hm : ¬ 15 < n) (ha : (addAll [] l).2 = 0) (ka : ¬ a < 0) (kb : ¬ b < a) (kc : c < b) : Calls Try.prog 6 #[.slice o len cap, .int .i64 n, .agg #[.int .i64 a, .int .i64 b, .int .i64 c]] w (Gives (.bool true) w) := by
  have d1 : decide (20 < (len : Int)) = false := decide_eq_false (by omega)
  have d2 : decide (n < 0) = false := decide_eq_false (by omega)
  have d3 : decide (15 < n) = false := decide_eq_false (by omega)
  have d4 : decide (a < 0) = false := decide_eq_false (by omega)
  have d5 : decide (b < a) = false := decide_eq_false (by omega)
  have d6 : decide (c < b) = true := decide_eq_true (by omega)
  go_enter Try.func6, Try.ntmps6
  go_wp2_with fail
  refine (new_any _).mono ?_
  rintro e w1 ⟨rfl, hT, hb⟩
  have HB1 := Lib.hid ((bel_alloc (Below.refl w.heap.size w)).trans (hb.mono (by simp)))
  have sz0 : (w.alloc (.cells #[.int .i64 a, .int .i64 b, .int .i64 c] 41)).heap.size = w.heap.size + 1 := by simp
  rw [sz0] at hT
  have HT := Lib.hid (hT.base (B := w.heap.size))
  have AD := Lib.hid (add_fresh w.heap.size _ _ l w w1 h HB1.out (by omega) HT.out HB1.out.size (by have := row_len h; omega))
  have cb0 := (hb.cell (p := ⟨w.heap.size, 0, none⟩) (by simp)).trans (show _ = some (Value.int .i64 a) by go_simp)
  have cb1 := (hb.cell (p := ⟨w.heap.size, 1, none⟩) (by simp)).trans (show _ = some (Value.int .i64 b) by go_simp)
  have cb2 := (hb.cell (p := ⟨w.heap.size, 2, none⟩) (by simp)).trans (show _ = some (Value.int .i64 c) by go_simp)
  clear hT hb h
  go_wp2_with fail
  refine AD.out.mono ?_
  rintro e w2 ⟨he, v2, hT2, hO, _⟩
  have hb2 := added_below (B := w.heap.size + 1) hO (by have := cell_lt cb0; omega) (by omega)
  have HB2 := Lib.hid (HB1.out.trans (hb2.mono (Nat.le_succ _)))
  replace cb0 := (hb2.cell (p := ⟨w.heap.size, 0, none⟩) (by simp)).trans cb0
  replace cb1 := (hb2.cell (p := ⟨w.heap.size, 1, none⟩) (by simp)).trans cb1
  replace cb2 := (hb2.cell (p := ⟨w.heap.size, 2, none⟩) (by simp)).trans cb2
  clear hO hb2 AD HT
  subst he
  rw [ha]
  clear hT2 ha
  go_wp2_with fail
  refine (awake_true _).mono ?_
  rintro e w9 ⟨rfl, b9⟩
  have HE := Lib.hid (HB2.out.trans (b9.mono HB2.out.size))
  clear b9
  go_wp2_with fail
  go_ret
  exact ⟨rfl, HE.out⟩
set_option maxRecDepth 100000 in
set_option maxHeartbeats 600000 in
theorem w4 (o : Option Addr) (len cap : Nat) (l : List Chg) (n a b c : Int) (w : World) (h : ChgRow w (.slice o len cap) l) (hl : ¬ 20 < len) (hn : ¬ n < 0) (hm : ¬ 15 < n) (ha : (addAll [] l).2 = 0) (ka : ¬ a < 0) (kb : ¬ b < a) (kc : ¬ c < b) (kd : 1099511627776 ≤ c) : Calls Try.prog 6 #[.slice o len cap, .int .i64 n, .agg #[.int .i64 a, .int .i64 b, .int .i64 c]] w (Gives (.bool true) w) := by
  have d1 : decide (20 < (len : Int)) = false := decide_eq_false (by omega)
  have d2 : decide (n < 0) = false := decide_eq_false (by omega)
  have d3 : decide (15 < n) = false := decide_eq_false (by omega)
  have d4 : decide (a < 0) = false := decide_eq_false (by omega)
  have d5 : decide (b < a) = false := decide_eq_false (by omega)
  have d6 : decide (c < b) = false := decide_eq_false (by omega)
  have d7 : decide (1099511627776 ≤ c) = true := decide_eq_true (by omega)
  go_enter Try.func6, Try.ntmps6
  go_wp2_with fail
  refine (new_any _).mono ?_
  rintro e w1 ⟨rfl, hT, hb⟩
  have HB1 := Lib.hid ((bel_alloc (Below.refl w.heap.size w)).trans (hb.mono (by simp)))
  have sz0 : (w.alloc (.cells #[.int .i64 a, .int .i64 b, .int .i64 c] 41)).heap.size = w.heap.size + 1 := by simp
  rw [sz0] at hT
  have HT := Lib.hid (hT.base (B := w.heap.size))
  have AD := Lib.hid (add_fresh w.heap.size _ _ l w w1 h HB1.out (by omega) HT.out HB1.out.size (by have := row_len h; omega))
  have cb0 := (hb.cell (p := ⟨w.heap.size, 0, none⟩) (by simp)).trans (show _ = some (Value.int .i64 a) by go_simp)
  have cb1 := (hb.cell (p := ⟨w.heap.size, 1, none⟩) (by simp)).trans (show _ = some (Value.int .i64 b) by go_simp)
  have cb2 := (hb.cell (p := ⟨w.heap.size, 2, none⟩) (by simp)).trans (show _ = some (Value.int .i64 c) by go_simp)
  clear hT hb h
  go_wp2_with fail
  refine AD.out.mono ?_
  rintro e w2 ⟨he, v2, hT2, hO, _⟩
  have hb2 := added_below (B := w.heap.size + 1) hO (by have := cell_lt cb0; omega) (by omega)
  have HB2 := Lib.hid (HB1.out.trans (hb2.mono (Nat.le_succ _)))
  replace cb0 := (hb2.cell (p := ⟨w.heap.size, 0, none⟩) (by simp)).trans cb0
  replace cb1 := (hb2.cell (p := ⟨w.heap.size, 1, none⟩) (by simp)).trans cb1
  replace cb2 := (hb2.cell (p := ⟨w.heap.size, 2, none⟩) (by simp)).trans cb2
  clear hO hb2 AD HT
  subst he
  rw [ha]
  clear hT2 ha
  go_wp2_with fail
  refine (awake_true _).mono ?_
  rintro e w9 ⟨rfl, b9⟩
  have HE := Lib.hid (HB2.out.trans (b9.mono HB2.out.size))
  clear b9
  go_wp2_with fail
  go_ret
  exact ⟨rfl, HE.out⟩
set_option maxRecDepth 100000 in
set_option maxHeartbeats 600000 in
theorem good (o : Option Addr) (len cap : Nat) (l : List Chg) (n a b c : Int) (w : World) (h : ChgRow w (.slice o len cap) l) (hl : ¬ 20 < len) (hn : ¬ n < 0) (hm : ¬ 15 < n) (ha : (addAll [] l).2 = 0) (ka : ¬ a < 0) (kb : ¬ b < a) (kc : ¬ c < b) (kd : ¬ 1099511627776 ≤ c) : Calls Try.prog 6 #[.slice o len cap, .int .i64 n, .agg #[.int .i64 a, .int .i64 b, .int .i64 c]] w (Gives (.bool true) w) := by
  obtain ⟨hz, hv, _⟩ := add_zero ha
  have hll : l.length ≤ 20 := by have := row_len h; omega
  obtain ⟨ys, hys⟩ := vcs l hv
  have hyl : ys.length ≤ 20 := by rw [← List.length_map (f := fun z : VC => z.1), hys]; exact hll
  have hol : (ofServer n ys).length ≤ 20 := Nat.le_trans (List.length_filter_le _ _) hyl
  have BX0 := sumOf_le (fun z => inWin a b z.1) _ (inWin_bound a b) (ofServer n ys)
  have BX1 := sumOf_le (fun z => inWin b c z.1) _ (inWin_bound b c) (ofServer n ys)
  have BX2 := sumOf_le (fun z => inWin a c z.1) _ (inWin_bound a c) (ofServer n ys)
  have BX3 := sumOf_le (fun z => atWin a b z.1) _ (atWin_bound a b) (ofServer n ys)
  have BX4 := sumOf_le (fun z => atWin b c z.1) _ (atWin_bound b c) (ofServer n ys)
  have BX5 := sumOf_le (fun z => atWin a c z.1) _ (atWin_bound a c) (ofServer n ys)
  have BX6 := sumOf_le (fun z => busyWin n a b z.1) _ (busyWin_bound n a b) ys
  have BX7 := sumOf_le (fun z => busyWin n b c z.1) _ (busyWin_bound n b c) ys
  have BX8 := sumOf_le (fun z => busyWin n a c z.1) _ (busyWin_bound n a c) ys
  have J1 : sumOf (fun z => inWin a b z.1) (ofServer n ys) + sumOf (fun z => inWin b c z.1) (ofServer n ys) ≤ sumOf (fun z => inWin a c z.1) (ofServer n ys) := by
    rw [← sumOf_add]; exact sumOf_mono (fun z => in_joins a b c (by omega) (by omega) z) _
  have J2 : sumOf (fun z => atWin a c z.1) (ofServer n ys) ≤ sumOf (fun z => atWin a b z.1) (ofServer n ys) + sumOf (fun z => atWin b c z.1) (ofServer n ys) := by
    rw [← sumOf_add]; exact sumOf_mono (fun z => at_joins a b c (by omega) (by omega) z) _
  have J3 : sumOf (fun z => busyWin n a b z.1) ys + sumOf (fun z => busyWin n b c z.1) ys = sumOf (fun z => busyWin n a c z.1) ys := by
    rw [← sumOf_add]; congr 1; funext z; exact busy_joins n a b c (by omega) (by omega) z
  have CX0 := Lib.hid (fun (v2 : Value) (g : Nat) (w2 : World) (hT : TAt w2 w.heap.size g v2 (ys.map (·.1))) => within_t_any w.heap.size g v2 ys n a b w2 (by omega) hT)
  rw [told_ok (ask_ok (by omega) (by omega) (by omega) (by omega) (by omega))] at CX0
  have CX1 := Lib.hid (fun (v2 : Value) (g : Nat) (w2 : World) (hT : TAt w2 w.heap.size g v2 (ys.map (·.1))) => within_t_any w.heap.size g v2 ys n b c w2 (by omega) hT)
  rw [told_ok (ask_ok (by omega) (by omega) (by omega) (by omega) (by omega))] at CX1
  have CX2 := Lib.hid (fun (v2 : Value) (g : Nat) (w2 : World) (hT : TAt w2 w.heap.size g v2 (ys.map (·.1))) => within_t_any w.heap.size g v2 ys n a c w2 (by omega) hT)
  rw [told_ok (ask_ok (by omega) (by omega) (by omega) (by omega) (by omega))] at CX2
  have CX3 := Lib.hid (fun (v2 : Value) (g : Nat) (w2 : World) (hT : TAt w2 w.heap.size g v2 (ys.map (·.1))) => touch_t_any w.heap.size g v2 ys n a b w2 (by omega) hT)
  rw [told_ok (ask_ok (by omega) (by omega) (by omega) (by omega) (by omega))] at CX3
  have CX4 := Lib.hid (fun (v2 : Value) (g : Nat) (w2 : World) (hT : TAt w2 w.heap.size g v2 (ys.map (·.1))) => touch_t_any w.heap.size g v2 ys n b c w2 (by omega) hT)
  rw [told_ok (ask_ok (by omega) (by omega) (by omega) (by omega) (by omega))] at CX4
  have CX5 := Lib.hid (fun (v2 : Value) (g : Nat) (w2 : World) (hT : TAt w2 w.heap.size g v2 (ys.map (·.1))) => touch_t_any w.heap.size g v2 ys n a c w2 (by omega) hT)
  rw [told_ok (ask_ok (by omega) (by omega) (by omega) (by omega) (by omega))] at CX5
  have CX6 := Lib.hid (fun (v2 : Value) (g : Nat) (w2 : World) (hT : TAt w2 w.heap.size g v2 (ys.map (·.1))) => busy_t_any w.heap.size g v2 ys n a b w2 (by omega) hT)
  rw [told_ok (ask_ok (by omega) (by omega) (by omega) (by omega) (by omega))] at CX6
  have CX7 := Lib.hid (fun (v2 : Value) (g : Nat) (w2 : World) (hT : TAt w2 w.heap.size g v2 (ys.map (·.1))) => busy_t_any w.heap.size g v2 ys n b c w2 (by omega) hT)
  rw [told_ok (ask_ok (by omega) (by omega) (by omega) (by omega) (by omega))] at CX7
  have CX8 := Lib.hid (fun (v2 : Value) (g : Nat) (w2 : World) (hT : TAt w2 w.heap.size g v2 (ys.map (·.1))) => busy_t_any w.heap.size g v2 ys n a c w2 (by omega) hT)
  rw [told_ok (ask_ok (by omega) (by omega) (by omega) (by omega) (by omega))] at CX8
  generalize sumOf (fun z : VC => inWin a b z.1) (ofServer n ys) = X0 at *
  generalize sumOf (fun z : VC => inWin b c z.1) (ofServer n ys) = X1 at *
  generalize sumOf (fun z : VC => inWin a c z.1) (ofServer n ys) = X2 at *
  generalize sumOf (fun z : VC => atWin a b z.1) (ofServer n ys) = X3 at *
  generalize sumOf (fun z : VC => atWin b c z.1) (ofServer n ys) = X4 at *
  generalize sumOf (fun z : VC => atWin a c z.1) (ofServer n ys) = X5 at *
  generalize sumOf (fun z : VC => busyWin n a b z.1) ys = X6 at *
  generalize sumOf (fun z : VC => busyWin n b c z.1) ys = X7 at *
  generalize sumOf (fun z : VC => busyWin n a c z.1) ys = X8 at *
  have hm1 : (((ofServer n ys).length : Nat) : Int) * 1099511627776 ≤ 21990232555520 := by omega
  have hm2 : ((ys.length : Nat) : Int) * 1099511627776 ≤ 21990232555520 := by omega
  have bX0 : 0 ≤ X0 ∧ X0 ≤ 21990232555520 := ⟨BX0.1, by have := BX0.2; omega⟩
  have bX1 : 0 ≤ X1 ∧ X1 ≤ 21990232555520 := ⟨BX1.1, by have := BX1.2; omega⟩
  have bX2 : 0 ≤ X2 ∧ X2 ≤ 21990232555520 := ⟨BX2.1, by have := BX2.2; omega⟩
  have bX3 : 0 ≤ X3 ∧ X3 ≤ 21990232555520 := ⟨BX3.1, by have := BX3.2; omega⟩
  have bX4 : 0 ≤ X4 ∧ X4 ≤ 21990232555520 := ⟨BX4.1, by have := BX4.2; omega⟩
  have bX5 : 0 ≤ X5 ∧ X5 ≤ 21990232555520 := ⟨BX5.1, by have := BX5.2; omega⟩
  have bX6 : 0 ≤ X6 ∧ X6 ≤ 21990232555520 := ⟨BX6.1, by have := BX6.2; omega⟩
  have bX7 : 0 ≤ X7 ∧ X7 ≤ 21990232555520 := ⟨BX7.1, by have := BX7.2; omega⟩
  have bX8 : 0 ≤ X8 ∧ X8 ≤ 21990232555520 := ⟨BX8.1, by have := BX8.2; omega⟩
  clear BX0 BX1 BX2 BX3 BX4 BX5 BX6 BX7 BX8 hm1 hm2 hol hyl hll hv
  have d4 : decide (a < 0) = false := decide_eq_false (by omega)
  have d5 : decide (b < a) = false := decide_eq_false (by omega)
  have d6 : decide (c < b) = false := decide_eq_false (by omega)
  have d7 : decide (1099511627776 ≤ c) = false := decide_eq_false (by omega)
  have d1 : decide (20 < (len : Int)) = false := decide_eq_false (by omega)
  have d2 : decide (n < 0) = false := decide_eq_false (by omega)
  have d3 : decide (15 < n) = false := decide_eq_false (by omega)
  go_enter Try.func6, Try.ntmps6
  go_wp2_with fail
  refine (new_any _).mono ?_
  rintro e w1 ⟨rfl, hT, hb⟩
  have HB1 := Lib.hid ((bel_alloc (Below.refl w.heap.size w)).trans (hb.mono (by simp)))
  have sz0 : (w.alloc (.cells #[.int .i64 a, .int .i64 b, .int .i64 c] 41)).heap.size = w.heap.size + 1 := by simp
  rw [sz0] at hT
  have HT := Lib.hid (hT.base (B := w.heap.size))
  have AD := Lib.hid (add_fresh w.heap.size _ _ l w w1 h HB1.out (by omega) HT.out HB1.out.size (by have := row_len h; omega))
  have cb0 := (hb.cell (p := ⟨w.heap.size, 0, none⟩) (by simp)).trans (show _ = some (Value.int .i64 a) by go_simp)
  have cb1 := (hb.cell (p := ⟨w.heap.size, 1, none⟩) (by simp)).trans (show _ = some (Value.int .i64 b) by go_simp)
  have cb2 := (hb.cell (p := ⟨w.heap.size, 2, none⟩) (by simp)).trans (show _ = some (Value.int .i64 c) by go_simp)
  clear hT hb h
  go_wp2_with fail
  refine AD.out.mono ?_
  rintro e w2 ⟨he, v2, hT2, hO, _⟩
  have hb2 := added_below (B := w.heap.size + 1) hO (by have := cell_lt cb0; omega) (by omega)
  have HB2 := Lib.hid (HB1.out.trans (hb2.mono (Nat.le_succ _)))
  replace cb0 := (hb2.cell (p := ⟨w.heap.size, 0, none⟩) (by simp)).trans cb0
  replace cb1 := (hb2.cell (p := ⟨w.heap.size, 1, none⟩) (by simp)).trans cb1
  replace cb2 := (hb2.cell (p := ⟨w.heap.size, 2, none⟩) (by simp)).trans cb2
  clear hO hb2 AD HT
  subst he
  rw [hz, ← hys] at hT2
  rw [ha]
  have HT2 := Lib.hid hT2
  clear hT2 ha hz hys
  go_wp2_with fail
  refine (CX0.out v2 _ w2 HT2.out).mono ?_
  rintro e w3 ⟨rfl, b3⟩
  have HT3 := Lib.hid (HT2.out.below b3)
  have HB3 := Lib.hid (HB2.out.trans (b3.mono HB2.out.size))
  clear b3 CX0 HT2 HB2
  go_wp2_with fail
  refine (CX1.out v2 _ w3 HT3.out).mono ?_
  rintro e w4 ⟨rfl, b4⟩
  have HT4 := Lib.hid (HT3.out.below b4)
  have HB4 := Lib.hid (HB3.out.trans (b4.mono HB3.out.size))
  clear b4 CX1 HT3 HB3
  go_wp2_with fail
  refine (CX2.out v2 _ w4 HT4.out).mono ?_
  rintro e w5 ⟨rfl, b5⟩
  have HT5 := Lib.hid (HT4.out.below b5)
  have HB5 := Lib.hid (HB4.out.trans (b5.mono HB4.out.size))
  clear b5 CX2 HT4 HB4
  go_wp2_with fail
  refine (CX3.out v2 _ w5 HT5.out).mono ?_
  rintro e w6 ⟨rfl, b6⟩
  have HT6 := Lib.hid (HT5.out.below b6)
  have HB6 := Lib.hid (HB5.out.trans (b6.mono HB5.out.size))
  clear b6 CX3 HT5 HB5
  go_wp2_with fail
  refine (CX4.out v2 _ w6 HT6.out).mono ?_
  rintro e w7 ⟨rfl, b7⟩
  have HT7 := Lib.hid (HT6.out.below b7)
  have HB7 := Lib.hid (HB6.out.trans (b7.mono HB6.out.size))
  clear b7 CX4 HT6 HB6
  go_wp2_with fail
  refine (CX5.out v2 _ w7 HT7.out).mono ?_
  rintro e w8 ⟨rfl, b8⟩
  have HT8 := Lib.hid (HT7.out.below b8)
  have HB8 := Lib.hid (HB7.out.trans (b8.mono HB7.out.size))
  clear b8 CX5 HT7 HB7
  go_wp2_with fail
  refine (CX6.out v2 _ w8 HT8.out).mono ?_
  rintro e w20 ⟨rfl, b20⟩
  have HT20 := Lib.hid (HT8.out.below b20)
  have HB20 := Lib.hid (HB8.out.trans (b20.mono HB8.out.size))
  clear b20 CX6 HT8 HB8
  go_wp2_with fail
  refine (CX7.out v2 _ w20 HT20.out).mono ?_
  rintro e w21 ⟨rfl, b21⟩
  have HT21 := Lib.hid (HT20.out.below b21)
  have HB21 := Lib.hid (HB20.out.trans (b21.mono HB20.out.size))
  clear b21 CX7 HT20 HB20
  go_wp2_with fail
  refine (CX8.out v2 _ w21 HT21.out).mono ?_
  rintro e w22 ⟨rfl, b22⟩
  have HT22 := Lib.hid (HT21.out.below b22)
  have HB22 := Lib.hid (HB21.out.trans (b22.mono HB21.out.size))
  clear b22 CX8 HT21 HB21
  clear HT22
  have f1 : decide (X0 + X1 ≤ X2) = true := decide_eq_true J1
  have f2 : decide (X5 ≤ X3 + X4) = true := decide_eq_true J2
  have f3 : (X6 + X7 == X8) = true := by rw [beq_iff_eq]; exact J3
  go_wp2_with fail
  refine (awake_true _).mono ?_
  rintro e w9 ⟨rfl, b9⟩
  have HE := Lib.hid (HB22.out.trans (b9.mono HB22.out.size))
  clear b9
  go_wp2_with fail
  go_ret
  exact ⟨rfl, HE.out⟩
theorem walk (v : Value) (l : List Chg) (n a b c : Int) (w : World) (h : ChgRow w v l) (_ : ∀ x ∈ l, Fit6 x) (_ : SliceOk v) (_ : (Lit.int .i64 n).wf = true) (_ : (Lit.int .i64 a).wf = true) (_ : (Lit.int .i64 b).wf = true) (_ : (Lit.int .i64 c).wf = true) :
    Calls Try.prog 6 #[v, .int .i64 n, .agg #[.int .i64 a, .int .i64 b, .int .i64 c]] w (Gives (.bool true) w) := by
  obtain ⟨o, len, cap, rfl⟩ := row_slice h
  by_cases hl : 20 < len
  · exact many o len cap l n a b c w h hl
  by_cases hn : n < 0
  · exact neg o len cap l n a b c w h hl hn
  by_cases hm : 15 < n
  · exact big o len cap l n a b c w h hl hn hm
  by_cases ha : (addAll [] l).2 = 0
  · by_cases ka : a < 0
    · exact w1 o len cap l n a b c w h hl hn hm ha ka
    by_cases kb : b < a
    · exact w2 o len cap l n a b c w h hl hn hm ha ka kb
    by_cases kc : c < b
    · exact w3 o len cap l n a b c w h hl hn hm ha ka kb kc
    by_cases kd : 1099511627776 ≤ c
    · exact w4 o len cap l n a b c w h hl hn hm ha ka kb kc kd
    · exact good o len cap l n a b c w h hl hn hm ha ka kb kc kd
  · exact bad o len cap l n a b c w h hl hn hm ha

set_option maxRecDepth 100000 in
theorem lifted (os : Os) (started : os.Started) (H : Type) (enc : TypeId × Value → H) :
    ReturnsInHanded {} Try.checked os 6 .any (Rows.traceJoinsSpec.pre6 enc Try.prog Try.f6 Rows.traceJoinsRow.domain false) (Rows.traceJoinsSpec.post enc Try.prog Try.f6 false true false false) := by
  refine returnsInHanded_of_change (C := Try.checked) own started (by kernel_rfl) Try.func6
    (ChangeSpec.witness6 (enc := enc) (C := Try.checked) false ⟨#[], #[.slice none 0 0, .int .i64 0, .agg #[.int .i64 0, .int .i64 0, .int .i64 0]], []⟩ 8 (by kernel_rfl) (by kernel_rfl) (by kernel_rfl) (by kernel_rfl)) ?_
  intro W base args ds gs before hval0 hW hcnd _
  have hval : ∀ (j : Nat) t v, Try.f6.params[j]? = some t → args[j]? = some v → Value.okWide Try.prog W .any base t v := hval0
  have hW' := hW
  obtain ⟨p, q, hA0, hV, _, hfz, hnd⟩ := hW'
  have hA : DataW.TrodAll enc Try.prog W 0 (fun _ => true) true Try.f6.params.toList args.toList ds p := hA0
  rw [Try.params6] at hA hval
  obtain ⟨v0, v1, v2, d0, d1, d2, p0, p1, p2, rfl, _, _, h0, h1, h2⟩ := trodAll_three hA
  obtain ⟨l, hl, fl, kl⟩ := open_charges Try.underlying40 Try.underlying50 (by kernel_rfl) (fun i hi => by match i, hi with | 0, _ => exact ⟨_, rfl, rfl, by kernel_rfl, Try.underlying3⟩ | 1, _ => exact ⟨_, rfl, rfl, by kernel_rfl, Try.underlying3⟩ | 2, _ => exact ⟨_, rfl, rfl, by kernel_rfl, Try.underlying3⟩ | 3, _ => exact ⟨_, rfl, rfl, by kernel_rfl, Try.underlying3⟩ | 4, _ => exact ⟨_, rfl, rfl, by kernel_rfl, Try.underlying3⟩ | 5, _ => exact ⟨_, rfl, rfl, by kernel_rfl, Try.underlying3⟩) (hval 0 40 v0 rfl rfl) h0
  obtain ⟨n, rfl, _, _, wn⟩ := open_int Try.underlying3 (hval 1 3 v1 rfl rfl) h1
  obtain ⟨a, b, c, rfl, wa, wb, wc⟩ := open_arr3 Try.underlying41 Try.underlying3 (by kernel_rfl) (by kernel_rfl) (hval 2 41 v2 rfl rfl) h2
  refine (walk v0 l n a b c W hl fl kl wn wa wb wc).mono fun e W' h => ?_
  exact law_post (f := Try.f6) rfl rfl Try.underlying4 (by kernel_rfl) (fun ds hd => by
    match ds, hd with
    | [_, _, _], _ => rfl) hW h

theorem over : Rows.traceJoinsRow.holds Try.pinned (OpenSpec.ofChange Rows.traceJoinsSpec) :=
  OpenClaim.holds_of_wide 6 Try.f6 rfl rfl rfl rfl rfl rfl rfl ⟨rfl, rfl, rfl, rfl, rfl⟩ rfl rfl rfl rfl rfl (by kernel_rfl) Try.func6 (by kernel_rfl)
    (of_decide_eq_true (by kernel_rfl)) (by unfold Func.isWrapper; first | (rw [if_pos (by decide +kernel)]; kernel_rfl) | (rw [if_neg (by decide +kernel)]; exact ⟨rfl, rfl⟩))
    (fun os started H enc _ => lifted os started H enc)

/-- THE STATEMENT. -/
theorem proved : Rows.TraceJoinsSaid := over
end Go.Proofs.Ytfpifaccjfgfkaa.traceJoins
