/- TraceSplits answers true at every charges, every charge and every part. No condition. -/
import Derived.Test.YtfpifaccjfgfkaaTraceSplitLaw
import Derived.Test.YtfpifaccjfgfkaaTraceCollect
import Derived.BigQuiet
namespace Go.Proofs.Ytfpifaccjfgfkaa.traceSplits
open Go.ChangeShapes Go.WideShapes Go.ChangeAt Go.RowKit Go.Deep Go.Joins
attribute [local go_sem] Oper.semAt_some

theorem row_new (c : Chg) (U : World) : ChgRow (U.alloc (.cells #[.int .i64 c.sv, .int .i64 c.wk, .int .i64 c.th, .int .i64 c.fr, .int .i64 c.to, .int .i64 c.n] 50)) (.slice (some ⟨U.heap.size, 0, none⟩) 1 1) [c] :=
  .inr ⟨U.heap.size, 0, 1, rfl, by simp, by simp, fun j hj => by
    obtain rfl : j = 0 := by simpa using hj
    exact box6_new c U⟩
theorem row_two (x y : Chg) (U : World) : ChgRow (U.alloc (.cells #[.int .i64 x.sv, .int .i64 x.wk, .int .i64 x.th, .int .i64 x.fr, .int .i64 x.to, .int .i64 x.n, .int .i64 y.sv, .int .i64 y.wk, .int .i64 y.th, .int .i64 y.fr, .int .i64 y.to, .int .i64 y.n] 50)) (.slice (some ⟨U.heap.size, 0, none⟩) 2 2) [x, y] := by
  refine .inr ⟨U.heap.size, 0, 2, rfl, by simp, by simp, fun j hj => ?_⟩
  match j, hj with
  | 0, _ => exact ⟨by simp, by simp, by simp, by simp, by simp, by simp⟩
  | 1, _ => exact ⟨by simp, by simp, by simp, by simp, by simp, by simp⟩
theorem six_of {c : Chg} {w wx : World} (h : Below (w.alloc (.cells #[.int .i64 c.sv, .int .i64 c.wk, .int .i64 c.th, .int .i64 c.fr, .int .i64 c.to, .int .i64 c.n] 50)).heap.size (w.alloc (.cells #[.int .i64 c.sv, .int .i64 c.wk, .int .i64 c.th, .int .i64 c.fr, .int .i64 c.to, .int .i64 c.n] 50)) wx) : Box6 c w.heap.size wx ∧ w.heap.size + 1 ≤ wx.heap.size := by
  have hs := h.size
  simp at hs
  have hb := box6_new c w
  have hl : w.heap.size < (w.alloc (.cells #[.int .i64 c.sv, .int .i64 c.wk, .int .i64 c.th, .int .i64 c.fr, .int .i64 c.to, .int .i64 c.n] 50)).heap.size := by simp
  exact ⟨⟨(h.cell hl).trans hb.1, (h.cell hl).trans hb.2.1, (h.cell hl).trans hb.2.2.1, (h.cell hl).trans hb.2.2.2.1, (h.cell hl).trans hb.2.2.2.2.1, (h.cell hl).trans hb.2.2.2.2.2⟩, hs⟩
set_option maxRecDepth 100000 in
set_option maxHeartbeats 1000000 in
theorem many (o : Option Addr) (len cap : Nat) (l : List Chg) (c : Chg) (p : Int) (w : World) (_ : ChgRow w (.slice o len cap) l) (hl : 19 < len) : Calls Try.prog 7 #[.slice o len cap, .agg #[.int .i64 c.sv, .int .i64 c.wk, .int .i64 c.th, .int .i64 c.fr, .int .i64 c.to, .int .i64 c.n], .int .i64 p] w (Gives (.bool true) w) := by
  have d1 : decide (19 < (len : Int)) = true := decide_eq_true (by omega)
  have R0 : Below w.heap.size w (w.alloc (.cells #[.int .i64 c.sv, .int .i64 c.wk, .int .i64 c.th, .int .i64 c.fr, .int .i64 c.to, .int .i64 c.n] 50)) := bel_alloc (Below.refl _ _)
  go_enter Try.func7, Try.ntmps7
  go_wp2_with fail
  refine (awake_true _).mono ?_
  rintro e1 w90 ⟨rfl, b90⟩
  have HE := Lib.hid (R0.trans (b90.mono (R0).size))
  clear b90
  go_wp2_with fail
  go_ret
  exact ⟨rfl, HE.out⟩
set_option maxRecDepth 100000 in
set_option maxHeartbeats 1000000 in
theorem neg (o : Option Addr) (len cap : Nat) (l : List Chg) (c : Chg) (p : Int) (w : World) (_ : ChgRow w (.slice o len cap) l) (hl : ¬ 19 < len) (hp : p < 0) : Calls Try.prog 7 #[.slice o len cap, .agg #[.int .i64 c.sv, .int .i64 c.wk, .int .i64 c.th, .int .i64 c.fr, .int .i64 c.to, .int .i64 c.n], .int .i64 p] w (Gives (.bool true) w) := by
  have d1 : decide (19 < (len : Int)) = false := decide_eq_false (by omega)
  have d2 : decide (p < 0) = true := decide_eq_true (by omega)
  have R0 : Below w.heap.size w (w.alloc (.cells #[.int .i64 c.sv, .int .i64 c.wk, .int .i64 c.th, .int .i64 c.fr, .int .i64 c.to, .int .i64 c.n] 50)) := bel_alloc (Below.refl _ _)
  go_enter Try.func7, Try.ntmps7
  go_wp2_with fail
  refine (awake_true _).mono ?_
  rintro e1 w90 ⟨rfl, b90⟩
  have HE := Lib.hid (R0.trans (b90.mono (R0).size))
  clear b90
  go_wp2_with fail
  go_ret
  exact ⟨rfl, HE.out⟩
set_option maxRecDepth 100000 in
set_option maxHeartbeats 1000000 in
theorem big (o : Option Addr) (len cap : Nat) (l : List Chg) (c : Chg) (p : Int) (w : World) (_ : ChgRow w (.slice o len cap) l) (hl : ¬ 19 < len) (hp : ¬ p < 0) (hq : 1000 < p) : Calls Try.prog 7 #[.slice o len cap, .agg #[.int .i64 c.sv, .int .i64 c.wk, .int .i64 c.th, .int .i64 c.fr, .int .i64 c.to, .int .i64 c.n], .int .i64 p] w (Gives (.bool true) w) := by
  have d1 : decide (19 < (len : Int)) = false := decide_eq_false (by omega)
  have d2 : decide (p < 0) = false := decide_eq_false (by omega)
  have d3 : decide (1000 < p) = true := decide_eq_true (by omega)
  have R0 : Below w.heap.size w (w.alloc (.cells #[.int .i64 c.sv, .int .i64 c.wk, .int .i64 c.th, .int .i64 c.fr, .int .i64 c.to, .int .i64 c.n] 50)) := bel_alloc (Below.refl _ _)
  go_enter Try.func7, Try.ntmps7
  go_wp2_with fail
  refine (awake_true _).mono ?_
  rintro e1 w90 ⟨rfl, b90⟩
  have HE := Lib.hid (R0.trans (b90.mono (R0).size))
  clear b90
  go_wp2_with fail
  go_ret
  exact ⟨rfl, HE.out⟩
set_option maxRecDepth 100000 in
set_option maxHeartbeats 1000000 in
theorem bad1 (o : Option Addr) (len cap : Nat) (l : List Chg) (c : Chg) (p : Int) (w : World) (h : ChgRow w (.slice o len cap) l) (hl : ¬ 19 < len) (hp : ¬ p < 0) (hq : ¬ 1000 < p) (ha : (addAll [] l).2 ≠ 0) : Calls Try.prog 7 #[.slice o len cap, .agg #[.int .i64 c.sv, .int .i64 c.wk, .int .i64 c.th, .int .i64 c.fr, .int .i64 c.to, .int .i64 c.n], .int .i64 p] w (Gives (.bool true) w) := by
  have e1 : ((addAll [] l).2 == 0) = false := by rw [beq_eq_false_iff_ne]; exact ha
  have e2 : ((addAll [] l).2 != 0) = true := by rw [bne_iff_ne]; exact ha
  have d1 : decide (19 < (len : Int)) = false := decide_eq_false (by omega)
  have d2 : decide (p < 0) = false := decide_eq_false (by omega)
  have d3 : decide (1000 < p) = false := decide_eq_false (by omega)
  have R0 : Hid (Below (w.alloc (.cells #[.int .i64 c.sv, .int .i64 c.wk, .int .i64 c.th, .int .i64 c.fr, .int .i64 c.to, .int .i64 c.n] 50)).heap.size (w.alloc (.cells #[.int .i64 c.sv, .int .i64 c.wk, .int .i64 c.th, .int .i64 c.fr, .int .i64 c.to, .int .i64 c.n] 50)) (w.alloc (.cells #[.int .i64 c.sv, .int .i64 c.wk, .int .i64 c.th, .int .i64 c.fr, .int .i64 c.to, .int .i64 c.n] 50))) := Lib.hid (Below.refl _ _)
  have HW0 : Hid (Below w.heap.size w (w.alloc (.cells #[.int .i64 c.sv, .int .i64 c.wk, .int .i64 c.th, .int .i64 c.fr, .int .i64 c.to, .int .i64 c.n] 50))) := Lib.hid (bel_alloc (Below.refl _ _))
  have sz0 : (w.alloc (.cells #[.int .i64 c.sv, .int .i64 c.wk, .int .i64 c.th, .int .i64 c.fr, .int .i64 c.to, .int .i64 c.n] 50)).heap.size = w.heap.size + 1 := by simp
  have hlen := row_len h
  subst hlen
  have HP := Lib.hid h
  clear h
  go_enter Try.func7, Try.ntmps7
  go_wp2_with fail
  refine (new_any _).mono ?_
  rintro e w1 ⟨rfl, hT, hb⟩
  rw [sz0] at hT
  have R1 := Lib.hid hb
  have HT1 := Lib.hid (hT.base (B := w.heap.size))
  have l1 := hT.lt
  clear hT hb
  go_wp2_with fail
  refine (new_any _).mono ?_
  rintro e w2 ⟨rfl, hU, hc⟩
  have R2 := Lib.hid (R1.out.trans (hc.mono R1.out.size))
  have HT2 := Lib.hid (HT1.out.below hc)
  have HU2 := Lib.hid (hU.base (B := w.heap.size))
  have lu := hU.lt
  clear hU hc HT1
  have AD := Lib.hid (add_fresh w.heap.size (w.heap.size + 1) _ l w w2 HP.out (HW0.out.trans (R2.out.mono HW0.out.size)) (by omega) HT2.out (by omega) (by omega))
  go_wp2_with fail
  refine AD.out.mono ?_
  rintro e w3 ⟨he, v3, hT3, hO3, hr3⟩
  subst he
  have hb3 := added_below (B := (w.alloc (.cells #[.int .i64 c.sv, .int .i64 c.wk, .int .i64 c.th, .int .i64 c.fr, .int .i64 c.to, .int .i64 c.n] 50)).heap.size) hO3 (by omega) (by omega)
  have R3 := Lib.hid (R2.out.trans hb3)
  have HU3 := Lib.hid (HU2.out.keep hO3 (fun hs => by
    rcases hs with hs | hs
    · omega
    · simp [Value.ownBlock] at hs) (fun r e => by simp [Value.ownBlock] at e))
  have hs3 := hO3.size
  clear AD HT2 HU2 hb3
  clear hT3 hO3 hr3 ha HU3
  generalize (addAll [] l).2 = E at *
  go_wp2_with fail
  refine (awake_true _).mono ?_
  rintro e1 w90 ⟨rfl, b90⟩
  have HX := Lib.hid (HW0.out.trans (R3.out.mono HW0.out.size))
  have HE := Lib.hid (HX.out.trans (b90.mono (HX.out).size))
  clear b90
  go_wp2_with fail
  go_ret
  exact ⟨rfl, HE.out⟩
set_option maxRecDepth 100000 in
set_option maxHeartbeats 1000000 in
theorem bad2 (o : Option Addr) (len cap : Nat) (l : List Chg) (c : Chg) (p : Int) (w : World) (h : ChgRow w (.slice o len cap) l) (hl : ¬ 19 < len) (hp : ¬ p < 0) (hq : ¬ 1000 < p) (ha : (addAll [] l).2 = 0) (hc2 : (addAll l [c]).2 ≠ 0) : Calls Try.prog 7 #[.slice o len cap, .agg #[.int .i64 c.sv, .int .i64 c.wk, .int .i64 c.th, .int .i64 c.fr, .int .i64 c.to, .int .i64 c.n], .int .i64 p] w (Gives (.bool true) w) := by
  obtain ⟨hz, hv, hcalm⟩ := add_zero ha
  have e1 : ((addAll l [c]).2 == 0) = false := by rw [beq_eq_false_iff_ne]; exact hc2
  have e2 : ((addAll l [c]).2 != 0) = true := by rw [bne_iff_ne]; exact hc2
  have d1 : decide (19 < (len : Int)) = false := decide_eq_false (by omega)
  have d2 : decide (p < 0) = false := decide_eq_false (by omega)
  have d3 : decide (1000 < p) = false := decide_eq_false (by omega)
  have R0 : Hid (Below (w.alloc (.cells #[.int .i64 c.sv, .int .i64 c.wk, .int .i64 c.th, .int .i64 c.fr, .int .i64 c.to, .int .i64 c.n] 50)).heap.size (w.alloc (.cells #[.int .i64 c.sv, .int .i64 c.wk, .int .i64 c.th, .int .i64 c.fr, .int .i64 c.to, .int .i64 c.n] 50)) (w.alloc (.cells #[.int .i64 c.sv, .int .i64 c.wk, .int .i64 c.th, .int .i64 c.fr, .int .i64 c.to, .int .i64 c.n] 50))) := Lib.hid (Below.refl _ _)
  have HW0 : Hid (Below w.heap.size w (w.alloc (.cells #[.int .i64 c.sv, .int .i64 c.wk, .int .i64 c.th, .int .i64 c.fr, .int .i64 c.to, .int .i64 c.n] 50))) := Lib.hid (bel_alloc (Below.refl _ _))
  have sz0 : (w.alloc (.cells #[.int .i64 c.sv, .int .i64 c.wk, .int .i64 c.th, .int .i64 c.fr, .int .i64 c.to, .int .i64 c.n] 50)).heap.size = w.heap.size + 1 := by simp
  have hlen := row_len h
  subst hlen
  have HP := Lib.hid h
  clear h
  go_enter Try.func7, Try.ntmps7
  go_wp2_with fail
  refine (new_any _).mono ?_
  rintro e w1 ⟨rfl, hT, hb⟩
  rw [sz0] at hT
  have R1 := Lib.hid hb
  have HT1 := Lib.hid (hT.base (B := w.heap.size))
  have l1 := hT.lt
  clear hT hb
  go_wp2_with fail
  refine (new_any _).mono ?_
  rintro e w2 ⟨rfl, hU, hc⟩
  have R2 := Lib.hid (R1.out.trans (hc.mono R1.out.size))
  have HT2 := Lib.hid (HT1.out.below hc)
  have HU2 := Lib.hid (hU.base (B := w.heap.size))
  have lu := hU.lt
  clear hU hc HT1
  have AD := Lib.hid (add_fresh w.heap.size (w.heap.size + 1) _ l w w2 HP.out (HW0.out.trans (R2.out.mono HW0.out.size)) (by omega) HT2.out (by omega) (by omega))
  go_wp2_with fail
  refine AD.out.mono ?_
  rintro e w3 ⟨he, v3, hT3, hO3, hr3⟩
  subst he
  have hb3 := added_below (B := (w.alloc (.cells #[.int .i64 c.sv, .int .i64 c.wk, .int .i64 c.th, .int .i64 c.fr, .int .i64 c.to, .int .i64 c.n] 50)).heap.size) hO3 (by omega) (by omega)
  have R3 := Lib.hid (R2.out.trans hb3)
  have HU3 := Lib.hid (HU2.out.keep hO3 (fun hs => by
    rcases hs with hs | hs
    · omega
    · simp [Value.ownBlock] at hs) (fun r e => by simp [Value.ownBlock] at e))
  have hs3 := hO3.size
  clear AD HT2 HU2 hb3
  have AU := Lib.hid (add_fresh w.heap.size w1.heap.size _ l w w3 HP.out (HW0.out.trans (R3.out.mono HW0.out.size)) (by omega) HU3.out (by omega) (by omega))
  obtain ⟨⟨a0, a1, a2, a3, a4, a5⟩, aw⟩ := six_of R3.out
  rw [ha]
  rw [hz] at hT3
  clear HU3
  go_wp2_with fail
  refine AU.out.mono ?_
  rintro e w4 ⟨he, v4, hT4, hO4, hr4⟩
  subst he
  rw [hz] at hT4
  rw [ha]
  have hb4 := added_below (B := (w.alloc (.cells #[.int .i64 c.sv, .int .i64 c.wk, .int .i64 c.th, .int .i64 c.fr, .int .i64 c.to, .int .i64 c.n] 50)).heap.size) hO4 (by omega) (by omega)
  have R4 := Lib.hid (R3.out.trans hb4)
  have HU4 := Lib.hid hT4
  have HT4 := Lib.hid (hT3.keep hO4 (fun hs => by
    rcases hs with hs | hs
    · omega
    · simp [Value.ownBlock] at hs) (fun r e hs => by
    rcases hs with hs | hs
    · rcases hr3 r e with h1 | h1
      · simp [Value.ownBlock] at h1
      · omega
    · simp [Value.ownBlock] at hs))
  have hs4 := hO4.size
  have hov3 : ∀ r, v3.ownBlock = some r → r < w3.heap.size := fun r e => (World.ownsRow.lt hT3.own r e).2
  have hov4 : ∀ r, v4.ownBlock = some r → r < w4.heap.size := fun r e => (World.ownsRow.lt HU4.out.own r e).2
  clear AU hT3 hT4 hb4 hO3 hO4 a0 a1 a2 a3 a4 a5 aw
  obtain ⟨⟨a0, a1, a2, a3, a4, a5⟩, aw⟩ := six_of R4.out
  have l4 := HT4.out.lt
  have hov : ∀ r, v3.ownBlock = some r → r < w4.heap.size := fun r e => (World.ownsRow.lt HT4.out.own r e).2
  have AC := Lib.hid (add_any w.heap.size (w.heap.size + 1) v3 _ l [c] (w4.alloc (.cells #[.int .i64 c.sv, .int .i64 c.wk, .int .i64 c.th, .int .i64 c.fr, .int .i64 c.to, .int .i64 c.n] 50)) (by simp; omega) (HT4.out.below (bel_alloc (Below.refl _ _))) (row_new c w4) (fun r e => by
    have e' : w4.heap.size = r := by simpa [Value.ownBlock] using e
    subst e'
    exact ⟨by omega, fun e2 => by have := hov _ e2; omega⟩) hv (by simp; omega))
  go_wp2_with fail
  refine AC.out.mono ?_
  rintro e w5 ⟨he, v5, hT5, hO5, hr5⟩
  subst he
  have hb5 := hO5.below (B := (w.alloc (.cells #[.int .i64 c.sv, .int .i64 c.wk, .int .i64 c.th, .int .i64 c.fr, .int .i64 c.to, .int .i64 c.n] 50)).heap.size) (by simp; omega) (fun k hk => by
    rcases hk with rfl | hk
    · omega
    · rcases hr3 k hk with h1 | h1
      · simp [Value.ownBlock] at h1
      · omega)
  have R5 := Lib.hid ((bel_end (R4.out) (bel_alloc (Below.refl _ _))).trans hb5)
  clear hT5 hO5 hr5 hc2 a0 a1 a2 a3 a4 a5 aw AC hb5
  generalize (addAll l [c]).2 = E at *
  go_wp2_with fail
  refine (awake_true _).mono ?_
  rintro e1 w90 ⟨rfl, b90⟩
  have HX := Lib.hid (HW0.out.trans (R5.out.mono HW0.out.size))
  have HE := Lib.hid (HX.out.trans (b90.mono (HX.out).size))
  clear b90
  go_wp2_with fail
  go_ret
  exact ⟨rfl, HE.out⟩
set_option maxRecDepth 100000 in
set_option maxHeartbeats 1000000 in
theorem bad3 (o : Option Addr) (len cap : Nat) (l : List Chg) (c : Chg) (p : Int) (w : World) (h : ChgRow w (.slice o len cap) l) (hl : ¬ 19 < len) (hp : ¬ p < 0) (hq : ¬ 1000 < p) (ha : (addAll [] l).2 = 0) (hc2 : (addAll l [c]).2 = 0) (k1 : (c.to - c.fr) * p / 1000 < 1) : Calls Try.prog 7 #[.slice o len cap, .agg #[.int .i64 c.sv, .int .i64 c.wk, .int .i64 c.th, .int .i64 c.fr, .int .i64 c.to, .int .i64 c.n], .int .i64 p] w (Gives (.bool true) w) := by
  obtain ⟨hz, hv, hcalm⟩ := add_zero ha
  obtain ⟨hvc, hco, hz2⟩ := add_one hc2
  have HVC := Lib.hid hvc
  obtain ⟨u1, u2, u3, u4, u5, u6, u7, u8, u9, ua, ub⟩ := hvc
  have d5 : decide (1099511627776 < c.to - c.fr) = false := decide_eq_false (by omega)
  have m1 : 0 ≤ (c.to - c.fr) * p ∧ (c.to - c.fr) * p ≤ 1099511627776000 := ⟨Int.mul_nonneg (by omega) (by omega), Int.le_trans (Int.mul_le_mul_of_nonneg_right (show c.to - c.fr ≤ 1099511627776 by omega) (by omega)) (by omega)⟩
  have d6 : decide ((c.to - c.fr) * p / 1000 < 1) = true := decide_eq_true (by omega)
  have d1 : decide (19 < (len : Int)) = false := decide_eq_false (by omega)
  have d2 : decide (p < 0) = false := decide_eq_false (by omega)
  have d3 : decide (1000 < p) = false := decide_eq_false (by omega)
  have R0 : Hid (Below (w.alloc (.cells #[.int .i64 c.sv, .int .i64 c.wk, .int .i64 c.th, .int .i64 c.fr, .int .i64 c.to, .int .i64 c.n] 50)).heap.size (w.alloc (.cells #[.int .i64 c.sv, .int .i64 c.wk, .int .i64 c.th, .int .i64 c.fr, .int .i64 c.to, .int .i64 c.n] 50)) (w.alloc (.cells #[.int .i64 c.sv, .int .i64 c.wk, .int .i64 c.th, .int .i64 c.fr, .int .i64 c.to, .int .i64 c.n] 50))) := Lib.hid (Below.refl _ _)
  have HW0 : Hid (Below w.heap.size w (w.alloc (.cells #[.int .i64 c.sv, .int .i64 c.wk, .int .i64 c.th, .int .i64 c.fr, .int .i64 c.to, .int .i64 c.n] 50))) := Lib.hid (bel_alloc (Below.refl _ _))
  have sz0 : (w.alloc (.cells #[.int .i64 c.sv, .int .i64 c.wk, .int .i64 c.th, .int .i64 c.fr, .int .i64 c.to, .int .i64 c.n] 50)).heap.size = w.heap.size + 1 := by simp
  have hlen := row_len h
  subst hlen
  have HP := Lib.hid h
  clear h
  go_enter Try.func7, Try.ntmps7
  go_wp2_with fail
  refine (new_any _).mono ?_
  rintro e w1 ⟨rfl, hT, hb⟩
  rw [sz0] at hT
  have R1 := Lib.hid hb
  have HT1 := Lib.hid (hT.base (B := w.heap.size))
  have l1 := hT.lt
  clear hT hb
  go_wp2_with fail
  refine (new_any _).mono ?_
  rintro e w2 ⟨rfl, hU, hc⟩
  have R2 := Lib.hid (R1.out.trans (hc.mono R1.out.size))
  have HT2 := Lib.hid (HT1.out.below hc)
  have HU2 := Lib.hid (hU.base (B := w.heap.size))
  have lu := hU.lt
  clear hU hc HT1
  have AD := Lib.hid (add_fresh w.heap.size (w.heap.size + 1) _ l w w2 HP.out (HW0.out.trans (R2.out.mono HW0.out.size)) (by omega) HT2.out (by omega) (by omega))
  go_wp2_with fail
  refine AD.out.mono ?_
  rintro e w3 ⟨he, v3, hT3, hO3, hr3⟩
  subst he
  have hb3 := added_below (B := (w.alloc (.cells #[.int .i64 c.sv, .int .i64 c.wk, .int .i64 c.th, .int .i64 c.fr, .int .i64 c.to, .int .i64 c.n] 50)).heap.size) hO3 (by omega) (by omega)
  have R3 := Lib.hid (R2.out.trans hb3)
  have HU3 := Lib.hid (HU2.out.keep hO3 (fun hs => by
    rcases hs with hs | hs
    · omega
    · simp [Value.ownBlock] at hs) (fun r e => by simp [Value.ownBlock] at e))
  have hs3 := hO3.size
  clear AD HT2 HU2 hb3
  have AU := Lib.hid (add_fresh w.heap.size w1.heap.size _ l w w3 HP.out (HW0.out.trans (R3.out.mono HW0.out.size)) (by omega) HU3.out (by omega) (by omega))
  obtain ⟨⟨a0, a1, a2, a3, a4, a5⟩, aw⟩ := six_of R3.out
  rw [ha]
  rw [hz] at hT3
  clear HU3
  go_wp2_with fail
  refine AU.out.mono ?_
  rintro e w4 ⟨he, v4, hT4, hO4, hr4⟩
  subst he
  rw [hz] at hT4
  rw [ha]
  have hb4 := added_below (B := (w.alloc (.cells #[.int .i64 c.sv, .int .i64 c.wk, .int .i64 c.th, .int .i64 c.fr, .int .i64 c.to, .int .i64 c.n] 50)).heap.size) hO4 (by omega) (by omega)
  have R4 := Lib.hid (R3.out.trans hb4)
  have HU4 := Lib.hid hT4
  have HT4 := Lib.hid (hT3.keep hO4 (fun hs => by
    rcases hs with hs | hs
    · omega
    · simp [Value.ownBlock] at hs) (fun r e hs => by
    rcases hs with hs | hs
    · rcases hr3 r e with h1 | h1
      · simp [Value.ownBlock] at h1
      · omega
    · simp [Value.ownBlock] at hs))
  have hs4 := hO4.size
  have hov3 : ∀ r, v3.ownBlock = some r → r < w3.heap.size := fun r e => (World.ownsRow.lt hT3.own r e).2
  have hov4 : ∀ r, v4.ownBlock = some r → r < w4.heap.size := fun r e => (World.ownsRow.lt HU4.out.own r e).2
  clear AU hT3 hT4 hb4 hO3 hO4 a0 a1 a2 a3 a4 a5 aw
  obtain ⟨⟨a0, a1, a2, a3, a4, a5⟩, aw⟩ := six_of R4.out
  have l4 := HT4.out.lt
  have hov : ∀ r, v3.ownBlock = some r → r < w4.heap.size := fun r e => (World.ownsRow.lt HT4.out.own r e).2
  have AC := Lib.hid (add_any w.heap.size (w.heap.size + 1) v3 _ l [c] (w4.alloc (.cells #[.int .i64 c.sv, .int .i64 c.wk, .int .i64 c.th, .int .i64 c.fr, .int .i64 c.to, .int .i64 c.n] 50)) (by simp; omega) (HT4.out.below (bel_alloc (Below.refl _ _))) (row_new c w4) (fun r e => by
    have e' : w4.heap.size = r := by simpa [Value.ownBlock] using e
    subst e'
    exact ⟨by omega, fun e2 => by have := hov _ e2; omega⟩) hv (by simp; omega))
  go_wp2_with fail
  refine AC.out.mono ?_
  rintro e w5 ⟨he, v5, hT5, hO5, hr5⟩
  subst he
  have hb5 := hO5.below (B := (w.alloc (.cells #[.int .i64 c.sv, .int .i64 c.wk, .int .i64 c.th, .int .i64 c.fr, .int .i64 c.to, .int .i64 c.n] 50)).heap.size) (by simp; omega) (fun k hk => by
    rcases hk with rfl | hk
    · omega
    · rcases hr3 k hk with h1 | h1
      · simp [Value.ownBlock] at h1
      · omega)
  have R5 := Lib.hid ((bel_end (R4.out) (bel_alloc (Below.refl _ _))).trans hb5)
  clear a0 a1 a2 a3 a4 a5 aw AC hb5
  obtain ⟨⟨a0, a1, a2, a3, a4, a5⟩, aw⟩ := six_of R5.out
  rw [hc2]
  clear hT5 hO5 hr5
  go_wp2_with fail
  refine (awake_true _).mono ?_
  rintro e1 w90 ⟨rfl, b90⟩
  have HX := Lib.hid (HW0.out.trans (R5.out.mono HW0.out.size))
  have HE := Lib.hid (HX.out.trans (b90.mono (HX.out).size))
  clear b90
  go_wp2_with fail
  go_ret
  exact ⟨rfl, HE.out⟩
set_option maxRecDepth 100000 in
set_option maxHeartbeats 1000000 in
theorem bad4 (o : Option Addr) (len cap : Nat) (l : List Chg) (c : Chg) (p : Int) (w : World) (h : ChgRow w (.slice o len cap) l) (hl : ¬ 19 < len) (hp : ¬ p < 0) (hq : ¬ 1000 < p) (ha : (addAll [] l).2 = 0) (hc2 : (addAll l [c]).2 = 0) (k1 : ¬ (c.to - c.fr) * p / 1000 < 1) (k2 : c.to - c.fr ≤ (c.to - c.fr) * p / 1000) : Calls Try.prog 7 #[.slice o len cap, .agg #[.int .i64 c.sv, .int .i64 c.wk, .int .i64 c.th, .int .i64 c.fr, .int .i64 c.to, .int .i64 c.n], .int .i64 p] w (Gives (.bool true) w) := by
  obtain ⟨hz, hv, hcalm⟩ := add_zero ha
  obtain ⟨hvc, hco, hz2⟩ := add_one hc2
  have HVC := Lib.hid hvc
  obtain ⟨u1, u2, u3, u4, u5, u6, u7, u8, u9, ua, ub⟩ := hvc
  have d5 : decide (1099511627776 < c.to - c.fr) = false := decide_eq_false (by omega)
  have m1 : 0 ≤ (c.to - c.fr) * p ∧ (c.to - c.fr) * p ≤ 1099511627776000 := ⟨Int.mul_nonneg (by omega) (by omega), Int.le_trans (Int.mul_le_mul_of_nonneg_right (show c.to - c.fr ≤ 1099511627776 by omega) (by omega)) (by omega)⟩
  have d6 : decide ((c.to - c.fr) * p / 1000 < 1) = false := decide_eq_false (by omega)
  have d7 : decide (c.to - c.fr ≤ (c.to - c.fr) * p / 1000) = true := decide_eq_true (by omega)
  have d1 : decide (19 < (len : Int)) = false := decide_eq_false (by omega)
  have d2 : decide (p < 0) = false := decide_eq_false (by omega)
  have d3 : decide (1000 < p) = false := decide_eq_false (by omega)
  have R0 : Hid (Below (w.alloc (.cells #[.int .i64 c.sv, .int .i64 c.wk, .int .i64 c.th, .int .i64 c.fr, .int .i64 c.to, .int .i64 c.n] 50)).heap.size (w.alloc (.cells #[.int .i64 c.sv, .int .i64 c.wk, .int .i64 c.th, .int .i64 c.fr, .int .i64 c.to, .int .i64 c.n] 50)) (w.alloc (.cells #[.int .i64 c.sv, .int .i64 c.wk, .int .i64 c.th, .int .i64 c.fr, .int .i64 c.to, .int .i64 c.n] 50))) := Lib.hid (Below.refl _ _)
  have HW0 : Hid (Below w.heap.size w (w.alloc (.cells #[.int .i64 c.sv, .int .i64 c.wk, .int .i64 c.th, .int .i64 c.fr, .int .i64 c.to, .int .i64 c.n] 50))) := Lib.hid (bel_alloc (Below.refl _ _))
  have sz0 : (w.alloc (.cells #[.int .i64 c.sv, .int .i64 c.wk, .int .i64 c.th, .int .i64 c.fr, .int .i64 c.to, .int .i64 c.n] 50)).heap.size = w.heap.size + 1 := by simp
  have hlen := row_len h
  subst hlen
  have HP := Lib.hid h
  clear h
  go_enter Try.func7, Try.ntmps7
  go_wp2_with fail
  refine (new_any _).mono ?_
  rintro e w1 ⟨rfl, hT, hb⟩
  rw [sz0] at hT
  have R1 := Lib.hid hb
  have HT1 := Lib.hid (hT.base (B := w.heap.size))
  have l1 := hT.lt
  clear hT hb
  go_wp2_with fail
  refine (new_any _).mono ?_
  rintro e w2 ⟨rfl, hU, hc⟩
  have R2 := Lib.hid (R1.out.trans (hc.mono R1.out.size))
  have HT2 := Lib.hid (HT1.out.below hc)
  have HU2 := Lib.hid (hU.base (B := w.heap.size))
  have lu := hU.lt
  clear hU hc HT1
  have AD := Lib.hid (add_fresh w.heap.size (w.heap.size + 1) _ l w w2 HP.out (HW0.out.trans (R2.out.mono HW0.out.size)) (by omega) HT2.out (by omega) (by omega))
  go_wp2_with fail
  refine AD.out.mono ?_
  rintro e w3 ⟨he, v3, hT3, hO3, hr3⟩
  subst he
  have hb3 := added_below (B := (w.alloc (.cells #[.int .i64 c.sv, .int .i64 c.wk, .int .i64 c.th, .int .i64 c.fr, .int .i64 c.to, .int .i64 c.n] 50)).heap.size) hO3 (by omega) (by omega)
  have R3 := Lib.hid (R2.out.trans hb3)
  have HU3 := Lib.hid (HU2.out.keep hO3 (fun hs => by
    rcases hs with hs | hs
    · omega
    · simp [Value.ownBlock] at hs) (fun r e => by simp [Value.ownBlock] at e))
  have hs3 := hO3.size
  clear AD HT2 HU2 hb3
  have AU := Lib.hid (add_fresh w.heap.size w1.heap.size _ l w w3 HP.out (HW0.out.trans (R3.out.mono HW0.out.size)) (by omega) HU3.out (by omega) (by omega))
  obtain ⟨⟨a0, a1, a2, a3, a4, a5⟩, aw⟩ := six_of R3.out
  rw [ha]
  rw [hz] at hT3
  clear HU3
  go_wp2_with fail
  refine AU.out.mono ?_
  rintro e w4 ⟨he, v4, hT4, hO4, hr4⟩
  subst he
  rw [hz] at hT4
  rw [ha]
  have hb4 := added_below (B := (w.alloc (.cells #[.int .i64 c.sv, .int .i64 c.wk, .int .i64 c.th, .int .i64 c.fr, .int .i64 c.to, .int .i64 c.n] 50)).heap.size) hO4 (by omega) (by omega)
  have R4 := Lib.hid (R3.out.trans hb4)
  have HU4 := Lib.hid hT4
  have HT4 := Lib.hid (hT3.keep hO4 (fun hs => by
    rcases hs with hs | hs
    · omega
    · simp [Value.ownBlock] at hs) (fun r e hs => by
    rcases hs with hs | hs
    · rcases hr3 r e with h1 | h1
      · simp [Value.ownBlock] at h1
      · omega
    · simp [Value.ownBlock] at hs))
  have hs4 := hO4.size
  have hov3 : ∀ r, v3.ownBlock = some r → r < w3.heap.size := fun r e => (World.ownsRow.lt hT3.own r e).2
  have hov4 : ∀ r, v4.ownBlock = some r → r < w4.heap.size := fun r e => (World.ownsRow.lt HU4.out.own r e).2
  clear AU hT3 hT4 hb4 hO3 hO4 a0 a1 a2 a3 a4 a5 aw
  obtain ⟨⟨a0, a1, a2, a3, a4, a5⟩, aw⟩ := six_of R4.out
  have l4 := HT4.out.lt
  have hov : ∀ r, v3.ownBlock = some r → r < w4.heap.size := fun r e => (World.ownsRow.lt HT4.out.own r e).2
  have AC := Lib.hid (add_any w.heap.size (w.heap.size + 1) v3 _ l [c] (w4.alloc (.cells #[.int .i64 c.sv, .int .i64 c.wk, .int .i64 c.th, .int .i64 c.fr, .int .i64 c.to, .int .i64 c.n] 50)) (by simp; omega) (HT4.out.below (bel_alloc (Below.refl _ _))) (row_new c w4) (fun r e => by
    have e' : w4.heap.size = r := by simpa [Value.ownBlock] using e
    subst e'
    exact ⟨by omega, fun e2 => by have := hov _ e2; omega⟩) hv (by simp; omega))
  go_wp2_with fail
  refine AC.out.mono ?_
  rintro e w5 ⟨he, v5, hT5, hO5, hr5⟩
  subst he
  have hb5 := hO5.below (B := (w.alloc (.cells #[.int .i64 c.sv, .int .i64 c.wk, .int .i64 c.th, .int .i64 c.fr, .int .i64 c.to, .int .i64 c.n] 50)).heap.size) (by simp; omega) (fun k hk => by
    rcases hk with rfl | hk
    · omega
    · rcases hr3 k hk with h1 | h1
      · simp [Value.ownBlock] at h1
      · omega)
  have R5 := Lib.hid ((bel_end (R4.out) (bel_alloc (Below.refl _ _))).trans hb5)
  clear a0 a1 a2 a3 a4 a5 aw AC hb5
  obtain ⟨⟨a0, a1, a2, a3, a4, a5⟩, aw⟩ := six_of R5.out
  rw [hc2]
  clear hT5 hO5 hr5
  go_wp2_with fail
  refine (awake_true _).mono ?_
  rintro e1 w90 ⟨rfl, b90⟩
  have HX := Lib.hid (HW0.out.trans (R5.out.mono HW0.out.size))
  have HE := Lib.hid (HX.out.trans (b90.mono (HX.out).size))
  clear b90
  go_wp2_with fail
  go_ret
  exact ⟨rfl, HE.out⟩
set_option maxRecDepth 100000 in
set_option maxHeartbeats 1000000 in
theorem good (o : Option Addr) (len cap : Nat) (l : List Chg) (c : Chg) (p : Int) (w : World) (h : ChgRow w (.slice o len cap) l) (hl : ¬ 19 < len) (hp : ¬ p < 0) (hq : ¬ 1000 < p) (ha : (addAll [] l).2 = 0) (hc2 : (addAll l [c]).2 = 0) (k1 : ¬ (c.to - c.fr) * p / 1000 < 1) (k2 : ¬ c.to - c.fr ≤ (c.to - c.fr) * p / 1000) : Calls Try.prog 7 #[.slice o len cap, .agg #[.int .i64 c.sv, .int .i64 c.wk, .int .i64 c.th, .int .i64 c.fr, .int .i64 c.to, .int .i64 c.n], .int .i64 p] w (Gives (.bool true) w) := by
  obtain ⟨hz, hv, hcalm⟩ := add_zero ha
  obtain ⟨hvc, hco, hz2⟩ := add_one hc2
  have HVC := Lib.hid hvc
  obtain ⟨u1, u2, u3, u4, u5, u6, u7, u8, u9, ua, ub⟩ := hvc
  have d5 : decide (1099511627776 < c.to - c.fr) = false := decide_eq_false (by omega)
  have m1 : 0 ≤ (c.to - c.fr) * p ∧ (c.to - c.fr) * p ≤ 1099511627776000 := ⟨Int.mul_nonneg (by omega) (by omega), Int.le_trans (Int.mul_le_mul_of_nonneg_right (show c.to - c.fr ≤ 1099511627776 by omega) (by omega)) (by omega)⟩
  have d6 : decide ((c.to - c.fr) * p / 1000 < 1) = false := decide_eq_false (by omega)
  have d7 : decide (c.to - c.fr ≤ (c.to - c.fr) * p / 1000) = false := decide_eq_false (by omega)
  have d1 : decide (19 < (len : Int)) = false := decide_eq_false (by omega)
  have d2 : decide (p < 0) = false := decide_eq_false (by omega)
  have d3 : decide (1000 < p) = false := decide_eq_false (by omega)
  have R0 : Hid (Below (w.alloc (.cells #[.int .i64 c.sv, .int .i64 c.wk, .int .i64 c.th, .int .i64 c.fr, .int .i64 c.to, .int .i64 c.n] 50)).heap.size (w.alloc (.cells #[.int .i64 c.sv, .int .i64 c.wk, .int .i64 c.th, .int .i64 c.fr, .int .i64 c.to, .int .i64 c.n] 50)) (w.alloc (.cells #[.int .i64 c.sv, .int .i64 c.wk, .int .i64 c.th, .int .i64 c.fr, .int .i64 c.to, .int .i64 c.n] 50))) := Lib.hid (Below.refl _ _)
  have HW0 : Hid (Below w.heap.size w (w.alloc (.cells #[.int .i64 c.sv, .int .i64 c.wk, .int .i64 c.th, .int .i64 c.fr, .int .i64 c.to, .int .i64 c.n] 50))) := Lib.hid (bel_alloc (Below.refl _ _))
  have sz0 : (w.alloc (.cells #[.int .i64 c.sv, .int .i64 c.wk, .int .i64 c.th, .int .i64 c.fr, .int .i64 c.to, .int .i64 c.n] 50)).heap.size = w.heap.size + 1 := by simp
  have hlen := row_len h
  subst hlen
  have HP := Lib.hid h
  clear h
  go_enter Try.func7, Try.ntmps7
  go_wp2_with fail
  refine (new_any _).mono ?_
  rintro e w1 ⟨rfl, hT, hb⟩
  rw [sz0] at hT
  have R1 := Lib.hid hb
  have HT1 := Lib.hid (hT.base (B := w.heap.size))
  have l1 := hT.lt
  clear hT hb
  go_wp2_with fail
  refine (new_any _).mono ?_
  rintro e w2 ⟨rfl, hU, hc⟩
  have R2 := Lib.hid (R1.out.trans (hc.mono R1.out.size))
  have HT2 := Lib.hid (HT1.out.below hc)
  have HU2 := Lib.hid (hU.base (B := w.heap.size))
  have lu := hU.lt
  clear hU hc HT1
  have AD := Lib.hid (add_fresh w.heap.size (w.heap.size + 1) _ l w w2 HP.out (HW0.out.trans (R2.out.mono HW0.out.size)) (by omega) HT2.out (by omega) (by omega))
  go_wp2_with fail
  refine AD.out.mono ?_
  rintro e w3 ⟨he, v3, hT3, hO3, hr3⟩
  subst he
  have hb3 := added_below (B := (w.alloc (.cells #[.int .i64 c.sv, .int .i64 c.wk, .int .i64 c.th, .int .i64 c.fr, .int .i64 c.to, .int .i64 c.n] 50)).heap.size) hO3 (by omega) (by omega)
  have R3 := Lib.hid (R2.out.trans hb3)
  have HU3 := Lib.hid (HU2.out.keep hO3 (fun hs => by
    rcases hs with hs | hs
    · omega
    · simp [Value.ownBlock] at hs) (fun r e => by simp [Value.ownBlock] at e))
  have hs3 := hO3.size
  clear AD HT2 HU2 hb3
  have AU := Lib.hid (add_fresh w.heap.size w1.heap.size _ l w w3 HP.out (HW0.out.trans (R3.out.mono HW0.out.size)) (by omega) HU3.out (by omega) (by omega))
  obtain ⟨⟨a0, a1, a2, a3, a4, a5⟩, aw⟩ := six_of R3.out
  rw [ha]
  rw [hz] at hT3
  clear HU3
  go_wp2_with fail
  refine AU.out.mono ?_
  rintro e w4 ⟨he, v4, hT4, hO4, hr4⟩
  subst he
  rw [hz] at hT4
  rw [ha]
  have hb4 := added_below (B := (w.alloc (.cells #[.int .i64 c.sv, .int .i64 c.wk, .int .i64 c.th, .int .i64 c.fr, .int .i64 c.to, .int .i64 c.n] 50)).heap.size) hO4 (by omega) (by omega)
  have R4 := Lib.hid (R3.out.trans hb4)
  have HU4 := Lib.hid hT4
  have HT4 := Lib.hid (hT3.keep hO4 (fun hs => by
    rcases hs with hs | hs
    · omega
    · simp [Value.ownBlock] at hs) (fun r e hs => by
    rcases hs with hs | hs
    · rcases hr3 r e with h1 | h1
      · simp [Value.ownBlock] at h1
      · omega
    · simp [Value.ownBlock] at hs))
  have hs4 := hO4.size
  have hov3 : ∀ r, v3.ownBlock = some r → r < w3.heap.size := fun r e => (World.ownsRow.lt hT3.own r e).2
  have hov4 : ∀ r, v4.ownBlock = some r → r < w4.heap.size := fun r e => (World.ownsRow.lt HU4.out.own r e).2
  clear AU hT3 hT4 hb4 hO3 hO4 a0 a1 a2 a3 a4 a5 aw
  obtain ⟨⟨a0, a1, a2, a3, a4, a5⟩, aw⟩ := six_of R4.out
  have l4 := HT4.out.lt
  have hov : ∀ r, v3.ownBlock = some r → r < w4.heap.size := fun r e => (World.ownsRow.lt HT4.out.own r e).2
  have AC := Lib.hid (add_any w.heap.size (w.heap.size + 1) v3 _ l [c] (w4.alloc (.cells #[.int .i64 c.sv, .int .i64 c.wk, .int .i64 c.th, .int .i64 c.fr, .int .i64 c.to, .int .i64 c.n] 50)) (by simp; omega) (HT4.out.below (bel_alloc (Below.refl _ _))) (row_new c w4) (fun r e => by
    have e' : w4.heap.size = r := by simpa [Value.ownBlock] using e
    subst e'
    exact ⟨by omega, fun e2 => by have := hov _ e2; omega⟩) hv (by simp; omega))
  go_wp2_with fail
  refine AC.out.mono ?_
  rintro e w5 ⟨he, v5, hT5, hO5, hr5⟩
  subst he
  have hb5 := hO5.below (B := (w.alloc (.cells #[.int .i64 c.sv, .int .i64 c.wk, .int .i64 c.th, .int .i64 c.fr, .int .i64 c.to, .int .i64 c.n] 50)).heap.size) (by simp; omega) (fun k hk => by
    rcases hk with rfl | hk
    · omega
    · rcases hr3 k hk with h1 | h1
      · simp [Value.ownBlock] at h1
      · omega)
  have R5 := Lib.hid ((bel_end (R4.out) (bel_alloc (Below.refl _ _))).trans hb5)
  clear a0 a1 a2 a3 a4 a5 aw AC hb5
  obtain ⟨⟨a0, a1, a2, a3, a4, a5⟩, aw⟩ := six_of R5.out
  rw [hc2]
  have lw : w.heap.size < w5.heap.size := by omega
  go_upto_region 10 with fail
  clear m1
  have hk : 1 ≤ (c.to - c.fr) * p / 1000 ∧ (c.to - c.fr) * p / 1000 < c.to - c.fr := by omega
  generalize (c.to - c.fr) * p / 1000 = K at *
  obtain ⟨hk1, hk2⟩ := hk
  have HU5 := Lib.hid ((HU4.out.below (bel_alloc (o := (.cells #[.int .i64 c.sv, .int .i64 c.wk, .int .i64 c.th, .int .i64 c.fr, .int .i64 c.to, .int .i64 c.n] 50)) (Below.refl _ _))).keep hO5 (fun hs => by
    rcases hs with hs | hs
    · omega
    · rcases hr3 _ hs with h1 | h1
      · simp [Value.ownBlock] at h1
      · omega) (fun r e hs => by
    rcases hr4 r e with h1 | h1
    · simp [Value.ownBlock] at h1
    · rcases hs with hs | hs
      · omega
      · have := hov3 r hs; omega))
  have HT5 := Lib.hid (show TAt w5 w.heap.size (w.heap.size + 1) v5 (l ++ [c]) by rw [← hz2]; exact hT5)
  have hrow : ChgRow (((w5.alloc (.cells #[.int .i64 c.sv, .int .i64 c.wk, .int .i64 c.th, .int .i64 c.fr, .int .i64 (c.fr + K), .int .i64 (min c.n K)] 50)).alloc (.cells #[.int .i64 c.sv, .int .i64 c.wk, .int .i64 c.th, .int .i64 (c.fr + K), .int .i64 c.to, .int .i64 (c.n - min c.n K)] 50)).alloc (.cells #[.int .i64 c.sv, .int .i64 c.wk, .int .i64 c.th, .int .i64 c.fr, .int .i64 (c.fr + K), .int .i64 (min c.n K), .int .i64 c.sv, .int .i64 c.wk, .int .i64 c.th, .int .i64 (c.fr + K), .int .i64 c.to, .int .i64 (c.n - min c.n K)] 50)) (.slice (some ⟨w5.heap.size + 1 + 1, 0, none⟩) 2 2) [partA c K, partB c K] := by
    have := row_two (partA c K) (partB c K) ((w5.alloc (.cells #[.int .i64 c.sv, .int .i64 c.wk, .int .i64 c.th, .int .i64 c.fr, .int .i64 (c.fr + K), .int .i64 (min c.n K)] 50)).alloc (.cells #[.int .i64 c.sv, .int .i64 c.wk, .int .i64 c.th, .int .i64 (c.fr + K), .int .i64 c.to, .int .i64 (c.n - min c.n K)] 50))
    rw [World.size_alloc, World.size_alloc] at this
    exact this
  have AP := Lib.hid (add_any w.heap.size w1.heap.size v4 _ l [partA c K, partB c K] _ (by have := hO5.size; simp at this; simp; omega) (HU5.out.below (bel_alloc (bel_alloc (bel_alloc (Below.refl _ _))))) hrow (fun r e => by
    have e' : w5.heap.size + 1 + 1 = r := by simpa [Value.ownBlock] using e
    have := hO5.size
    simp at this
    subst e'
    exact ⟨by omega, fun e2 => by have := hov4 _ e2; omega⟩) hv (by simp; omega))
  unfold Added at AP
  rw [add_parts HVC.out hco hk1 hk2] at AP
  go_wp2_with fail
  refine AP.out.mono ?_
  rintro e w6 ⟨rfl, v6, hT6, hO6, hr6⟩
  have hs5 := hO5.size
  simp at hs5
  have HU6 := Lib.hid hT6
  have HT6 := Lib.hid ((HT5.out.below (bel_alloc (bel_alloc (bel_alloc (Below.refl _ _))))).keep hO6 (fun hs => by
    rcases hs with hs | hs
    · omega
    · rcases hr4 _ hs with h1 | h1
      · simp [Value.ownBlock] at h1
      · omega) (fun r e hs => by
    rcases hr5 r e with h1 | h1
    · rcases hr3 r h1 with h2 | h2
      · simp [Value.ownBlock] at h2
      · have := hov3 r h1
        rcases hs with hs | hs
        · omega
        · rcases hr4 r hs with h3 | h3
          · simp [Value.ownBlock] at h3
          · omega
    · simp at h1
      rcases hs with hs | hs
      · omega
      · have := hov4 r hs; omega))
  have R6 := Lib.hid ((bel_end R5.out (bel_alloc (bel_alloc (bel_alloc (Below.refl _ _))))).trans (hO6.below (B := (w.alloc (.cells #[.int .i64 c.sv, .int .i64 c.wk, .int .i64 c.th, .int .i64 c.fr, .int .i64 c.to, .int .i64 c.n] 50)).heap.size) (by simp; omega) (fun k hk => by
    rcases hk with rfl | hk
    · omega
    · rcases hr4 k hk with h1 | h1
      · simp [Value.ownBlock] at h1
      · omega)))
  have cF := (World.cell?_of_block (a := ⟨w5.heap.size, 4, none⟩) (hO6.block w5.heap.size (by simp; omega) (fun hs => by
    rcases hs with hs | hs
    · omega
    · have := hov4 _ hs; omega))).trans (show _ = some (Value.int .i64 (c.fr + K)) by go_simp)
  clear hT6 hO6 hr6 AP hrow hT5 hO5 hr5 HU5 HT5 a0 a1 a2 a3 a4 a5 aw
  have hvc := HVC.out
  obtain ⟨ys, hys⟩ := vcs l hv
  have hyl : ys.length ≤ 19 := by rw [← List.length_map (f := fun z : VC => z.1), hys]; omega
  have eA : (ys ++ [(⟨c, hvc⟩ : VC)]).map (fun z : VC => z.1) = l ++ [c] := by rw [List.map_append, hys]; rfl
  have eB : (ys ++ [(⟨partA c K, partA_vld hvc hk1 hk2⟩ : VC), ⟨partB c K, partB_vld hvc hk1 hk2⟩]).map (fun z : VC => z.1) = l ++ [partA c K, partB c K] := by rw [List.map_append, hys]; rfl
  obtain ⟨SW, SN⟩ := split_within ys c K hvc hk1 hk2
  have SB := split_busy ys c K hvc hk1 hk2
  have ST := split_total (H := Unit) ys c K hvc hk1 hk2
  have LB := len_any w.heap.size w1.heap.size v6 _ w6 HU6.out
  have LA := len_any w.heap.size (w.heap.size + 1) v5 _ w6 HT6.out
  rw [show (((l ++ [partA c K, partB c K]).length : Nat) : Int) = (l.length : Int) + 2 by simp] at LB
  rw [show (((l ++ [c]).length : Nat) : Int) = (l.length : Int) + 1 by simp] at LA
  rw [← eA] at HT6
  rw [← eB] at HU6
  have hla : (ys ++ [(⟨c, hvc⟩ : VC)]).length ≤ 4000 := by simp; omega
  have hlb : (ys ++ [(⟨partA c K, partA_vld hvc hk1 hk2⟩ : VC), ⟨partB c K, partB_vld hvc hk1 hk2⟩]).length ≤ 4000 := by simp; omega
  generalize (ys ++ [(⟨c, hvc⟩ : VC)]) = ya at *
  generalize (ys ++ [(⟨partA c K, partA_vld hvc hk1 hk2⟩ : VC), ⟨partB c K, partB_vld hvc hk1 hk2⟩]) = yb at *
  have hmin : min c.n K ≤ c.n := by omega
  have LAH := Lib.hid LA
  have LBH := Lib.hid LB
  have SWH := Lib.hid SW
  have SBH := Lib.hid SB
  have STH := Lib.hid ST
  clear LA LB SW SB ST eA eB hz2 hco hcalm
  obtain ⟨⟨a0, a1, a2, a3, a4, a5⟩, aw⟩ := six_of R6.out
  have lF := cell_lt cF
  have dl : ((l.length : Int) + 2 != (l.length : Int) + 1 + 1) = false := by simp; omega
  go_wp2_with fail
  refine LBH.out.mono ?_
  rintro e w7 ⟨rfl, rfl⟩
  go_wp2_with fail
  refine LAH.out.mono ?_
  rintro e w8 ⟨rfl, rfl⟩
  go_wp2_with fail
  have WA : Hid (∀ W, Below w8.heap.size w8 W → Calls Try.prog 20 #[.pointer (some ⟨w.heap.size + 1, 0, none⟩), .int .i64 c.sv, .int .i64 c.fr, .int .i64 c.to] W (Gives (.tuple #[.int .i64 (sumOf (fun z => inWin c.fr c.to z.1) (ofServer c.sv ya)), .int .i64 0]) W)) := fun W hW => by
    have := within_t_any w.heap.size (w.heap.size + 1) v5 ya c.sv c.fr c.to W hla (HT6.out.below hW)
    rw [told_ok (ask_ok u1 (by omega) u7 (by omega) u9)] at this
    exact this
  have WB : Hid (∀ W, Below w8.heap.size w8 W → Calls Try.prog 20 #[.pointer (some ⟨w1.heap.size, 0, none⟩), .int .i64 c.sv, .int .i64 c.fr, .int .i64 c.to] W (Gives (.tuple #[.int .i64 (sumOf (fun z => inWin c.fr c.to z.1) (ofServer c.sv ya)), .int .i64 0]) W)) := fun W hW => by
    have := within_t_any w.heap.size w1.heap.size v6 yb c.sv c.fr c.to W hlb (HU6.out.below hW)
    rw [told_ok (ask_ok u1 (by omega) u7 (by omega) u9), SWH.out] at this
    exact this
  have BA : Hid (∀ W, Below w8.heap.size w8 W → Calls Try.prog 23 #[.pointer (some ⟨w.heap.size + 1, 0, none⟩), .int .i64 c.wk, .int .i64 (c.fr + K), .int .i64 c.to] W (Gives (.tuple #[.int .i64 (sumOf (fun z => busyWin c.wk (c.fr + K) c.to z.1) ya), .int .i64 0]) W)) := fun W hW => by
    have := busy_t_any w.heap.size (w.heap.size + 1) v5 ya c.wk (c.fr + K) c.to W hla (HT6.out.below hW)
    rw [told_ok (ask_ok u5 (by omega) (by omega) (by omega) u9)] at this
    exact this
  have BB : Hid (∀ W, Below w8.heap.size w8 W → Calls Try.prog 23 #[.pointer (some ⟨w1.heap.size, 0, none⟩), .int .i64 c.wk, .int .i64 (c.fr + K), .int .i64 c.to] W (Gives (.tuple #[.int .i64 (sumOf (fun z => busyWin c.wk (c.fr + K) c.to z.1) ya), .int .i64 0]) W)) := fun W hW => by
    have := busy_t_any w.heap.size w1.heap.size v6 yb c.wk (c.fr + K) c.to W hlb (HU6.out.below hW)
    rw [told_ok (ask_ok u5 (by omega) (by omega) (by omega) u9), SBH.out] at this
    exact this
  have TA : Hid (∀ W, Below w8.heap.size w8 W → Calls Try.prog 24 #[.pointer (some ⟨w.heap.size + 1, 0, none⟩)] W fun e W' => e = .returned (.map (some W.heap.size)) ∧ W'.ownsMap Try.prog 3 (plainElem (H := Unit) Try.prog 3) W.heap.size ya.length (totD ya) ∧ Below W.heap.size W W') := fun W hW => total_any Unit w.heap.size (w.heap.size + 1) v5 ya W hla (HT6.out.below hW)
  have TB : Hid (∀ W, Below w8.heap.size w8 W → Calls Try.prog 24 #[.pointer (some ⟨w1.heap.size, 0, none⟩)] W fun e W' => e = .returned (.map (some W.heap.size)) ∧ W'.ownsMap Try.prog 3 (plainElem (H := Unit) Try.prog 3) W.heap.size yb.length (totD ya) ∧ Below W.heap.size W W') := fun W hW => by
    have := total_any Unit w.heap.size w1.heap.size v6 yb W hlb (HU6.out.below hW)
    rw [STH.out] at this
    exact this
  have dX : decide (c.n ≤ sumOf (fun z => inWin c.fr c.to z.1) (ofServer c.sv ya)) = true := decide_eq_true SN
  generalize sumOf (fun z => inWin c.fr c.to z.1) (ofServer c.sv ya) = X at *
  generalize sumOf (fun z => busyWin c.wk (c.fr + K) c.to z.1) ya = Y at *
  generalize (totD ya : DataW Unit) = D at *
  have Q8 : Hid (Below w8.heap.size w8 w8) := Below.refl _ _
  clear HT6 HU6 SWH SBH STH hla hlb hyl hys LAH LBH SN
  refine (WA.out _ Q8.out).mono ?_
  rintro e1 w9 ⟨rfl, b9⟩
  have Q9 := Lib.hid (Q8.out.trans (b9.mono Q8.out.size))
  have R9 := Lib.hid (R6.out.trans (Q9.out.mono R6.out.size))
  replace cF := (b9.cell (cell_lt cF)).trans cF
  clear b9 a0 a1 a2 a3 a4 a5 aw lF
  obtain ⟨⟨a0, a1, a2, a3, a4, a5⟩, aw⟩ := six_of R9.out
  have lF := cell_lt cF
  go_wp2_with fail
  refine (WB.out _ Q9.out).mono ?_
  rintro e1 w10 ⟨rfl, b10⟩
  have Q10 := Lib.hid (Q9.out.trans (b10.mono Q9.out.size))
  have R10 := Lib.hid (R6.out.trans (Q10.out.mono R6.out.size))
  replace cF := (b10.cell (cell_lt cF)).trans cF
  clear b10 a0 a1 a2 a3 a4 a5 aw lF
  obtain ⟨⟨a0, a1, a2, a3, a4, a5⟩, aw⟩ := six_of R10.out
  have lF := cell_lt cF
  go_wp2_with fail
  refine (BA.out _ Q10.out).mono ?_
  rintro e1 w11 ⟨rfl, b11⟩
  have Q11 := Lib.hid (Q10.out.trans (b11.mono Q10.out.size))
  have R11 := Lib.hid (R6.out.trans (Q11.out.mono R6.out.size))
  replace cF := (b11.cell (cell_lt cF)).trans cF
  clear b11 a0 a1 a2 a3 a4 a5 aw lF
  obtain ⟨⟨a0, a1, a2, a3, a4, a5⟩, aw⟩ := six_of R11.out
  have lF := cell_lt cF
  go_wp2_with fail
  refine (BB.out _ Q11.out).mono ?_
  rintro e1 w12 ⟨rfl, b12⟩
  have Q12 := Lib.hid (Q11.out.trans (b12.mono Q11.out.size))
  have R12 := Lib.hid (R6.out.trans (Q12.out.mono R6.out.size))
  replace cF := (b12.cell (cell_lt cF)).trans cF
  clear b12 a0 a1 a2 a3 a4 a5 aw lF
  obtain ⟨⟨a0, a1, a2, a3, a4, a5⟩, aw⟩ := six_of R12.out
  have lF := cell_lt cF
  go_wp2_with fail
  refine (TA.out _ Q12.out).mono ?_
  rintro e1 w13 ⟨rfl, m13, b13⟩
  have Q13 := Lib.hid (Q12.out.trans (b13.mono Q12.out.size))
  have R13 := Lib.hid (R6.out.trans (Q13.out.mono R6.out.size))
  replace cF := (b13.cell (cell_lt cF)).trans cF
  clear a0 a1 a2 a3 a4 a5 aw lF
  obtain ⟨⟨a0, a1, a2, a3, a4, a5⟩, aw⟩ := six_of R13.out
  have lF := cell_lt cF
  have M13 := Lib.hid m13
  clear m13 b13
  go_wp2_with fail
  refine (TB.out _ Q13.out).mono ?_
  rintro e1 w14 ⟨rfl, m14, b14⟩
  have Q14 := Lib.hid (Q13.out.trans (b14.mono Q13.out.size))
  have R14 := Lib.hid (R6.out.trans (Q14.out.mono R6.out.size))
  replace cF := (b14.cell (cell_lt cF)).trans cF
  clear a0 a1 a2 a3 a4 a5 aw lF
  obtain ⟨⟨a0, a1, a2, a3, a4, a5⟩, aw⟩ := six_of R14.out
  have lF := cell_lt cF
  have hkey := Maps.keyOf_int_mk (P := Try.prog) Try.underlying3 (sv_wf HVC.out)
  have M13' := M13.out.kept (row := none) ⟨b14.os, b14.tape, b14.output, b14.size, fun i hi _ => b14.block i hi⟩ (by simp)
  obtain ⟨c1, hr1, hat1, _⟩ := M13'.lookup_int (Maps.int_keyed Try.underlying3) Try.underlying54 Try.underlying3 (Try.zeroValue3 _) hkey
  obtain ⟨c2, hr2, hat2, _⟩ := m14.lookup_int (Maps.int_keyed Try.underlying3) Try.underlying54 Try.underlying3 (Try.zeroValue3 _) hkey
  obtain rfl : c1 = c2 := by
    have h3 := hat1.symm.trans hat2
    injection h3 with h4
    injection h4
  have hn1 := M13'.len Try.underlying54 3
  have hn2 := m14.len Try.underlying54 3
  generalize Maps.size D = SZ at *
  clear b14 m14 M13' hat1 hat2 hkey
  go_wp2_with fail
  refine (awake_true _).mono ?_
  rintro e1 w90 ⟨rfl, b90⟩
  have HX := Lib.hid (HW0.out.trans (R14.out.mono HW0.out.size))
  have HE := Lib.hid (HX.out.trans (b90.mono (HX.out).size))
  clear b90
  go_wp2_with fail
  go_ret
  exact ⟨rfl, HE.out⟩

section
variable {H : Type} {enc : TypeId × Value → H} {P : Program} {w : World} {base : Nat} {spare : Nat → Bool} {held : Bool}
theorem open_chg {r : Reach} {b0 : Nat} {t : TypeId} {fs : Array Field} {v : Value} {d : DataW H} {p : List MemPlace} (ht : P.underlying t = some (.struct fs)) (ce : P.cellsOf t = 6)
    (hfs : ∀ j, j < 6 → ∃ f, fs[j]? = some f ∧ f.offset = j ∧ P.cellsOf f.type = 1 ∧ P.underlying f.type = some (.int .i64))
    (hv : Value.okWide P w r b0 t v) (h : DataW.Trod enc P w base spare held t v d p) : ∃ c : Chg, v = .agg #[.int .i64 c.sv, .int .i64 c.wk, .int .i64 c.th, .int .i64 c.fr, .int .i64 c.to, .int .i64 c.n] ∧ Fit6 c := by
  obtain ⟨cs, rfl, hsz⟩ := okWide_struct ht hv
  obtain ⟨fuel, hf⟩ := h
  obtain ⟨xs, q, _, _, _, hxl, hg⟩ := DataW.trod_struct ht hf
  have hc6 : cs.size = 6 := hsz.trans ce
  obtain ⟨Z, hZ⟩ := choose_lt (α := Int) (n := 6) (p := fun j z => cs[j]? = some (.int .i64 z) ∧ Fit z) fun j hj => by
    obtain ⟨f, hfj, ho, hc, hu⟩ := hfs j hj
    have h3 := hg j f hfj
    rw [ho, hc] at h3
    have hj' : j < xs.length := by
      have := (Array.getElem?_eq_some_iff.1 hfj).1
      omega
    rw [List.getElem?_eq_getElem hj'] at h3
    obtain ⟨z, h4, _, h5⟩ := DataW.trod_int hu h3
    refine ⟨z, ?_, bounds_i64 h5⟩
    have := congrArg (fun l => l[0]?) h4
    simpa [Value.cells, List.getElem?_take, List.getElem?_drop] using this
  refine ⟨⟨Z 0, Z 1, Z 2, Z 3, Z 4, Z 5⟩, ?_, (hZ 0 (by omega)).2, (hZ 1 (by omega)).2, (hZ 2 (by omega)).2, (hZ 3 (by omega)).2, (hZ 4 (by omega)).2, (hZ 5 (by omega)).2⟩
  congr 1
  apply Array.ext_getElem?
  intro i
  by_cases hi : i < 6
  · rw [(hZ i hi).1]
    match i, hi with
    | 0, _ => rfl
    | 1, _ => rfl
    | 2, _ => rfl
    | 3, _ => rfl
    | 4, _ => rfl
    | 5, _ => rfl
  · rw [Array.getElem?_eq_none (by omega), Array.getElem?_eq_none (by simp; omega)]
end
theorem walk (v : Value) (l : List Chg) (c : Chg) (p : Int) (w : World) (h : ChgRow w v l) (_ : ∀ x ∈ l, Fit6 x) (_ : SliceOk v) (_ : Fit6 c) (_ : (Lit.int .i64 p).wf = true) :
    Calls Try.prog 7 #[v, .agg #[.int .i64 c.sv, .int .i64 c.wk, .int .i64 c.th, .int .i64 c.fr, .int .i64 c.to, .int .i64 c.n], .int .i64 p] w (Yes w) := by
  obtain ⟨o, len, cap, rfl⟩ := row_slice h
  show Calls _ _ _ _ (Gives (.bool true) w)
  by_cases hl : 19 < len
  · exact many o len cap l c p w h hl
  by_cases hp : p < 0
  · exact neg o len cap l c p w h hl hp
  by_cases hq : 1000 < p
  · exact big o len cap l c p w h hl hp hq
  by_cases ha : (addAll [] l).2 = 0
  · by_cases hc2 : (addAll l [c]).2 = 0
    · by_cases k1 : (c.to - c.fr) * p / 1000 < 1
      · exact bad3 o len cap l c p w h hl hp hq ha hc2 k1
      by_cases k2 : c.to - c.fr ≤ (c.to - c.fr) * p / 1000
      · exact bad4 o len cap l c p w h hl hp hq ha hc2 k1 k2
      · exact good o len cap l c p w h hl hp hq ha hc2 k1 k2
    · exact bad2 o len cap l c p w h hl hp hq ha hc2
  · exact bad1 o len cap l c p w h hl hp hq ha
set_option maxRecDepth 100000 in
theorem lifted (os : Os) (started : os.Started) (H : Type) (enc : TypeId × Value → H) :
    ReturnsInHanded {} Try.checked os 7 .any (Rows.traceSplitsSpec.pre6 enc Try.prog Try.f7 Rows.traceSplitsRow.domain false) (Rows.traceSplitsSpec.post enc Try.prog Try.f7 false true false false) := by
  refine returnsInHanded_of_change (C := Try.checked) own started (by kernel_rfl) Try.func7
    (ChangeSpec.witness6 (enc := enc) (C := Try.checked) false ⟨#[], #[.slice none 0 0, .agg #[.int .i64 0, .int .i64 0, .int .i64 0, .int .i64 0, .int .i64 0, .int .i64 0], .int .i64 0], []⟩ 8 (by kernel_rfl) (by kernel_rfl) (by kernel_rfl) (by kernel_rfl)) ?_
  intro W base args ds gs before hval0 hW hcnd _
  have hval : ∀ (j : Nat) t v, Try.f7.params[j]? = some t → args[j]? = some v → Value.okWide Try.prog W .any base t v := hval0
  have hW' := hW
  obtain ⟨p, q, hA0, hV, _, hfz, hnd⟩ := hW'
  have hA : DataW.TrodAll enc Try.prog W 0 (fun _ => true) true Try.f7.params.toList args.toList ds p := hA0
  rw [Try.params7] at hA hval
  obtain ⟨v0, v1, v2, d0, d1, d2, p0, p1, p2, rfl, _, _, h0, h1, h2⟩ := trodAll_three hA
  obtain ⟨l, hl, fl, kl⟩ := open_charges Try.underlying40 Try.underlying50 (by kernel_rfl) (fun i hi => by match i, hi with | 0, _ => exact ⟨_, rfl, rfl, by kernel_rfl, Try.underlying3⟩ | 1, _ => exact ⟨_, rfl, rfl, by kernel_rfl, Try.underlying3⟩ | 2, _ => exact ⟨_, rfl, rfl, by kernel_rfl, Try.underlying3⟩ | 3, _ => exact ⟨_, rfl, rfl, by kernel_rfl, Try.underlying3⟩ | 4, _ => exact ⟨_, rfl, rfl, by kernel_rfl, Try.underlying3⟩ | 5, _ => exact ⟨_, rfl, rfl, by kernel_rfl, Try.underlying3⟩) (hval 0 40 v0 rfl rfl) h0
  obtain ⟨c, rfl, wc⟩ := open_chg Try.underlying50 (by kernel_rfl) (fun i hi => by match i, hi with | 0, _ => exact ⟨_, rfl, rfl, by kernel_rfl, Try.underlying3⟩ | 1, _ => exact ⟨_, rfl, rfl, by kernel_rfl, Try.underlying3⟩ | 2, _ => exact ⟨_, rfl, rfl, by kernel_rfl, Try.underlying3⟩ | 3, _ => exact ⟨_, rfl, rfl, by kernel_rfl, Try.underlying3⟩ | 4, _ => exact ⟨_, rfl, rfl, by kernel_rfl, Try.underlying3⟩ | 5, _ => exact ⟨_, rfl, rfl, by kernel_rfl, Try.underlying3⟩) (hval 1 50 v1 rfl rfl) h1
  obtain ⟨p, rfl, _, _, wp⟩ := open_int Try.underlying3 (hval 2 3 v2 rfl rfl) h2
  refine (walk v0 l c p W hl fl kl wc wp).mono fun e W' h => ?_
  exact law_post (f := Try.f7) rfl rfl Try.underlying4 (by kernel_rfl) (fun ds hd => by
    match ds, hd with
    | [_, _, _], _ => rfl) hW h

theorem over : Rows.traceSplitsRow.holds Try.pinned (OpenSpec.ofChange Rows.traceSplitsSpec) :=
  OpenClaim.holds_of_wide 7 Try.f7 rfl rfl rfl rfl rfl rfl rfl ⟨rfl, rfl, rfl, rfl, rfl⟩ rfl rfl rfl rfl rfl (by kernel_rfl) Try.func7 (by kernel_rfl)
    (of_decide_eq_true (by kernel_rfl)) (by unfold Func.isWrapper; first | (rw [if_pos (by decide +kernel)]; kernel_rfl) | (rw [if_neg (by decide +kernel)]; exact ⟨rfl, rfl⟩))
    (fun os started H enc _ => lifted os started H enc)

/-- THE STATEMENT. -/
theorem proved : Rows.TraceSplitsSaid := over
end Go.Proofs.Ytfpifaccjfgfkaa.traceSplits
