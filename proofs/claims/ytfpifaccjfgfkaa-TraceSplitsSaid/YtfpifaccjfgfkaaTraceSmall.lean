/- What the small functions of trace answer: within, num.Time, first, check, both; and when two charges clash. Each theorem's premises are its conditions. -/
import Derived.Test.YtfpifaccjfgfkaaCharges
import Derived.Deep.RegionHeld3
import Derived.Deep.CutBlock
import Derived.Deep.DeepCutAuto
namespace Go.Proofs.Ytfpifaccjfgfkaa
open Go.ChangeShapes Go.WideShapes Go.ChangeAt Go.RowKit Go.Deep

def Gives (v : Value) (w : World) (e : Ending) (w' : World) : Prop := e = .returned v ∧ Below w.heap.size w w'

/-- is a number from 0 on, and below another one? -/
def inB (n b : Int) : Bool := decide (0 ≤ n) && decide (n < b)
theorem within_any (n b : Int) (w : World) : Calls Try.prog 31 #[.int .i64 n, .int .i64 b] w fun e w' => e = .returned (.bool (inB n b)) ∧ w' = w := by
  unfold inB
  by_cases h : 0 ≤ n
  · have d : decide (0 ≤ n) = true := decide_eq_true h
    rw [d, Bool.true_and]
    clear h
    go_enter Try.func31, Try.ntmps31
    go_wp2
    go_ret
    exact ⟨rfl, rfl⟩
  · have d : decide (0 ≤ n) = false := decide_eq_false h
    rw [d, Bool.false_and]
    clear h
    go_enter Try.func31, Try.ntmps31
    go_wp2
    go_ret
    exact ⟨rfl, rfl⟩
/-- what is wrong with a time. -/
def timeErr (t : Int) : Int := if t < 0 then 10 else if 1099511627776 ≤ t then 21 else 0
theorem time_any (t : Int) (w : World) : Calls Try.prog 43 #[.int .i64 t] w fun e w' => e = .returned (.int .i64 (timeErr t)) ∧ w' = w := by
  unfold timeErr
  by_cases h : t < 0
  · have d : decide (t < 0) = true := decide_eq_true h
    rw [if_pos h]
    clear h
    go_enter Try.func43, Try.ntmps43
    go_wp2
    go_ret
    exact ⟨rfl, rfl⟩
  · have d : decide (t < 0) = false := decide_eq_false h
    rw [if_neg h]
    by_cases h2 : 1099511627776 ≤ t
    · have d2 : decide (1099511627776 ≤ t) = true := decide_eq_true h2
      rw [if_pos h2]
      clear h h2
      go_enter Try.func43, Try.ntmps43
      go_wp2
      go_ret
      exact ⟨rfl, rfl⟩
    · have d2 : decide (1099511627776 ≤ t) = false := decide_eq_false h2
      rw [if_neg h2]
      clear h h2
      go_enter Try.func43, Try.ntmps43
      go_wp2
      go_ret
      exact ⟨rfl, rfl⟩
/-- the first one of two that is not 0. -/
def first2 (a b : Int) : Int := if a = 0 then b else a
theorem first_two (a b : Int) (B : Nat) (w : World) (h0 : w.cell? ⟨B, 0, none⟩ = some (.int .i64 a)) (h1 : w.cell? ⟨B, 1, none⟩ = some (.int .i64 b)) :
    Calls Try.prog 42 #[.slice (some ⟨B, 0, none⟩) 2 2] w fun e w' => e = .returned (.int .i64 (first2 a b)) ∧ w' = w := by
  unfold first2
  by_cases ha : a = 0
  · subst ha
    rw [if_pos rfl]
    by_cases hb : b = 0
    · subst hb
      go_enter Try.func42, Try.ntmps42
      go_wp2
      refine wp_loop_rounds 3 ?_
      rw [rounds_succ]
      go_wp2_with fail
      rw [rounds_succ]
      go_wp2_with fail
      rw [rounds_succ]
      go_wp2_with fail
      go_ret
      exact ⟨rfl, rfl⟩
    · have d : (b == 0) = false := by rw [beq_eq_false_iff_ne]; exact hb
      have d' : (b != 0) = true := by rw [bne_iff_ne]; exact hb
      clear hb
      go_enter Try.func42, Try.ntmps42
      go_wp2
      refine wp_loop_rounds 2 ?_
      rw [rounds_succ]
      go_wp2_with fail
      rw [rounds_succ]
      go_wp2_with fail
      go_ret
      exact ⟨rfl, rfl⟩
  · rw [if_neg ha]
    have d : (a == 0) = false := by rw [beq_eq_false_iff_ne]; exact ha
    have d' : (a != 0) = true := by rw [bne_iff_ne]; exact ha
    clear ha
    go_enter Try.func42, Try.ntmps42
    go_wp2
    refine wp_loop_rounds 1 ?_
    rw [rounds_succ]
    go_wp2_with fail
    go_ret
    exact ⟨rfl, rfl⟩

/-! ### check -/
/-- which charges may be. -/
def Vld (c : Chg) : Prop := 0 ≤ c.sv ∧ c.sv < 64 ∧ 0 ≤ c.th ∧ c.th < 64 ∧ 0 ≤ c.wk ∧ c.wk < 16 ∧ 0 ≤ c.fr ∧ c.fr < c.to ∧ c.to < 1099511627776 ∧ 0 ≤ c.n ∧ c.n ≤ c.to - c.fr
instance (c : Chg) : Decidable (Vld c) := by unfold Vld; exact inferInstance
/-- what is wrong with a charge. -/
def chkErr (c : Chg) : Int :=
  if (inB c.sv 64 && inB c.th 64 && inB c.wk 16) = false then 1 else if first2 (timeErr c.fr) (timeErr c.to) ≠ 0 then first2 (timeErr c.fr) (timeErr c.to) else if c.to ≤ c.fr ∨ c.n < 0 ∨ c.to - c.fr < c.n then 10 else 0
theorem time_zero {t : Int} : timeErr t = 0 ↔ 0 ≤ t ∧ t < 1099511627776 := by
  unfold timeErr
  split
  · constructor
    · intro h; cases h
    · omega
  · split
    · constructor
      · intro h; cases h
      · omega
    · constructor
      · intro _; omega
      · intro _; rfl
theorem first_zero {a b : Int} : first2 a b = 0 ↔ a = 0 ∧ b = 0 := by
  unfold first2
  split
  · constructor
    · intro h; exact ⟨by assumption, h⟩
    · exact fun h => h.2
  · constructor
    · intro h; exact absurd h (by assumption)
    · intro h; exact absurd h.1 (by assumption)
theorem inB_true {n b : Int} : inB n b = true ↔ 0 ≤ n ∧ n < b := by simp [inB]
theorem chk_zero {c : Chg} : chkErr c = 0 ↔ Vld c := by
  unfold chkErr Vld
  constructor
  · intro h
    split at h
    · cases h
    · rename_i h1
      rw [Bool.not_eq_false, Bool.and_eq_true, Bool.and_eq_true, inB_true, inB_true, inB_true] at h1
      split at h
      · rename_i h2; exact absurd h h2
      · rename_i h2
        have h2' := first_zero.1 (Classical.not_not.1 h2)
        rw [time_zero, time_zero] at h2'
        split at h
        · cases h
        · omega
  · intro h
    have h1 : (inB c.sv 64 && inB c.th 64 && inB c.wk 16) = true := by
      rw [Bool.and_eq_true, Bool.and_eq_true, inB_true, inB_true, inB_true]; omega
    rw [if_neg (by rw [h1]; decide)]
    have h2 : first2 (timeErr c.fr) (timeErr c.to) = 0 := first_zero.2 ⟨time_zero.2 (by omega), time_zero.2 (by omega)⟩
    rw [if_neg (fun hn => hn h2), if_neg (by omega)]

/-! ### the walk of check -/
set_option maxHeartbeats 2000000 in
theorem check1 (c : Chg) (w : World) (h : (inB c.sv 64 && inB c.th 64 && inB c.wk 16) = false) : Calls Try.prog 47 #[.agg #[.int .i64 c.sv, .int .i64 c.wk, .int .i64 c.th, .int .i64 c.fr, .int .i64 c.to, .int .i64 c.n]] w (Gives (.int .i64 (chkErr c)) w) := by
  have hc : Hid (chkErr c = 1) := by show _ = _; unfold chkErr; rw [if_pos h]
  have W1 := Lib.hid (within_any c.sv 64)
  have W2 := Lib.hid (within_any c.th 64)
  have W3 := Lib.hid (within_any c.wk 16)
  generalize inB c.sv 64 = x at *
  generalize inB c.th 64 = y at *
  generalize inB c.wk 16 = z at *
  cases x with
  | false =>
    clear h W2 W3
    go_enter Try.func47, Try.ntmps47
    go_wp2_with (go_at_call 31; refine (W1.out _).mono ?_; rintro e w' ⟨rfl, rfl⟩)
    go_ret
    exact ⟨ret1 (by rw [hc.out]; rfl), bel_alloc (Below.refl _ _)⟩
  | true =>
    cases y with
    | false =>
      clear h W3
      go_enter Try.func47, Try.ntmps47
      go_wp2_with fail
      refine (W1.out _).mono ?_
      rintro e w1 ⟨rfl, rfl⟩
      go_wp2_with fail
      refine (W2.out _).mono ?_
      rintro e w1 ⟨rfl, rfl⟩
      go_wp2_with fail
      go_ret
      exact ⟨ret1 (by rw [hc.out]; rfl), bel_alloc (Below.refl _ _)⟩
    | true =>
      cases z with
      | true => cases h
      | false =>
        clear h
        go_enter Try.func47, Try.ntmps47
        go_wp2_with fail
        refine (W1.out _).mono ?_
        rintro e w1 ⟨rfl, rfl⟩
        go_wp2_with fail
        refine (W2.out _).mono ?_
        rintro e w1 ⟨rfl, rfl⟩
        go_wp2_with fail
        refine (W3.out _).mono ?_
        rintro e w1 ⟨rfl, rfl⟩
        go_wp2_with fail
        go_ret
        exact ⟨ret1 (by rw [hc.out]; rfl), bel_alloc (Below.refl _ _)⟩
theorem box_two {c : Chg} {w w' : World} (h : Below (w.alloc (.cells #[.int .i64 c.sv, .int .i64 c.wk, .int .i64 c.th, .int .i64 c.fr, .int .i64 c.to, .int .i64 c.n] 50)).heap.size (w.alloc (.cells #[.int .i64 c.sv, .int .i64 c.wk, .int .i64 c.th, .int .i64 c.fr, .int .i64 c.to, .int .i64 c.n] 50)) w') : w'.cell? ⟨w.heap.size, 3, none⟩ = some (.int .i64 c.fr) ∧ w'.cell? ⟨w.heap.size, 4, none⟩ = some (.int .i64 c.to) ∧ Below (w.alloc (.cells #[.int .i64 c.sv, .int .i64 c.wk, .int .i64 c.th, .int .i64 c.fr, .int .i64 c.to, .int .i64 c.n] 50)).heap.size (w.alloc (.cells #[.int .i64 c.sv, .int .i64 c.wk, .int .i64 c.th, .int .i64 c.fr, .int .i64 c.to, .int .i64 c.n] 50)) w' :=
  ⟨(h.cell (p := ⟨w.heap.size, 3, none⟩) (by simp)).trans (show _ = some (Value.int .i64 c.fr) by go_simp), (h.cell (p := ⟨w.heap.size, 4, none⟩) (by simp)).trans (show _ = some (Value.int .i64 c.to) by go_simp), h⟩
set_option maxHeartbeats 2000000 in
theorem check2 (c : Chg) (w : World) (h : (inB c.sv 64 && inB c.th 64 && inB c.wk 16) = true) (h2 : first2 (timeErr c.fr) (timeErr c.to) ≠ 0) : Calls Try.prog 47 #[.agg #[.int .i64 c.sv, .int .i64 c.wk, .int .i64 c.th, .int .i64 c.fr, .int .i64 c.to, .int .i64 c.n]] w (Gives (.int .i64 (chkErr c)) w) := by
  obtain ⟨hx, hy, hz⟩ : inB c.sv 64 = true ∧ inB c.th 64 = true ∧ inB c.wk 16 = true := by rw [Bool.and_eq_true, Bool.and_eq_true] at h; exact ⟨h.1.1, h.1.2, h.2⟩
  have W1 := Lib.hid (within_any c.sv 64)
  have W2 := Lib.hid (within_any c.th 64)
  have W3 := Lib.hid (within_any c.wk 16)
  rw [hx] at W1
  rw [hy] at W2
  rw [hz] at W3
  have T1 := Lib.hid (time_any c.fr)
  have T2 := Lib.hid (time_any c.to)
  have F0 := Lib.hid (first_two (timeErr c.fr) (timeErr c.to))
  have hc : Hid (chkErr c = first2 (timeErr c.fr) (timeErr c.to)) := by show _ = _; unfold chkErr; rw [if_neg (by rw [h]; decide), if_pos h2]
  clear h hx hy hz
  generalize timeErr c.fr = e1 at *
  generalize timeErr c.to = e2 at *
  generalize first2 e1 e2 = F at *
  have d : (F == 0) = false := by rw [beq_eq_false_iff_ne]; exact h2
  have d' : (F != 0) = true := by rw [bne_iff_ne]; exact h2
  clear h2
  go_enter Try.func47, Try.ntmps47
  go_wp2_with fail
  refine (W1.out _).mono ?_
  rintro e w1 ⟨rfl, rfl⟩
  go_wp2_with fail
  refine (W2.out _).mono ?_
  rintro e w1 ⟨rfl, rfl⟩
  go_wp2_with fail
  refine (W3.out _).mono ?_
  rintro e w1 ⟨rfl, rfl⟩
  go_upto_region 3 with fail
  go_cut [3] from 20 to 27 (fun s wx => s = .int .i64 F ∧ Below (w.alloc (.cells #[.int .i64 c.sv, .int .i64 c.wk, .int .i64 c.th, .int .i64 c.fr, .int .i64 c.to, .int .i64 c.n] 50)).heap.size (w.alloc (.cells #[.int .i64 c.sv, .int .i64 c.wk, .int .i64 c.th, .int .i64 c.fr, .int .i64 c.to, .int .i64 c.n] 50)) wx)
  case first =>
    go_region_held3 (fun w' => w'.cell? ⟨w.heap.size, 3, none⟩ = some (.int .i64 c.fr) ∧ w'.cell? ⟨w.heap.size, 4, none⟩ = some (.int .i64 c.to) ∧ Below (w.alloc (.cells #[.int .i64 c.sv, .int .i64 c.wk, .int .i64 c.th, .int .i64 c.fr, .int .i64 c.to, .int .i64 c.n] 50)).heap.size (w.alloc (.cells #[.int .i64 c.sv, .int .i64 c.wk, .int .i64 c.th, .int .i64 c.fr, .int .i64 c.to, .int .i64 c.n] 50)) w') (first | exact box_two (by assumption) | exact box_two (bel_alloc (by assumption)) | exact box_two (bel_drew (Below.refl _ _)))
      (first
      | (go_at_call 43; go_split_ands; (with_reducible refine (T1.out _).mono ?_); rintro e w9 ⟨rfl, rfl⟩)
      | (go_at_call 43; go_split_ands; (with_reducible refine (T2.out _).mono ?_); rintro e w9 ⟨rfl, rfl⟩)
      | (go_at_call 42; go_split_ands; (refine (F0.out _ _ (by go_simp) (by go_simp)).mono ?_); rintro e w9 ⟨rfl, rfl⟩))
    all_goals (go_split_ands; go_wp2_with fail; go_meet; exact ⟨rfl, by first | assumption | (apply bel_alloc; assumption)⟩)
  case rest =>
  obtain ⟨rfl, r3⟩ := hcut
  have HB := Lib.hid (bel_end (bel_alloc (Below.refl w.heap.size w)) r3)
  have y3 := (r3.cell (p := ⟨w.heap.size, 3, none⟩) (by simp)).trans (show _ = some (Value.int .i64 c.fr) by go_simp)
  have y4 := (r3.cell (p := ⟨w.heap.size, 4, none⟩) (by simp)).trans (show _ = some (Value.int .i64 c.to) by go_simp)
  have y5 := (r3.cell (p := ⟨w.heap.size, 5, none⟩) (by simp)).trans (show _ = some (Value.int .i64 c.n) by go_simp)
  have lb : w.heap.size < wc.heap.size := cell_lt y3
  clear r3
  go_wp2_with fail
  go_ret
  exact ⟨ret1 (by rw [hc.out]; rfl), HB.out⟩
set_option maxHeartbeats 2000000 in
theorem check3 (c : Chg) (w : World) (h : (inB c.sv 64 && inB c.th 64 && inB c.wk 16) = true) (h2 : first2 (timeErr c.fr) (timeErr c.to) = 0) : Calls Try.prog 47 #[.agg #[.int .i64 c.sv, .int .i64 c.wk, .int .i64 c.th, .int .i64 c.fr, .int .i64 c.to, .int .i64 c.n]] w (Gives (.int .i64 (chkErr c)) w) := by
  obtain ⟨hx, hy, hz⟩ : inB c.sv 64 = true ∧ inB c.th 64 = true ∧ inB c.wk 16 = true := by rw [Bool.and_eq_true, Bool.and_eq_true] at h; exact ⟨h.1.1, h.1.2, h.2⟩
  have W1 := Lib.hid (within_any c.sv 64)
  have W2 := Lib.hid (within_any c.th 64)
  have W3 := Lib.hid (within_any c.wk 16)
  rw [hx] at W1
  rw [hy] at W2
  rw [hz] at W3
  have T1 := Lib.hid (time_any c.fr)
  have T2 := Lib.hid (time_any c.to)
  have F0 := Lib.hid (first_two (timeErr c.fr) (timeErr c.to))
  obtain ⟨z1, z2⟩ := first_zero.1 h2
  obtain ⟨g1, g2⟩ := time_zero.1 z1
  obtain ⟨g3, g4⟩ := time_zero.1 z2
  have hc0 : Hid (chkErr c = if c.to ≤ c.fr ∨ c.n < 0 ∨ c.to - c.fr < c.n then 10 else 0) := by show _ = _; unfold chkErr; rw [if_neg (by rw [h]; decide), if_neg (fun hn => hn h2)]
  clear h hx hy hz z1 z2
  generalize timeErr c.fr = e1 at *
  generalize timeErr c.to = e2 at *
  obtain ⟨F, hF⟩ : ∃ F, first2 e1 e2 = F := ⟨_, rfl⟩
  rw [hF] at F0 h2
  subst h2
  clear hF
  by_cases a1 : c.to ≤ c.fr
  · have hc : Hid (chkErr c = 10) := by show _ = _; rw [hc0.out, if_pos (.inl a1)]
    have d1 : decide (c.to ≤ c.fr) = true := decide_eq_true a1
    clear hc0 a1
    go_enter Try.func47, Try.ntmps47
    go_wp2_with fail
    refine (W1.out _).mono ?_
    rintro e w1 ⟨rfl, rfl⟩
    go_wp2_with fail
    refine (W2.out _).mono ?_
    rintro e w1 ⟨rfl, rfl⟩
    go_wp2_with fail
    refine (W3.out _).mono ?_
    rintro e w1 ⟨rfl, rfl⟩
    go_upto_region 3 with fail
    go_cut [3] from 20 to 27 (fun s wx => s = .int .i64 0 ∧ Below (w.alloc (.cells #[.int .i64 c.sv, .int .i64 c.wk, .int .i64 c.th, .int .i64 c.fr, .int .i64 c.to, .int .i64 c.n] 50)).heap.size (w.alloc (.cells #[.int .i64 c.sv, .int .i64 c.wk, .int .i64 c.th, .int .i64 c.fr, .int .i64 c.to, .int .i64 c.n] 50)) wx)
    case first =>
      go_region_held3 (fun w' => w'.cell? ⟨w.heap.size, 3, none⟩ = some (.int .i64 c.fr) ∧ w'.cell? ⟨w.heap.size, 4, none⟩ = some (.int .i64 c.to) ∧ Below (w.alloc (.cells #[.int .i64 c.sv, .int .i64 c.wk, .int .i64 c.th, .int .i64 c.fr, .int .i64 c.to, .int .i64 c.n] 50)).heap.size (w.alloc (.cells #[.int .i64 c.sv, .int .i64 c.wk, .int .i64 c.th, .int .i64 c.fr, .int .i64 c.to, .int .i64 c.n] 50)) w') (first | exact box_two (by assumption) | exact box_two (bel_alloc (by assumption)) | exact box_two (bel_drew (Below.refl _ _)))
        (first
        | (go_at_call 43; go_split_ands; (with_reducible refine (T1.out _).mono ?_); rintro e w9 ⟨rfl, rfl⟩)
        | (go_at_call 43; go_split_ands; (with_reducible refine (T2.out _).mono ?_); rintro e w9 ⟨rfl, rfl⟩)
        | (go_at_call 42; go_split_ands; (refine (F0.out _ _ (by go_simp) (by go_simp)).mono ?_); rintro e w9 ⟨rfl, rfl⟩))
      all_goals (go_split_ands; go_wp2_with fail; go_meet; exact ⟨rfl, by first | assumption | (apply bel_alloc; assumption)⟩)
    case rest =>
    obtain ⟨rfl, r3⟩ := hcut
    have HB := Lib.hid (bel_end (bel_alloc (Below.refl w.heap.size w)) r3)
    have y3 := (r3.cell (p := ⟨w.heap.size, 3, none⟩) (by simp)).trans (show _ = some (Value.int .i64 c.fr) by go_simp)
    have y4 := (r3.cell (p := ⟨w.heap.size, 4, none⟩) (by simp)).trans (show _ = some (Value.int .i64 c.to) by go_simp)
    have y5 := (r3.cell (p := ⟨w.heap.size, 5, none⟩) (by simp)).trans (show _ = some (Value.int .i64 c.n) by go_simp)
    have lb : w.heap.size < wc.heap.size := cell_lt y3
    clear r3
    go_wp2_with fail
    go_ret
    exact ⟨ret1 (by rw [hc.out]; rfl), HB.out⟩
  · have d1 : decide (c.to ≤ c.fr) = false := decide_eq_false a1
    by_cases a2 : c.n < 0
    · have hc : Hid (chkErr c = 10) := by show _ = _; rw [hc0.out, if_pos (.inr (.inl a2))]
      have d2 : decide (c.n < 0) = true := decide_eq_true a2
      clear hc0 a1 a2
      go_enter Try.func47, Try.ntmps47
      go_wp2_with fail
      refine (W1.out _).mono ?_
      rintro e w1 ⟨rfl, rfl⟩
      go_wp2_with fail
      refine (W2.out _).mono ?_
      rintro e w1 ⟨rfl, rfl⟩
      go_wp2_with fail
      refine (W3.out _).mono ?_
      rintro e w1 ⟨rfl, rfl⟩
      go_upto_region 3 with fail
      go_cut [3] from 20 to 27 (fun s wx => s = .int .i64 0 ∧ Below (w.alloc (.cells #[.int .i64 c.sv, .int .i64 c.wk, .int .i64 c.th, .int .i64 c.fr, .int .i64 c.to, .int .i64 c.n] 50)).heap.size (w.alloc (.cells #[.int .i64 c.sv, .int .i64 c.wk, .int .i64 c.th, .int .i64 c.fr, .int .i64 c.to, .int .i64 c.n] 50)) wx)
      case first =>
        go_region_held3 (fun w' => w'.cell? ⟨w.heap.size, 3, none⟩ = some (.int .i64 c.fr) ∧ w'.cell? ⟨w.heap.size, 4, none⟩ = some (.int .i64 c.to) ∧ Below (w.alloc (.cells #[.int .i64 c.sv, .int .i64 c.wk, .int .i64 c.th, .int .i64 c.fr, .int .i64 c.to, .int .i64 c.n] 50)).heap.size (w.alloc (.cells #[.int .i64 c.sv, .int .i64 c.wk, .int .i64 c.th, .int .i64 c.fr, .int .i64 c.to, .int .i64 c.n] 50)) w') (first | exact box_two (by assumption) | exact box_two (bel_alloc (by assumption)) | exact box_two (bel_drew (Below.refl _ _)))
          (first
          | (go_at_call 43; go_split_ands; (with_reducible refine (T1.out _).mono ?_); rintro e w9 ⟨rfl, rfl⟩)
          | (go_at_call 43; go_split_ands; (with_reducible refine (T2.out _).mono ?_); rintro e w9 ⟨rfl, rfl⟩)
          | (go_at_call 42; go_split_ands; (refine (F0.out _ _ (by go_simp) (by go_simp)).mono ?_); rintro e w9 ⟨rfl, rfl⟩))
        all_goals (go_split_ands; go_wp2_with fail; go_meet; exact ⟨rfl, by first | assumption | (apply bel_alloc; assumption)⟩)
      case rest =>
      obtain ⟨rfl, r3⟩ := hcut
      have HB := Lib.hid (bel_end (bel_alloc (Below.refl w.heap.size w)) r3)
      have y3 := (r3.cell (p := ⟨w.heap.size, 3, none⟩) (by simp)).trans (show _ = some (Value.int .i64 c.fr) by go_simp)
      have y4 := (r3.cell (p := ⟨w.heap.size, 4, none⟩) (by simp)).trans (show _ = some (Value.int .i64 c.to) by go_simp)
      have y5 := (r3.cell (p := ⟨w.heap.size, 5, none⟩) (by simp)).trans (show _ = some (Value.int .i64 c.n) by go_simp)
      have lb : w.heap.size < wc.heap.size := cell_lt y3
      clear r3
      go_wp2_with fail
      go_ret
      exact ⟨ret1 (by rw [hc.out]; rfl), HB.out⟩
    · have d2 : decide (c.n < 0) = false := decide_eq_false a2
      by_cases a3 : c.to - c.fr < c.n
      · have hc : Hid (chkErr c = 10) := by show _ = _; rw [hc0.out, if_pos (.inr (.inr a3))]
        have d3 : decide (c.to - c.fr < c.n) = true := decide_eq_true a3
        clear hc0 a2 a3
        go_enter Try.func47, Try.ntmps47
        go_wp2_with fail
        refine (W1.out _).mono ?_
        rintro e w1 ⟨rfl, rfl⟩
        go_wp2_with fail
        refine (W2.out _).mono ?_
        rintro e w1 ⟨rfl, rfl⟩
        go_wp2_with fail
        refine (W3.out _).mono ?_
        rintro e w1 ⟨rfl, rfl⟩
        go_upto_region 3 with fail
        go_cut [3] from 20 to 27 (fun s wx => s = .int .i64 0 ∧ Below (w.alloc (.cells #[.int .i64 c.sv, .int .i64 c.wk, .int .i64 c.th, .int .i64 c.fr, .int .i64 c.to, .int .i64 c.n] 50)).heap.size (w.alloc (.cells #[.int .i64 c.sv, .int .i64 c.wk, .int .i64 c.th, .int .i64 c.fr, .int .i64 c.to, .int .i64 c.n] 50)) wx)
        case first =>
          go_region_held3 (fun w' => w'.cell? ⟨w.heap.size, 3, none⟩ = some (.int .i64 c.fr) ∧ w'.cell? ⟨w.heap.size, 4, none⟩ = some (.int .i64 c.to) ∧ Below (w.alloc (.cells #[.int .i64 c.sv, .int .i64 c.wk, .int .i64 c.th, .int .i64 c.fr, .int .i64 c.to, .int .i64 c.n] 50)).heap.size (w.alloc (.cells #[.int .i64 c.sv, .int .i64 c.wk, .int .i64 c.th, .int .i64 c.fr, .int .i64 c.to, .int .i64 c.n] 50)) w') (first | exact box_two (by assumption) | exact box_two (bel_alloc (by assumption)) | exact box_two (bel_drew (Below.refl _ _)))
            (first
            | (go_at_call 43; go_split_ands; (with_reducible refine (T1.out _).mono ?_); rintro e w9 ⟨rfl, rfl⟩)
            | (go_at_call 43; go_split_ands; (with_reducible refine (T2.out _).mono ?_); rintro e w9 ⟨rfl, rfl⟩)
            | (go_at_call 42; go_split_ands; (refine (F0.out _ _ (by go_simp) (by go_simp)).mono ?_); rintro e w9 ⟨rfl, rfl⟩))
          all_goals (go_split_ands; go_wp2_with fail; go_meet; exact ⟨rfl, by first | assumption | (apply bel_alloc; assumption)⟩)
        case rest =>
        obtain ⟨rfl, r3⟩ := hcut
        have HB := Lib.hid (bel_end (bel_alloc (Below.refl w.heap.size w)) r3)
        have y3 := (r3.cell (p := ⟨w.heap.size, 3, none⟩) (by simp)).trans (show _ = some (Value.int .i64 c.fr) by go_simp)
        have y4 := (r3.cell (p := ⟨w.heap.size, 4, none⟩) (by simp)).trans (show _ = some (Value.int .i64 c.to) by go_simp)
        have y5 := (r3.cell (p := ⟨w.heap.size, 5, none⟩) (by simp)).trans (show _ = some (Value.int .i64 c.n) by go_simp)
        have lb : w.heap.size < wc.heap.size := cell_lt y3
        clear r3
        go_wp2_with fail
        go_ret
        exact ⟨ret1 (by rw [hc.out]; rfl), HB.out⟩
      · have hc : Hid (chkErr c = 0) := by show _ = _; rw [hc0.out, if_neg (by omega)]
        have d3 : decide (c.to - c.fr < c.n) = false := decide_eq_false a3
        clear hc0 a2 a3
        go_enter Try.func47, Try.ntmps47
        go_wp2_with fail
        refine (W1.out _).mono ?_
        rintro e w1 ⟨rfl, rfl⟩
        go_wp2_with fail
        refine (W2.out _).mono ?_
        rintro e w1 ⟨rfl, rfl⟩
        go_wp2_with fail
        refine (W3.out _).mono ?_
        rintro e w1 ⟨rfl, rfl⟩
        go_upto_region 3 with fail
        go_cut [3] from 20 to 27 (fun s wx => s = .int .i64 0 ∧ Below (w.alloc (.cells #[.int .i64 c.sv, .int .i64 c.wk, .int .i64 c.th, .int .i64 c.fr, .int .i64 c.to, .int .i64 c.n] 50)).heap.size (w.alloc (.cells #[.int .i64 c.sv, .int .i64 c.wk, .int .i64 c.th, .int .i64 c.fr, .int .i64 c.to, .int .i64 c.n] 50)) wx)
        case first =>
          go_region_held3 (fun w' => w'.cell? ⟨w.heap.size, 3, none⟩ = some (.int .i64 c.fr) ∧ w'.cell? ⟨w.heap.size, 4, none⟩ = some (.int .i64 c.to) ∧ Below (w.alloc (.cells #[.int .i64 c.sv, .int .i64 c.wk, .int .i64 c.th, .int .i64 c.fr, .int .i64 c.to, .int .i64 c.n] 50)).heap.size (w.alloc (.cells #[.int .i64 c.sv, .int .i64 c.wk, .int .i64 c.th, .int .i64 c.fr, .int .i64 c.to, .int .i64 c.n] 50)) w') (first | exact box_two (by assumption) | exact box_two (bel_alloc (by assumption)) | exact box_two (bel_drew (Below.refl _ _)))
            (first
            | (go_at_call 43; go_split_ands; (with_reducible refine (T1.out _).mono ?_); rintro e w9 ⟨rfl, rfl⟩)
            | (go_at_call 43; go_split_ands; (with_reducible refine (T2.out _).mono ?_); rintro e w9 ⟨rfl, rfl⟩)
            | (go_at_call 42; go_split_ands; (refine (F0.out _ _ (by go_simp) (by go_simp)).mono ?_); rintro e w9 ⟨rfl, rfl⟩))
          all_goals (go_split_ands; go_wp2_with fail; go_meet; exact ⟨rfl, by first | assumption | (apply bel_alloc; assumption)⟩)
        case rest =>
        obtain ⟨rfl, r3⟩ := hcut
        have HB := Lib.hid (bel_end (bel_alloc (Below.refl w.heap.size w)) r3)
        have y3 := (r3.cell (p := ⟨w.heap.size, 3, none⟩) (by simp)).trans (show _ = some (Value.int .i64 c.fr) by go_simp)
        have y4 := (r3.cell (p := ⟨w.heap.size, 4, none⟩) (by simp)).trans (show _ = some (Value.int .i64 c.to) by go_simp)
        have y5 := (r3.cell (p := ⟨w.heap.size, 5, none⟩) (by simp)).trans (show _ = some (Value.int .i64 c.n) by go_simp)
        have lb : w.heap.size < wc.heap.size := cell_lt y3
        clear r3
        go_wp2_with fail
        go_ret
        exact ⟨ret1 (by rw [hc.out]; rfl), HB.out⟩
theorem check_any (c : Chg) (w : World) : Calls Try.prog 47 #[.agg #[.int .i64 c.sv, .int .i64 c.wk, .int .i64 c.th, .int .i64 c.fr, .int .i64 c.to, .int .i64 c.n]] w (Gives (.int .i64 (chkErr c)) w) := by
  cases h : inB c.sv 64 && inB c.th 64 && inB c.wk 16 with
  | false => exact check1 c w h
  | true =>
    by_cases h2 : first2 (timeErr c.fr) (timeErr c.to) = 0
    · exact check3 c w h h2
    · exact check2 c w h h2
end Go.Proofs.Ytfpifaccjfgfkaa
