/- What the reference's Size, Half, Fits and Whole, and minus of metronomelaw01, answer. Each theorem's premises are its conditions. -/
import Derived.Test.YtgdgfcogmfhpcaaDig4
import Derived.Test.YtgdgfcogmfhpcaaSmall
import Derived.WalkLawsBesides
import Derived.WalkSpells
import Derived.Outline
namespace Go.Proofs.Ytgdgfcogmfhpcaa
open Go.RowKit

theorem refSize_any (n : Int) (h : -9223372036854775808 ≤ n) (h' : n ≤ 9223372036854775807) (w : World) : Calls Try.prog 18 #[.int .i64 n] w fun e w' => e = .returned (.int .u64 ((n.natAbs : Nat) : Int)) ∧ w = w' := by
  by_cases h0 : n < 0
  · have e1 : IntKind.u64.wrap (-(n + 1)) = -(n + 1) := by rw [IntKind.wrap_u64]; omega
    have e2 : IntKind.u64.wrap (-(n + 1) + 1) = ((n.natAbs : Nat) : Int) := by rw [IntKind.wrap_u64]; omega
    have hv : ((n.natAbs : Nat) : Int) = -(n + 1) + 1 := by omega
    rw [hv] at e2 ⊢
    clear hv
    go_enter Try.func18, Try.ntmps18
    go_wp2
    go_ret
    exact ⟨by first | rfl | rw [e2] | simp [e1, e2], rfl⟩
  · have e1 : IntKind.u64.wrap n = n := by rw [IntKind.wrap_u64]; omega
    have hv : ((n.natAbs : Nat) : Int) = n := by omega
    rw [hv]
    clear hv
    go_enter Try.func18, Try.ntmps18
    go_wp2
    go_ret
    exact ⟨by first | rfl | simp [e1], rfl⟩

/-! ### the lowest four digits -/
theorem V4 (f : Nat → Nat) : Dig.V f 4 = f 0 + f 1 * 65536 + f 2 * 4294967296 + f 3 * 281474976710656 := by
  show ((((0 + f 0 * 65536 ^ 0) + f 1 * 65536 ^ 1) + f 2 * 65536 ^ 2) + f 3 * 65536 ^ 3) = _
  omega
theorem V12_mod {f : Nat → Nat} (hf : ∀ i, i < 12 → f i < 65536) : Dig.V f 12 % 18446744073709551616 = f 0 + f 1 * 65536 + f 2 * 4294967296 + f 3 * 281474976710656 := by
  have e : Dig.V f 12 = Dig.V f 4 + Dig.V (fun i => f (4 + i)) 8 * 65536 ^ 4 := Dig.V_shift f 4 8
  have h0 := hf 0 (by omega)
  have h1 := hf 1 (by omega)
  have h2 := hf 2 (by omega)
  have h3 := hf 3 (by omega)
  rw [e, V4, show (65536 : Nat) ^ 4 = 18446744073709551616 from by decide]
  generalize Dig.V (fun i => f (4 + i)) 8 = x
  omega
theorem V12_small {f : Nat → Nat} (hz : ∀ j, 4 ≤ j → j < 12 → f j = 0) : Dig.V f 12 = f 0 + f 1 * 65536 + f 2 * 4294967296 + f 3 * 281474976710656 := by
  rw [Dig.V_more 12 (by omega) hz, V4]
theorem V12_great {f : Nat → Nat} {j : Nat} (h0 : 4 ≤ j) (h1 : j < 12) (h : f j ≠ 0) : 18446744073709551616 ≤ Dig.V f 12 := by
  rw [show (12 : Nat) = 4 + 8 from rfl, Dig.V_shift, show (65536 : Nat) ^ 4 = 18446744073709551616 from by decide]
  have h2 : 1 ≤ Dig.V (fun i => f (4 + i)) 8 := by
    obtain ⟨i, rfl⟩ : ∃ i, j = 4 + i := ⟨j - 4, by omega⟩
    have h3 : i = 0 ∨ i = 1 ∨ i = 2 ∨ i = 3 ∨ i = 4 ∨ i = 5 ∨ i = 6 ∨ i = 7 := by omega
    simp only [Dig.V]
    rcases h3 with rfl | rfl | rfl | rfl | rfl | rfl | rfl | rfl <;> omega
  omega

set_option maxHeartbeats 1000000 in
theorem half_any (v : Value) (M : Nat) (w : World) (hv : IsNum w v M) :
    Calls Try.prog 19 #[v] w fun e w' => e = .returned (.int .u64 ((M % 18446744073709551616 : Nat) : Int)) ∧ w = w' := by
  obtain ⟨f, ⟨b1, c1, rfl, _, hc1⟩, hf, hA⟩ := hv
  rw [← hA, V12_mod hf]
  have x0 : w.cell? ⟨b1, 0, none⟩ = some (.int .i64 ((f 0 : Nat) : Int)) := hc1 0 (by omega)
  have x1 : w.cell? ⟨b1, 1, none⟩ = some (.int .i64 ((f 1 : Nat) : Int)) := hc1 1 (by omega)
  have x2 : w.cell? ⟨b1, 2, none⟩ = some (.int .i64 ((f 2 : Nat) : Int)) := hc1 2 (by omega)
  have x3 : w.cell? ⟨b1, 3, none⟩ = some (.int .i64 ((f 3 : Nat) : Int)) := hc1 3 (by omega)
  have h0 := hf 0 (by omega)
  have h1 := hf 1 (by omega)
  have h2 := hf 2 (by omega)
  have h3 := hf 3 (by omega)
  clear hc1 hf hA
  generalize f 0 = a0 at *
  generalize f 1 = a1 at *
  generalize f 2 = a2 at *
  generalize f 3 = a3 at *
  have w0 := u64_of a0 (by omega)
  have w1 := u64_of a1 (by omega)
  have w2 := u64_of a2 (by omega)
  have w3 := u64_of a3 (by omega)
  have k0 : (a0 : Int) ≤ 65535 := by omega
  have k1 : (a1 : Int) ≤ 65535 := by omega
  have k2 : (a2 : Int) ≤ 65535 := by omega
  have k3 : (a3 : Int) ≤ 65535 := by omega
  have E : Hid (((a0 + a1 * 65536 + a2 * 4294967296 + a3 * 281474976710656 : Nat) : Int) = (((a3 : Int) * 65536 + a2) * 65536 + a1) * 65536 + a0) := by show _ = _; omega
  have E1 : IntKind.u64.wrap ((a3 : Int) * 65536) = (a3 : Int) * 65536 := by rw [IntKind.wrap_u64]; omega
  have E2 : IntKind.u64.wrap ((a3 : Int) * 65536 + a2) = (a3 : Int) * 65536 + a2 := by rw [IntKind.wrap_u64]; omega
  have E3 : IntKind.u64.wrap (((a3 : Int) * 65536 + a2) * 65536) = ((a3 : Int) * 65536 + a2) * 65536 := by rw [IntKind.wrap_u64]; omega
  have E4 : IntKind.u64.wrap (((a3 : Int) * 65536 + a2) * 65536 + a1) = ((a3 : Int) * 65536 + a2) * 65536 + a1 := by rw [IntKind.wrap_u64]; omega
  have E5 : IntKind.u64.wrap ((((a3 : Int) * 65536 + a2) * 65536 + a1) * 65536) = (((a3 : Int) * 65536 + a2) * 65536 + a1) * 65536 := by rw [IntKind.wrap_u64]; omega
  have E6 : IntKind.u64.wrap ((((a3 : Int) * 65536 + a2) * 65536 + a1) * 65536 + a0) = (((a3 : Int) * 65536 + a2) * 65536 + a1) * 65536 + a0 := by rw [IntKind.wrap_u64]; omega
  rw [E.out]
  clear h0 h1 h2 h3
  go_enter Try.func19, Try.ntmps19
  go_wp2_with fail
  refine wp_loop_rounds 5 ?_
  rw [rounds_succ]
  go_wp2
  rw [rounds_succ]
  go_wp2
  rw [rounds_succ]
  go_wp2
  rw [rounds_succ]
  go_wp2
  rw [rounds_succ]
  go_wp2
  go_ret
  exact ⟨rfl, rfl⟩

/-! ### no more than four digits -/
def Small4Rel (f : Nat → Nat) (w : World) (i : Value) (wr : World) : Prop := ∃ k : Nat, 4 ≤ k ∧ k ≤ 12 ∧ i = .int .i64 k ∧ (∀ j, 4 ≤ j → j < k → f j = 0) ∧ ∃ n, wr = w.drewN n
set_option maxHeartbeats 800000 in
/-- Small at four digits, and what it says of the digits. -/
theorem small4 (b1 c1 : Nat) (f : Nat → Nat) (w : World) (hc1 : ∀ i, i < 12 → w.cell? ⟨b1, i, none⟩ = some (.int .i64 ((f i : Nat) : Int))) :
    Calls Try.prog 28 #[.slice (some ⟨b1, 0, none⟩) 12 c1, .int .i64 4] w fun e w' => ∃ r : Bool, e = .returned (.bool r) ∧ (∃ n, w' = w.drewN n) ∧ (r = true → ∀ j, 4 ≤ j → j < 12 → f j = 0) ∧ (r = false → 18446744073709551616 ≤ Dig.V f 12) := by
  have HC := Lib.hid hc1
  clear hc1
  go_enter Try.func28, Try.ntmps28
  go_wp2
  go_loopw [5] (fun i wr => Small4Rel f w i wr) (fun i _ => 12 - (intOf i).toNat)
  case atStart => exact ⟨4, by omega, by omega, rfl, fun j h1 h2 => by omega, 0, rfl⟩
  case round =>
    obtain ⟨k, h8, hk, rfl, he, n, rfl⟩ := hrel
    have HE := Lib.hid he
    clear he
    by_cases hlt : k < 12
    · have x1 : w.cell? ⟨b1, k, none⟩ = some (.int .i64 ((f k : Nat) : Int)) := HC.out k hlt
      have i1 : (k : Int) < 12 := by omega
      have i0 : (0 : Int) ≤ (k : Int) := by omega
      by_cases h0 : f k = 0
      · have t1 : (((f k : Nat) : Int) != 0) = false := by rw [h0]; rfl
        have HE2 : Hid (∀ j, 4 ≤ j → j < k + 1 → f j = 0) := fun j h1 h2 => by
          by_cases e : j = k
          · subst e; exact h0
          · exact HE.out j h1 (by omega)
        clear h0
        generalize f k = x at *
        go_wp2
        exact ⟨⟨k + 1, by omega, by omega, by go_num, HE2.out, _, rfl⟩, by simp [intOf]; omega⟩
      · have t1 : (((f k : Nat) : Int) != 0) = true := by simp; omega
        have d2 := Lib.hid (V12_great h8 hlt h0)
        clear h0
        generalize f k = x at *
        go_wp2
        go_ret
        exact ⟨false, rfl, ⟨_, rfl⟩, (fun h => by cases h), (fun _ => d2.out)⟩
    · obtain rfl : k = 12 := by omega
      go_wp2
      go_ret
      exact ⟨true, rfl, ⟨_, rfl⟩, (fun _ => HE.out), (fun h => by cases h)⟩

set_option maxHeartbeats 800000 in
theorem fits_any (b1 c1 : Nat) (f : Nat → Nat) (hf : ∀ i, i < 12 → f i < 65536) (w : World) (hc1 : ∀ i, i < 12 → w.cell? ⟨b1, i, none⟩ = some (.int .i64 ((f i : Nat) : Int))) :
    Calls Try.prog 36 #[.slice (some ⟨b1, 0, none⟩) 12 c1] w (Draws (.bool (decide (Dig.V f 12 < 9223372036854775808))) w) := by
  have S := Lib.hid (small4 b1 c1 f w hc1)
  obtain ⟨r, hr⟩ : ∃ r, decide (Dig.V f 12 < 9223372036854775808) = r := ⟨_, rfl⟩
  rw [hr]
  have HR := Lib.hid hr
  have x3 : w.cell? ⟨b1, 3, none⟩ = some (.int .i64 ((f 3 : Nat) : Int)) := hc1 3 (by omega)
  have h0 := hf 0 (by omega)
  have h1 := hf 1 (by omega)
  have h2 := hf 2 (by omega)
  clear hc1 hr
  unfold Draws
  go_enter Try.func36, Try.ntmps36
  go_wp2_with fail
  refine (S.out).mono ?_
  rintro e w1 ⟨s, rfl, ⟨n, rfl⟩, hs1, hs2⟩
  cases s with
  | false =>
    have d : Hid (false = r) := by show _ = _; rw [← HR.out]; symm; exact decide_eq_false (by have := hs2 rfl; omega)
    clear hs1 hs2 h0 h1 h2
    go_wp2
    go_ret
    exact ⟨ret1 (congrArg Value.bool d.out), _, rfl⟩
  | true =>
    have e := V12_small (f := f) (hs1 rfl)
    rw [e] at HR
    have d : Hid (decide ((f 3 : Int) < 32768) = r) := by show _ = _; rw [← HR.out]; exact decide_eq_decide.2 (by omega)
    clear hs1 hs2 h0 h1 h2 e
    generalize f 3 = a3 at *
    go_wp2
    go_ret
    exact ⟨ret1 (congrArg Value.bool d.out), _, rfl⟩

/-- does the number of a product fit? -/
def wholeIs (M : Nat) (below : Bool) : Bool := decide (M < 9223372036854775808) || (below && decide (M = 9223372036854775808))
set_option maxHeartbeats 1600000 in
theorem whole_any (v : Value) (M : Nat) (below : Bool) (w : World) (hv : IsNum w v M) :
    Calls Try.prog 21 #[v, .bool below] w (Draws (.bool (wholeIs M below)) w) := by
  obtain ⟨f, ⟨b1, c1, rfl, _, hc1⟩, hf, hA⟩ := hv
  have FI := Lib.hid (fits_any b1 c1 f hf)
  have S := Lib.hid (small4 b1 c1 f)
  rw [hA] at FI S
  have x0 : ∀ n, (w.drewN n).cell? ⟨b1, 0, none⟩ = some (.int .i64 ((f 0 : Nat) : Int)) := fun n => hc1 0 (by omega)
  have x1 : ∀ n, (w.drewN n).cell? ⟨b1, 1, none⟩ = some (.int .i64 ((f 1 : Nat) : Int)) := fun n => hc1 1 (by omega)
  have x2 : ∀ n, (w.drewN n).cell? ⟨b1, 2, none⟩ = some (.int .i64 ((f 2 : Nat) : Int)) := fun n => hc1 2 (by omega)
  have x3 : ∀ n, (w.drewN n).cell? ⟨b1, 3, none⟩ = some (.int .i64 ((f 3 : Nat) : Int)) := fun n => hc1 3 (by omega)
  have HC := Lib.hid hc1
  by_cases hM : M < 9223372036854775808
  · have e : wholeIs M below = true := by unfold wholeIs; rw [decide_eq_true hM]; rfl
    have d := decide_eq_true hM
    rw [d] at FI
    rw [e]
    clear e d hM hA x0 x1 x2 x3 hf S hc1
    go_enter Try.func21, Try.ntmps21
    go_wp2_with fail
    refine (FI.out w HC.out).mono ?_
    rintro e w1 ⟨rfl, n, rfl⟩
    go_wp2
    go_ret
    exact ⟨rfl, n, rfl⟩
  have d := decide_eq_false hM
  rw [d] at FI
  have e : wholeIs M below = (below && decide (M = 9223372036854775808)) := by unfold wholeIs; rw [d]; rfl
  rw [e]
  clear d e hc1
  cases below with
  | false =>
    clear x0 x1 x2 x3 hf S hM hA
    go_enter Try.func21, Try.ntmps21
    go_wp2_with fail
    refine (FI.out w HC.out).mono ?_
    rintro e w1 ⟨rfl, n, rfl⟩
    go_wp2
    go_ret
    exact ⟨rfl, n, rfl⟩
  | true =>
    obtain ⟨r, hr⟩ : ∃ r, (true && decide (M = 9223372036854775808)) = r := ⟨_, rfl⟩
    rw [hr]
    rw [Bool.true_and] at hr
    have HR := Lib.hid hr
    have h0 := hf 0 (by omega)
    have h1 := hf 1 (by omega)
    have h2 := hf 2 (by omega)
    have h3 := hf 3 (by omega)
    have HV : Hid ((∀ j, 4 ≤ j → j < 12 → f j = 0) → M = f 0 + f 1 * 65536 + f 2 * 4294967296 + f 3 * 281474976710656) := fun h => by rw [← hA]; exact V12_small h
    clear hr hf hA
    go_enter Try.func21, Try.ntmps21
    go_wp2_with fail
    refine (FI.out w HC.out).mono ?_
    rintro e w1 ⟨rfl, n, rfl⟩
    go_wp2_with fail
    refine (S.out (w.drewN n) (fun i hi => HC.out i hi)).mono ?_
    rintro e w1 ⟨s, rfl, ⟨m, rfl⟩, hs1, hs2⟩
    have y0 := x0 (n + m)
    have y1 := x1 (n + m)
    have y2 := x2 (n + m)
    have y3 := x3 (n + m)
    have ed : (w.drewN n).drewN m = w.drewN (n + m) := World.drewN_drewN _ _ _
    rw [ed]
    clear x0 x1 x2 x3 ed
    cases s with
    | false =>
      have d : Hid (false = r) := by show _ = _; rw [← HR.out]; symm; exact decide_eq_false (by have := hs2 rfl; omega)
      clear hs1 hs2 h0 h1 h2 h3 HV hM
      go_wp2
      go_ret
      exact ⟨ret1 (congrArg Value.bool d.out), _, rfl⟩
    | true =>
      have hv := HV.out (hs1 rfl)
      clear hs1 hs2 HV FI S HC
      generalize f 0 = a0 at *
      generalize f 1 = a1 at *
      generalize f 2 = a2 at *
      generalize f 3 = a3 at *
      by_cases g3 : a3 = 32768
      · by_cases g2 : a2 = 0
        · by_cases g1 : a1 = 0
          · have d : Hid (((a0 : Int) == 0) = r) := by
              show _ = _
              rw [← HR.out]
              by_cases g0 : a0 = 0
              · rw [decide_eq_true (by omega), g0]; rfl
              · rw [decide_eq_false (by omega)]; simp; omega
            have t3 : ((a3 : Int) == 32768) = true := by simp; omega
            have t2 : ((a2 : Int) == 0) = true := by simp; omega
            have t1 : ((a1 : Int) == 0) = true := by simp; omega
            clear hM h0 h1 h2 h3 hv g1 g2 g3
            go_wp2
            go_ret
            exact ⟨ret1 (congrArg Value.bool d.out), _, rfl⟩
          · have d : Hid (false = r) := by show _ = _; rw [← HR.out]; symm; exact decide_eq_false (by omega)
            have t3 : ((a3 : Int) == 32768) = true := by simp; omega
            have t2 : ((a2 : Int) == 0) = true := by simp; omega
            have t1 : ((a1 : Int) == 0) = false := by simp; omega
            clear hM h0 h1 h2 h3 hv g1 g2 g3
            go_wp2
            go_ret
            exact ⟨ret1 (congrArg Value.bool d.out), _, rfl⟩
        · have d : Hid (false = r) := by show _ = _; rw [← HR.out]; symm; exact decide_eq_false (by omega)
          have t3 : ((a3 : Int) == 32768) = true := by simp; omega
          have t2 : ((a2 : Int) == 0) = false := by simp; omega
          clear hM h0 h1 h2 h3 hv g2 g3
          go_wp2
          go_ret
          exact ⟨ret1 (congrArg Value.bool d.out), _, rfl⟩
      · have d : Hid (false = r) := by show _ = _; rw [← HR.out]; symm; exact decide_eq_false (by omega)
        have t3 : ((a3 : Int) == 32768) = false := by simp; omega
        clear hM h0 h1 h2 h3 hv g3
        go_wp2
        go_ret
        exact ⟨ret1 (congrArg Value.bool d.out), _, rfl⟩

theorem minus_pos (n : Nat) (h : n ≤ 9223372036854775807) (w : World) : Calls Try.prog 22 #[.int .u64 n, .bool false] w fun e w' => e = .returned (.int .i64 n) ∧ w = w' := by
  have e1 : IntKind.i64.wrap (n : Int) = (n : Int) := by rw [IntKind.wrap_i64]; omega
  go_enter Try.func22, Try.ntmps22
  go_wp2
  go_ret
  exact ⟨rfl, rfl⟩
theorem minus_neg (n : Nat) (h0 : 1 ≤ n) (h : n ≤ 9223372036854775808) (w : World) : Calls Try.prog 22 #[.int .u64 n, .bool true] w fun e w' => e = .returned (.int .i64 (-(n : Int))) ∧ w = w' := by
  obtain ⟨m, rfl⟩ : ∃ m, n = m + 1 := ⟨n - 1, by omega⟩
  have e0 : IntKind.u64.wrap (((m + 1 : Nat) : Int) - 1) = (m : Int) := by rw [IntKind.wrap_u64]; omega
  have e1 : IntKind.i64.wrap (m : Int) = (m : Int) := by rw [IntKind.wrap_i64]; omega
  have hv : Hid (-(((m + 1 : Nat) : Int)) = -(m : Int) - 1) := by show _ = _; omega
  rw [hv.out]
  have i1 : (m : Int) ≤ 9223372036854775807 := by omega
  generalize ((m + 1 : Nat) : Int) = y at *
  clear h h0
  go_enter Try.func22, Try.ntmps22
  go_wp2
  go_ret
  exact ⟨rfl, rfl⟩
end Go.Proofs.Ytgdgfcogmfhpcaa
