/- GrubParts answers true at every meter, times and rate. No condition. -/
import Derived.Test.YtnahedmccbkflaaGrubAwake
import Derived.Test.YtnahedmccbkflaaGrubAll
import Derived.WalkLawsBesides
import Derived.WalkSpells
import Derived.Outline
import Derived.Deep.RegionWith
namespace Go.Proofs.Ytnahedmccbkflaa.grubParts
open Go.ChangeShapes Go.WideShapes Go.ChangeAt Go.RowKit Go.Joins

/-! ### the plain law -/
theorem bel_via {a w w1 w' : World} (h : Below a.heap.size a w) (hb : Below w1.heap.size w1 w') (hm : Below w.heap.size w w1) : Below a.heap.size a w' := bel_end (bel_end h hm) hb
theorem part_any (r t : Int) (up : Bool) (hr : r ≤ 9223372036854775807) (ht : t ≤ 9223372036854775807) (w : World) :
    Calls Try.prog 20 #[.int .i64 r, .int .i64 t, .bool up] w (Gives (.tuple #[.int .i64 (divNum r t 1048576 up), .int .i64 (divErr r t 1048576 up)]) w) := by
  have D := Lib.hid (div_any r t 1048576 up hr ht (by omega))
  generalize divNum r t 1048576 up = n at *
  generalize divErr r t 1048576 up = x at *
  go_enter Try.func20, Try.ntmps20
  go_wp2_with (go_at_call 26; refine (D.out _).mono ?_; rintro e w' ⟨rfl, hb⟩)
  go_ret2
  exact ⟨rfl, hb⟩
theorem part_is {p t : Int} (hp : 0 ≤ p) (hp' : p ≤ 1048576) (ht : 0 ≤ t) (ht' : t ≤ 40000000) : divNum p t 1048576 false = (t * p + 0) / 1048576 ∧ divErr p t 1048576 false = 0 := by
  have m : p.toNat * t.toNat ≤ 1048576 * 40000000 := Nat.mul_le_mul (by omega) (by omega)
  have h := divRes_ok (a := p) (b := t) (c := 1048576) (up := false) hp ht (by omega) (by
    rw [quot_low]
    show p.toNat * t.toNat / 1048576 ≤ _
    omega)
  refine ⟨?_, h.2⟩
  rw [h.1, quot_low]
  show ((p.toNat * t.toNat / 1048576 : Nat) : Int) = _
  rw [Int.natCast_ediv, Int.natCast_mul, Int.toNat_of_nonneg hp, Int.toNat_of_nonneg ht, Int.mul_comm]
  show _ = (t * p + 0) / ((1048576 : Nat) : Int)
  rw [Int.add_zero]
theorem part_less {p t r : Int} (hp : 0 ≤ p) (hp' : p ≤ 1048576) (ht : 0 ≤ t) (hr : 0 ≤ r) (hr' : r ≤ 1048575) : 0 ≤ (t * p + 0) / 1048576 ∧ (t * p + 0) / 1048576 ≤ t ∧ (t * p + 0) / 1048576 ≤ (t * p + r) / 1048576 ∧ (t * p + r) / 1048576 ≤ (t * p + 0) / 1048576 + 1 := by
  have h : t * p ≤ t * 1048576 := Int.mul_le_mul_of_nonneg_left hp' ht
  have h2 : 0 ≤ t * p := Int.mul_nonneg ht hp
  generalize t * p = x at *
  omega

/-! ### the walk -/
/-- what the loop knows at its head. -/
def Rel (zs : List Int) (r p : Int) (len : Nat) (w : World) (t s i : Value) (wr : World) : Prop :=
  ∃ (k : Nat), k ≤ len ∧ i = .int .i64 k ∧ t = .int .i64 (upto zs k) ∧ s = .int .i64 ((upto zs k * p + r) / 1048576) ∧ Below w.heap.size w wr ∧ w.heap.size + 1 < wr.heap.size ∧
    wr.cell? ⟨w.heap.size, 0, none⟩ = some (.int .i64 r) ∧
    wr.cell? ⟨w.heap.size + 1, 0, none⟩ = some (.int .i64 ((upto zs k * p + r) % 1048576)) ∧ wr.frozen? ⟨w.heap.size + 1, 0, none⟩ = false ∧
    ∀ j, j < k → 0 ≤ zs.getD j 0 ∧ zs.getD j 0 ≤ 1000000
set_option maxRecDepth 100000 in
set_option maxHeartbeats 4000000 in
theorem out0 (r p : Int) (a : Option Addr) (len cap : Nat)  (h : r < 0) (w : World) : Calls Try.prog 8 #[.agg #[.int .i64 r], .slice a len cap, .int .i64 p] w (Yes w) := by
  have d0 : decide (r < 0) = true := decide_eq_true h
  clear h
  go_enter Try.func8, Try.ntmps8
  go_wp2_with (go_at_call 13; refine (awake_yes _).mono ?_; rintro e w' ⟨rfl, hb⟩)
  go_ret
  refine ⟨rfl, bel_end ?_ hb⟩
  repeat (with_reducible refine bel_alloc ?_)
  with_reducible exact Below.refl _ _
set_option maxRecDepth 100000 in
set_option maxHeartbeats 4000000 in
theorem out1 (r p : Int) (a : Option Addr) (len cap : Nat) (h0 : 0 ≤ r) (h : 1048575 < r) (w : World) : Calls Try.prog 8 #[.agg #[.int .i64 r], .slice a len cap, .int .i64 p] w (Yes w) := by
  have d0 : decide (r < 0) = false := decide_eq_false (Int.not_lt.2 h0)
  have d1 : decide (1048575 < r) = true := decide_eq_true h
  clear h0 h
  go_enter Try.func8, Try.ntmps8
  go_wp2_with (go_at_call 13; refine (awake_yes _).mono ?_; rintro e w' ⟨rfl, hb⟩)
  go_ret
  refine ⟨rfl, bel_end ?_ hb⟩
  repeat (with_reducible refine bel_alloc ?_)
  with_reducible exact Below.refl _ _
set_option maxRecDepth 100000 in
set_option maxHeartbeats 4000000 in
theorem out2 (r p : Int) (a : Option Addr) (len cap : Nat) (h0 : 0 ≤ r) (h1 : r ≤ 1048575) (h : 40 < (len : Int)) (w : World) : Calls Try.prog 8 #[.agg #[.int .i64 r], .slice a len cap, .int .i64 p] w (Yes w) := by
  have d0 : decide (r < 0) = false := decide_eq_false (Int.not_lt.2 h0)
  have d1 : decide (1048575 < r) = false := decide_eq_false (Int.not_lt.2 h1)
  have d2 : decide (40 < (len : Int)) = true := decide_eq_true h
  clear h0 h1 h
  go_enter Try.func8, Try.ntmps8
  go_wp2_with (go_at_call 13; refine (awake_yes _).mono ?_; rintro e w' ⟨rfl, hb⟩)
  go_ret
  refine ⟨rfl, bel_end ?_ hb⟩
  repeat (with_reducible refine bel_alloc ?_)
  with_reducible exact Below.refl _ _
set_option maxRecDepth 100000 in
set_option maxHeartbeats 4000000 in
theorem out3 (r p : Int) (a : Option Addr) (len cap : Nat) (h0 : 0 ≤ r) (h1 : r ≤ 1048575) (h2 : (len : Int) ≤ 40) (h : p < 0) (w : World) : Calls Try.prog 8 #[.agg #[.int .i64 r], .slice a len cap, .int .i64 p] w (Yes w) := by
  have d0 : decide (r < 0) = false := decide_eq_false (Int.not_lt.2 h0)
  have d1 : decide (1048575 < r) = false := decide_eq_false (Int.not_lt.2 h1)
  have d2 : decide (40 < (len : Int)) = false := decide_eq_false (Int.not_lt.2 h2)
  have d3 : decide (p < 0) = true := decide_eq_true h
  clear h0 h1 h2 h
  go_enter Try.func8, Try.ntmps8
  go_wp2_with (go_at_call 13; refine (awake_yes _).mono ?_; rintro e w' ⟨rfl, hb⟩)
  go_ret
  refine ⟨rfl, bel_end ?_ hb⟩
  repeat (with_reducible refine bel_alloc ?_)
  with_reducible exact Below.refl _ _
set_option maxRecDepth 100000 in
set_option maxHeartbeats 4000000 in
theorem out4 (r p : Int) (a : Option Addr) (len cap : Nat) (h0 : 0 ≤ r) (h1 : r ≤ 1048575) (h2 : (len : Int) ≤ 40) (h3 : 0 ≤ p) (h : 1048576 < p) (w : World) : Calls Try.prog 8 #[.agg #[.int .i64 r], .slice a len cap, .int .i64 p] w (Yes w) := by
  have d0 : decide (r < 0) = false := decide_eq_false (Int.not_lt.2 h0)
  have d1 : decide (1048575 < r) = false := decide_eq_false (Int.not_lt.2 h1)
  have d2 : decide (40 < (len : Int)) = false := decide_eq_false (Int.not_lt.2 h2)
  have d3 : decide (p < 0) = false := decide_eq_false (Int.not_lt.2 h3)
  have d4 : decide (1048576 < p) = true := decide_eq_true h
  clear h0 h1 h2 h3 h
  go_enter Try.func8, Try.ntmps8
  go_wp2_with (go_at_call 13; refine (awake_yes _).mono ?_; rintro e w' ⟨rfl, hb⟩)
  go_ret
  refine ⟨rfl, bel_end ?_ hb⟩
  repeat (with_reducible refine bel_alloc ?_)
  with_reducible exact Below.refl _ _
set_option maxRecDepth 100000 in
set_option maxHeartbeats 4000000 in
theorem inside (r p : Int) (b off cap : Nat) (zs : List Int) (h0 : 0 ≤ r) (h1 : r ≤ 1048575) (h2 : zs.length ≤ 40) (h3 : 0 ≤ p) (h4 : p ≤ 1048576) (w : World) (hb : b < w.heap.size) (hn : 0 < zs.length)
    (hc : ∀ j, j < zs.length → w.cell? ⟨b, off + j, none⟩ = some (.int .i64 (zs.getD j 0))) : Calls Try.prog 8 #[.agg #[.int .i64 r], .slice (some ⟨b, off, none⟩) zs.length cap, .int .i64 p] w (Yes w) := by
  have HC := Lib.hid hc
  have AL : Hid (∀ w' : World, Below w.heap.size w w' → (∀ j, j < zs.length → 0 ≤ zs.getD j 0 ∧ zs.getD j 0 ≤ 1000000) → Calls Try.prog 19 #[.agg #[.int .i64 r], .int .i64 p, .slice (some ⟨b, off, none⟩) zs.length cap] w' (Gives (.tuple #[.int .i64 ((upto zs zs.length * p + r) / 1048576), .agg #[.int .i64 ((upto zs zs.length * p + r) % 1048576)], .int .i64 0]) w')) := fun w' hbe hz =>
    all_any _ zs r p h0 h1 h3 h4 h2 w' (IntRow.below (.inr ⟨b, off, cap, rfl, hb, hn, hc⟩) hbe) hz
  obtain ⟨len, hlen⟩ : ∃ n, zs.length = n := ⟨_, rfl⟩
  have HL := Lib.hid hlen
  rw [hlen] at AL h2
  rw [hlen]
  have i0 : (len : Int) ≤ 40 := by omega
  clear hc hlen hn
  go_enter Try.func8, Try.ntmps8
  go_wp2_with fail
  go_loopw [7, 8, 10] (fun t s i wr => Rel zs r p len w t s i wr) (fun _ _ i _ => len - (intOf i).toNat)
  case atStart =>
    have e0 : upto zs 0 * p + r = r := by show 0 * p + r = r; rw [Int.zero_mul]; omega
    have e1 : r / 1048576 = 0 := by omega
    have e2 : r % 1048576 = r := by omega
    refine ⟨0, by omega, rfl, rfl, ?_, ?_, ?_, ?_, ?_, ?_, fun j hj => by omega⟩
    · rw [e0, e1]
    · repeat (first | with_reducible refine bel_alloc ?_ | with_reducible refine bel_drew ?_)
      with_reducible exact Below.refl _ _
    · go_simp
    · go_simp
    · rw [e0, e2]; go_simp
    · go_simp
  case round =>
    obtain ⟨k, hk, rfl, rfl, rfl, hbe, hsz, hm, hcell, hfr, hin⟩ := hrel
    have HI := Lib.hid hin
    have HB := Lib.hid hbe
    have u := upto_range (zs := zs) (k := k) hin
    have m1 := mul_time (t := upto zs k) (p := p) u.1 (by omega) h3 h4
    by_cases hlt : k < len
    · have hcr' : wr.cell? ⟨b, off + k, none⟩ = some (.int .i64 (zs.getD k 0)) := by rw [hbe.cell (p := ⟨b, off + k, none⟩) hb]; exact HC.out k (by rw [HL.out]; exact hlt)
      have nx := charge_next zs k r p
      have nt : upto zs (k + 1) = upto zs k + zs.getD k 0 := rfl
      have HI2 : Hid (0 ≤ zs.getD k 0 ∧ zs.getD k 0 ≤ 1000000 → ∀ j, j < k + 1 → 0 ≤ zs.getD j 0 ∧ zs.getD j 0 ≤ 1000000) := fun h j hj => by
        by_cases e : j = k
        · subst e; exact h
        · exact HI.out j (by omega)
      have hlt' : (k : Int) < (len : Int) := by omega
      clear hin hbe HI
      generalize zs.getD k 0 = t at *
      by_cases t0 : t < 0
      · have d0 : decide (t < 0) = true := decide_eq_true t0
        clear nx nt HI2 u m1 t0
        go_wp2_with (go_at_call 13; refine (awake_yes _).mono ?_; rintro e w' ⟨rfl, hb⟩)
        go_ret
        exact ⟨rfl, bel_end HB.out hb⟩
      by_cases t1 : 1000000 < t
      · have d0 : decide (t < 0) = false := decide_eq_false t0
        have d1 : decide (1000000 < t) = true := decide_eq_true t1
        clear nx nt HI2 u m1 t0 t1
        go_wp2_with (go_at_call 13; refine (awake_yes _).mono ?_; rintro e w' ⟨rfl, hb⟩)
        go_ret
        exact ⟨rfl, bel_end HB.out hb⟩
      have d0 : decide (t < 0) = false := decide_eq_false t0
      have d1 : decide (1000000 < t) = false := decide_eq_false t1
      have hrk : 0 ≤ t ∧ t ≤ 1000000 := by omega
      have HI3 := Lib.hid (HI2.out hrk)
      have hT0 := u.1
      have hT1 : upto zs k ≤ 40000000 := by omega
      obtain ⟨X, hX⟩ : ∃ X, upto zs k * p + r = X := ⟨_, rfl⟩
      have hX0 : 0 ≤ X := by omega
      have hX1 : X ≤ 1152921504606847000 := by omega
      rw [hX] at nx hcell ⊢
      have m2 := mul_time (t := t) (p := p) hrk.1 (by omega) h3 h4
      have C := Lib.hid (charge_gives (X % 1048576) t p (by omega) (by omega) hrk.1 (by omega) h3 h4)
      obtain ⟨y, hy⟩ : ∃ y, t * p = y := ⟨_, rfl⟩
      rw [hy] at nx C m2
      obtain ⟨S1, hS1⟩ : ∃ z, X / 1048576 = z := ⟨_, rfl⟩
      obtain ⟨R1, hR1⟩ : ∃ z, X % 1048576 = z := ⟨_, rfl⟩
      rw [hR1] at nx C hcell
      rw [hS1] at nx ⊢
      obtain ⟨S2, hS2⟩ : ∃ z, (y + R1) / 1048576 = z := ⟨_, rfl⟩
      obtain ⟨R2, hR2⟩ : ∃ z, (y + R1) % 1048576 = z := ⟨_, rfl⟩
      rw [hS2, hR2] at nx C
      have NX := Lib.hid nx
      have NT := Lib.hid nt
      have i1 : 0 ≤ S1 := by omega
      have i2 : S1 ≤ 1152921504606847000 := by omega
      have i3 : 0 ≤ S2 := by omega
      have i4 : S2 ≤ 1152921504606847000 := by omega
      have k0 : 0 ≤ t := hrk.1
      have k1 : t ≤ 1000000 := hrk.2
      clear u m1 m2 hX hX0 hX1 hS1 hR1 hS2 hR2 hrk nx nt hy HI2 t0 t1
      generalize upto zs k = T at *
      have hsz0 : w.heap.size < wr.heap.size := by omega
      have hsb : b < wr.heap.size := by omega
      go_wp2_with fail
      go_region_with (first
        | (go_at_call 15; refine (C.out _).mono ?_; rintro e w4 ⟨rfl, b4⟩; have c4 : w4.cell? ⟨w.heap.size + 1, 0, none⟩ = some (.int .i64 R1) := (b4.cell (p := ⟨w.heap.size + 1, 0, none⟩) (by first | (simp; done) | (simp; omega))).trans (by go_simp); have f4 : w4.frozen? ⟨w.heap.size + 1, 0, none⟩ = false := (b4.frozen (p := ⟨w.heap.size + 1, 0, none⟩) (by first | (simp; done) | (simp; omega))).trans (by go_simp); have c5 : w4.cell? ⟨w.heap.size, 0, none⟩ = some (.int .i64 r) := (b4.cell (p := ⟨w.heap.size, 0, none⟩) (by first | (simp; done) | (simp; omega))).trans (by go_simp); have c6 : w4.cell? ⟨wr.heap.size, 0, none⟩ = some (.int .i64 0) := (b4.cell (p := ⟨wr.heap.size, 0, none⟩) (by first | (simp; done) | (simp; omega))).trans (by go_simp); have f6 : w4.frozen? ⟨wr.heap.size, 0, none⟩ = false := (b4.frozen (p := ⟨wr.heap.size, 0, none⟩) (by first | (simp; done) | (simp; omega))).trans (by go_simp); have z4 : wr.heap.size + 1 ≤ w4.heap.size := (by have h := b4.size; simp at h; omega); have l4 : w.heap.size < w4.heap.size := (by omega); have l5 : w.heap.size + 1 < w4.heap.size := (by omega); have HB4 := Lib.hid (bel_end (bel_drew (bel_alloc HB.out)) b4))
        | (go_at_call 15; refine (C.out _).mono ?_; rintro e w4 ⟨rfl, b4⟩; have c4 : w4.cell? ⟨w.heap.size + 1, 0, none⟩ = some (.int .i64 R1) := (b4.cell (p := ⟨w.heap.size + 1, 0, none⟩) (by first | (simp; done) | (simp; omega))).trans (by go_simp); have f4 : w4.frozen? ⟨w.heap.size + 1, 0, none⟩ = false := (b4.frozen (p := ⟨w.heap.size + 1, 0, none⟩) (by first | (simp; done) | (simp; omega))).trans (by go_simp); have c5 : w4.cell? ⟨w.heap.size, 0, none⟩ = some (.int .i64 r) := (b4.cell (p := ⟨w.heap.size, 0, none⟩) (by first | (simp; done) | (simp; omega))).trans (by go_simp); have z4 : wr.heap.size ≤ w4.heap.size := (by have h := b4.size; simp at h; omega); have l4 : w.heap.size < w4.heap.size := (by omega); have l5 : w.heap.size + 1 < w4.heap.size := (by omega); have HB4 := Lib.hid (bel_end (bel_drew HB.out) b4)))
      all_goals (clear hcell hfr hm b4 hcr')
      all_goals go_wp2
      all_goals (refine ⟨⟨k + 1, by omega, by go_num, by rw [NT.out], by rw [NX.out.1], ?_, by (first | (simp; done) | (simp; omega)), by go_simp, by rw [NX.out.2]; go_simp, by go_simp, HI3.out⟩, by simp [intOf]; omega⟩)
      all_goals (first | exact bel_alloc (HB4.out.setCell (p := ⟨w.heap.size + 1, 0, none⟩) (show w.heap.size ≤ w.heap.size + 1 by omega) _) | exact (HB4.out.setCell (p := ⟨wr.heap.size, 0, none⟩) (show w.heap.size ≤ wr.heap.size by omega) _).setCell (p := ⟨w.heap.size + 1, 0, none⟩) (show w.heap.size ≤ w.heap.size + 1 by omega) _)
    · obtain rfl : k = len := by omega
      have AL2 := Lib.hid (fun (w' : World) (h : Below wr.heap.size wr w') => AL.out w' (hbe.trans (h.mono (by omega))) (fun j hj => HI.out j hj))
      have C1 := Lib.hid (charge_gives r (upto zs k) p h0 h1 u.1 (by omega) h3 h4)
      have C3 := Lib.hid (charge_gives 0 (upto zs k) p (by omega) (by omega) u.1 (by omega) h3 h4)
      have P := Lib.hid (part_any p (upto zs k) false (by omega) (by omega))
      have ps := part_is h3 h4 u.1 (by omega)
      have pl := part_less (r := r) h3 h4 u.1 h0 h1
      rw [ps.1, ps.2] at P
      have hT0 := u.1
      have hT1 : upto zs k ≤ 40000000 := by omega
      clear HI hin AL HB ps u m1
      have HB := Lib.hid hbe
      clear hbe
      generalize upto zs k = T at *
      obtain ⟨S1, hS1⟩ : ∃ z, (T * p + r) / 1048576 = z := ⟨_, rfl⟩
      obtain ⟨R1, hR1⟩ : ∃ z, (T * p + r) % 1048576 = z := ⟨_, rfl⟩
      obtain ⟨F1, hF1⟩ : ∃ z, (T * p + 0) / 1048576 = z := ⟨_, rfl⟩
      generalize (T * p + 0) % 1048576 = F2 at C3
      rw [hR1] at hcell AL2 C1
      rw [hS1] at pl AL2 C1 ⊢
      rw [hF1] at pl C3 P
      obtain ⟨q0, q1, q2, q3⟩ := pl
      clear hS1 hR1 hF1
      go_wp2_with fail
      refine (C1.out _).mono ?_
      rintro e w1 ⟨rfl, b1⟩
      have bb1 : Below w.heap.size w w1 := by
        refine bel_end ?_ b1
        repeat (first | with_reducible refine bel_alloc ?_ | with_reducible refine bel_drew ?_)
        exact HB.out
      have BB1 := Lib.hid bb1
      clear bb1
      have Rm1 := Lib.hid b1
      have lm1 : w.heap.size < w1.heap.size := by
        have h := Rm1.out.size
        try simp only [World.size_alloc] at h
        omega
      have cm10 := Rm1.out.cell (p := ⟨w.heap.size, 0, none⟩) (by first | (simp; done) | (dsimp only; omega) | (simp; omega))
      have Rt1 := Lib.hid b1
      have lt1 : w.heap.size + 1 < w1.heap.size := by
        have h := Rt1.out.size
        try simp only [World.size_alloc] at h
        omega
      have ct10 := Rt1.out.cell (p := ⟨w.heap.size + 1, 0, none⟩) (by first | (simp; done) | (dsimp only; omega) | (simp; omega))
      clear b1
      go_wp2_with fail
      refine (AL2.out _ (bel_alloc Rm1.out)).mono ?_
      rintro e w2 ⟨rfl, b2⟩
      have bb2 : Below w.heap.size w w2 := by
        refine bel_end ?_ b2
        repeat (first | with_reducible refine bel_alloc ?_ | with_reducible refine bel_drew ?_)
        exact BB1.out
      have BB2 := Lib.hid bb2
      clear bb2
      clear BB1
      have rm := bel_via Rm1.out b2 (by
        repeat (first | with_reducible refine bel_alloc ?_ | with_reducible refine bel_drew ?_)
        with_reducible exact Below.refl _ _)
      have Rm2 := Lib.hid rm
      clear rm Rm1 lm1 cm10
      have lm2 : w.heap.size < w2.heap.size := by
        have h := Rm2.out.size
        try simp only [World.size_alloc] at h
        omega
      have cm20 := Rm2.out.cell (p := ⟨w.heap.size, 0, none⟩) (by first | (simp; done) | (dsimp only; omega) | (simp; omega))
      have rt := bel_via Rt1.out b2 (by
        repeat (first | with_reducible refine bel_alloc ?_ | with_reducible refine bel_drew ?_)
        with_reducible exact Below.refl _ _)
      have Rt2 := Lib.hid rt
      clear rt Rt1 lt1 ct10
      have lt2 : w.heap.size + 1 < w2.heap.size := by
        have h := Rt2.out.size
        try simp only [World.size_alloc] at h
        omega
      have ct20 := Rt2.out.cell (p := ⟨w.heap.size + 1, 0, none⟩) (by first | (simp; done) | (dsimp only; omega) | (simp; omega))
      have Rx2 := Lib.hid b2
      have lx2 : w1.heap.size < w2.heap.size := by
        have h := Rx2.out.size
        try simp only [World.size_alloc] at h
        omega
      have cx20 := Rx2.out.cell (p := ⟨w1.heap.size, 0, none⟩) (by first | (simp; done) | (dsimp only; omega) | (simp; omega))
      clear b2
      go_wp2_with fail
      refine (P.out _).mono ?_
      rintro e w3 ⟨rfl, b3⟩
      have bb3 : Below w.heap.size w w3 := by
        refine bel_end ?_ b3
        repeat (first | with_reducible refine bel_alloc ?_ | with_reducible refine bel_drew ?_)
        exact BB2.out
      have BB3 := Lib.hid bb3
      clear bb3
      clear BB2
      clear Rm2 lm2 cm20
      have rt := bel_via Rt2.out b3 (by
        repeat (first | with_reducible refine bel_alloc ?_ | with_reducible refine bel_drew ?_)
        with_reducible exact Below.refl _ _)
      have Rt3 := Lib.hid rt
      clear rt Rt2 lt2 ct20
      have lt3 : w.heap.size + 1 < w3.heap.size := by
        have h := Rt3.out.size
        try simp only [World.size_alloc] at h
        omega
      have ct30 := Rt3.out.cell (p := ⟨w.heap.size + 1, 0, none⟩) (by first | (simp; done) | (dsimp only; omega) | (simp; omega))
      have rx := bel_via Rx2.out b3 (by
        repeat (first | with_reducible refine bel_alloc ?_ | with_reducible refine bel_drew ?_)
        with_reducible exact Below.refl _ _)
      have Rx3 := Lib.hid rx
      clear rx Rx2 lx2 cx20
      have lx3 : w1.heap.size < w3.heap.size := by
        have h := Rx3.out.size
        try simp only [World.size_alloc] at h
        omega
      have cx30 := Rx3.out.cell (p := ⟨w1.heap.size, 0, none⟩) (by first | (simp; done) | (dsimp only; omega) | (simp; omega))
      have Ry3 := Lib.hid b3
      have ly3 : w2.heap.size < w3.heap.size := by
        have h := Ry3.out.size
        try simp only [World.size_alloc] at h
        omega
      have cy30 := Ry3.out.cell (p := ⟨w2.heap.size, 0, none⟩) (by first | (simp; done) | (dsimp only; omega) | (simp; omega))
      clear b3
      go_wp2_with fail
      refine (C3.out _).mono ?_
      rintro e w4 ⟨rfl, b4⟩
      have bb4 : Below w.heap.size w w4 := by
        refine bel_end ?_ b4
        repeat (first | with_reducible refine bel_alloc ?_ | with_reducible refine bel_drew ?_)
        exact BB3.out
      have BB4 := Lib.hid bb4
      clear bb4
      clear BB3
      have rt := bel_via Rt3.out b4 (by
        repeat (first | with_reducible refine bel_alloc ?_ | with_reducible refine bel_drew ?_)
        with_reducible exact Below.refl _ _)
      have Rt4 := Lib.hid rt
      clear rt Rt3 lt3 ct30
      have lt4 : w.heap.size + 1 < w4.heap.size := by
        have h := Rt4.out.size
        try simp only [World.size_alloc] at h
        omega
      have ct40 := Rt4.out.cell (p := ⟨w.heap.size + 1, 0, none⟩) (by first | (simp; done) | (dsimp only; omega) | (simp; omega))
      have rx := bel_via Rx3.out b4 (by
        repeat (first | with_reducible refine bel_alloc ?_ | with_reducible refine bel_drew ?_)
        with_reducible exact Below.refl _ _)
      have Rx4 := Lib.hid rx
      clear rx Rx3 lx3 cx30
      have lx4 : w1.heap.size < w4.heap.size := by
        have h := Rx4.out.size
        try simp only [World.size_alloc] at h
        omega
      have cx40 := Rx4.out.cell (p := ⟨w1.heap.size, 0, none⟩) (by first | (simp; done) | (dsimp only; omega) | (simp; omega))
      have ry := bel_via Ry3.out b4 (by
        repeat (first | with_reducible refine bel_alloc ?_ | with_reducible refine bel_drew ?_)
        with_reducible exact Below.refl _ _)
      have Ry4 := Lib.hid ry
      clear ry Ry3 ly3 cy30
      have ly4 : w2.heap.size < w4.heap.size := by
        have h := Ry4.out.size
        try simp only [World.size_alloc] at h
        omega
      have cy40 := Ry4.out.cell (p := ⟨w2.heap.size, 0, none⟩) (by first | (simp; done) | (dsimp only; omega) | (simp; omega))
      clear b4
      go_wp2_with (go_at_call 13; refine (awake_yes _).mono ?_; rintro e w' ⟨rfl, hb⟩)
      go_ret
      refine ⟨rfl, bel_end ?_ hb⟩
      repeat (first | with_reducible refine bel_alloc ?_ | with_reducible refine bel_drew ?_)
      exact BB4.out

set_option maxRecDepth 100000 in
set_option maxHeartbeats 4000000 in
theorem empty (r p : Int) (a : Option Addr) (cap : Nat) (h0 : 0 ≤ r) (h1 : r ≤ 1048575) (h3 : 0 ≤ p) (h4 : p ≤ 1048576) (w : World) : Calls Try.prog 8 #[.agg #[.int .i64 r], .slice a 0 cap, .int .i64 p] w (Yes w) := by
  have AL := Lib.hid (all_empty a cap r p h0 h1)
  have e0 : (0 * p + r) / 1048576 = 0 := by rw [Int.zero_mul]; omega
  have e1 : (0 * p + r) % 1048576 = r := by rw [Int.zero_mul]; omega
  have e2 : (0 * p + 0) / 1048576 = 0 := by rw [Int.zero_mul]; rfl
  have C1 := Lib.hid (charge_gives r 0 p h0 h1 (by omega) (by omega) h3 h4)
  have C3 := Lib.hid (charge_gives 0 0 p (by omega) (by omega) (by omega) (by omega) h3 h4)
  have P := Lib.hid (part_any p 0 false (by omega) (by omega))
  have ps := part_is (t := 0) h3 h4 (by omega) (by omega)
  rw [ps.1, ps.2, e2] at P
  rw [e0, e1] at C1
  rw [e2] at C3
  generalize (0 * p + 0) % 1048576 = F2 at C3
  clear ps e0 e1 e2
  go_enter Try.func8, Try.ntmps8
  go_wp2_with fail
  refine wp_loop_rounds 1 ?_
  rw [rounds_succ]
  go_wp2_with fail
  refine (C1.out _).mono ?_
  rintro e w1 ⟨rfl, b1⟩
  have bb1 : Below w.heap.size w w1 := by
    refine bel_end ?_ b1
    repeat (first | with_reducible refine bel_alloc ?_ | with_reducible refine bel_drew ?_)
    exact Below.refl _ w
  have BB1 := Lib.hid bb1
  clear bb1
  have Rm1 := Lib.hid b1
  have lm1 : w.heap.size < w1.heap.size := by
    have h := Rm1.out.size
    try simp only [World.size_alloc] at h
    omega
  have cm10 := Rm1.out.cell (p := ⟨w.heap.size, 0, none⟩) (by first | (simp; done) | (dsimp only; omega) | (simp; omega))
  have Rt1 := Lib.hid b1
  have lt1 : w.heap.size + 1 < w1.heap.size := by
    have h := Rt1.out.size
    try simp only [World.size_alloc] at h
    omega
  have ct10 := Rt1.out.cell (p := ⟨w.heap.size + 1, 0, none⟩) (by first | (simp; done) | (dsimp only; omega) | (simp; omega))
  clear b1
  go_wp2_with fail
  refine (AL.out _).mono ?_
  rintro e w2 ⟨rfl, b2⟩
  have bb2 : Below w.heap.size w w2 := by
    refine bel_end ?_ b2
    repeat (first | with_reducible refine bel_alloc ?_ | with_reducible refine bel_drew ?_)
    exact BB1.out
  have BB2 := Lib.hid bb2
  clear bb2
  clear BB1
  have rm := bel_via Rm1.out b2 (by
    repeat (first | with_reducible refine bel_alloc ?_ | with_reducible refine bel_drew ?_)
    with_reducible exact Below.refl _ _)
  have Rm2 := Lib.hid rm
  clear rm Rm1 lm1 cm10
  have lm2 : w.heap.size < w2.heap.size := by
    have h := Rm2.out.size
    try simp only [World.size_alloc] at h
    omega
  have cm20 := Rm2.out.cell (p := ⟨w.heap.size, 0, none⟩) (by first | (simp; done) | (dsimp only; omega) | (simp; omega))
  have rt := bel_via Rt1.out b2 (by
    repeat (first | with_reducible refine bel_alloc ?_ | with_reducible refine bel_drew ?_)
    with_reducible exact Below.refl _ _)
  have Rt2 := Lib.hid rt
  clear rt Rt1 lt1 ct10
  have lt2 : w.heap.size + 1 < w2.heap.size := by
    have h := Rt2.out.size
    try simp only [World.size_alloc] at h
    omega
  have ct20 := Rt2.out.cell (p := ⟨w.heap.size + 1, 0, none⟩) (by first | (simp; done) | (dsimp only; omega) | (simp; omega))
  have Rx2 := Lib.hid b2
  have lx2 : w1.heap.size < w2.heap.size := by
    have h := Rx2.out.size
    try simp only [World.size_alloc] at h
    omega
  have cx20 := Rx2.out.cell (p := ⟨w1.heap.size, 0, none⟩) (by first | (simp; done) | (dsimp only; omega) | (simp; omega))
  clear b2
  go_wp2_with fail
  refine (P.out _).mono ?_
  rintro e w3 ⟨rfl, b3⟩
  have bb3 : Below w.heap.size w w3 := by
    refine bel_end ?_ b3
    repeat (first | with_reducible refine bel_alloc ?_ | with_reducible refine bel_drew ?_)
    exact BB2.out
  have BB3 := Lib.hid bb3
  clear bb3
  clear BB2
  clear Rm2 lm2 cm20
  have rt := bel_via Rt2.out b3 (by
    repeat (first | with_reducible refine bel_alloc ?_ | with_reducible refine bel_drew ?_)
    with_reducible exact Below.refl _ _)
  have Rt3 := Lib.hid rt
  clear rt Rt2 lt2 ct20
  have lt3 : w.heap.size + 1 < w3.heap.size := by
    have h := Rt3.out.size
    try simp only [World.size_alloc] at h
    omega
  have ct30 := Rt3.out.cell (p := ⟨w.heap.size + 1, 0, none⟩) (by first | (simp; done) | (dsimp only; omega) | (simp; omega))
  have rx := bel_via Rx2.out b3 (by
    repeat (first | with_reducible refine bel_alloc ?_ | with_reducible refine bel_drew ?_)
    with_reducible exact Below.refl _ _)
  have Rx3 := Lib.hid rx
  clear rx Rx2 lx2 cx20
  have lx3 : w1.heap.size < w3.heap.size := by
    have h := Rx3.out.size
    try simp only [World.size_alloc] at h
    omega
  have cx30 := Rx3.out.cell (p := ⟨w1.heap.size, 0, none⟩) (by first | (simp; done) | (dsimp only; omega) | (simp; omega))
  have Ry3 := Lib.hid b3
  have ly3 : w2.heap.size < w3.heap.size := by
    have h := Ry3.out.size
    try simp only [World.size_alloc] at h
    omega
  have cy30 := Ry3.out.cell (p := ⟨w2.heap.size, 0, none⟩) (by first | (simp; done) | (dsimp only; omega) | (simp; omega))
  clear b3
  go_wp2_with fail
  refine (C3.out _).mono ?_
  rintro e w4 ⟨rfl, b4⟩
  have bb4 : Below w.heap.size w w4 := by
    refine bel_end ?_ b4
    repeat (first | with_reducible refine bel_alloc ?_ | with_reducible refine bel_drew ?_)
    exact BB3.out
  have BB4 := Lib.hid bb4
  clear bb4
  clear BB3
  have rt := bel_via Rt3.out b4 (by
    repeat (first | with_reducible refine bel_alloc ?_ | with_reducible refine bel_drew ?_)
    with_reducible exact Below.refl _ _)
  have Rt4 := Lib.hid rt
  clear rt Rt3 lt3 ct30
  have lt4 : w.heap.size + 1 < w4.heap.size := by
    have h := Rt4.out.size
    try simp only [World.size_alloc] at h
    omega
  have ct40 := Rt4.out.cell (p := ⟨w.heap.size + 1, 0, none⟩) (by first | (simp; done) | (dsimp only; omega) | (simp; omega))
  have rx := bel_via Rx3.out b4 (by
    repeat (first | with_reducible refine bel_alloc ?_ | with_reducible refine bel_drew ?_)
    with_reducible exact Below.refl _ _)
  have Rx4 := Lib.hid rx
  clear rx Rx3 lx3 cx30
  have lx4 : w1.heap.size < w4.heap.size := by
    have h := Rx4.out.size
    try simp only [World.size_alloc] at h
    omega
  have cx40 := Rx4.out.cell (p := ⟨w1.heap.size, 0, none⟩) (by first | (simp; done) | (dsimp only; omega) | (simp; omega))
  have ry := bel_via Ry3.out b4 (by
    repeat (first | with_reducible refine bel_alloc ?_ | with_reducible refine bel_drew ?_)
    with_reducible exact Below.refl _ _)
  have Ry4 := Lib.hid ry
  clear ry Ry3 ly3 cy30
  have ly4 : w2.heap.size < w4.heap.size := by
    have h := Ry4.out.size
    try simp only [World.size_alloc] at h
    omega
  have cy40 := Ry4.out.cell (p := ⟨w2.heap.size, 0, none⟩) (by first | (simp; done) | (dsimp only; omega) | (simp; omega))
  clear b4
  go_wp2_with (go_at_call 13; refine (awake_yes _).mono ?_; rintro e w' ⟨rfl, hb⟩)
  go_ret
  refine ⟨rfl, bel_end ?_ hb⟩
  repeat (first | with_reducible refine bel_alloc ?_ | with_reducible refine bel_drew ?_)
  exact BB4.out
theorem go (r p : Int) (a : Option Addr) (len cap : Nat) (w : World) (hin : 0 ≤ r → r ≤ 1048575 → (len : Int) ≤ 40 → 0 ≤ p → p ≤ 1048576 → Calls Try.prog 8 #[.agg #[.int .i64 r], .slice a len cap, .int .i64 p] w (Yes w)) : Calls Try.prog 8 #[.agg #[.int .i64 r], .slice a len cap, .int .i64 p] w (Yes w) := by
  by_cases h0 : 0 ≤ r
  case neg => exact out0 r p a len cap  (by omega) w
  by_cases h1 : r ≤ 1048575
  case neg => exact out1 r p a len cap h0 (by omega) w
  by_cases h2 : (len : Int) ≤ 40
  case neg => exact out2 r p a len cap h0 h1 (by omega) w
  by_cases h3 : 0 ≤ p
  case neg => exact out3 r p a len cap h0 h1 h2 (by omega) w
  by_cases h4 : p ≤ 1048576
  case neg => exact out4 r p a len cap h0 h1 h2 h3 (by omega) w
  exact hin h0 h1 h2 h3 h4
theorem walk (r : Int) (v : Value) (zs : List Int) (p : Int) (_ : (Lit.int .i64 r).wf = true) (w : World) (hv : IntRow w v zs) (_ : ∀ n ∈ zs, Fit n) (_ : zs.length ≤ maxLen) (_ : (Lit.int .i64 p).wf = true) : Calls Try.prog 8 #[.agg #[.int .i64 r], v, .int .i64 p] w (Yes w) := by
  rcases hv with ⟨a, cap, rfl, rfl⟩ | ⟨b, off, cap, rfl, hb, hn, hc⟩
  · exact go r p a 0 cap w (fun h0 h1 _ h3 h4 => empty r p a cap h0 h1 h3 h4 w)
  · exact go r p (some ⟨b, off, none⟩) zs.length cap w (fun h0 h1 h2 h3 h4 => inside r p b off cap zs h0 h1 (by omega) h3 h4 w hb hn hc)

set_option maxRecDepth 100000 in
theorem lifted (os : Os) (started : os.Started) (H : Type) (enc : TypeId × Value → H) :
    ReturnsInHanded {} Try.checked os 8 .any (Rows.grubPartsSpec.pre6 enc Try.prog Try.f8 Rows.grubPartsRow.domain false) (Rows.grubPartsSpec.post enc Try.prog Try.f8 false true false false) := by
  refine returnsInHanded_of_change (C := Try.checked) own started (by kernel_rfl) Try.func8
    (ChangeSpec.witness6 (enc := enc) (C := Try.checked) false ⟨#[], #[.agg #[.int .i64 0], .slice none 0 0, .int .i64 0], []⟩ 8 (by kernel_rfl) (by kernel_rfl) (by kernel_rfl) (by kernel_rfl)) ?_
  intro W base args ds gs before hval0 hW hcnd _
  have hval : ∀ (j : Nat) t v, Try.f8.params[j]? = some t → args[j]? = some v → Value.okWide Try.prog W .any base t v := hval0
  have hW' := hW
  obtain ⟨p, q, hA0, hV, _, hfz, hnd⟩ := hW'
  have hA : DataW.TrodAll enc Try.prog W 0 (fun _ => true) true Try.f8.params.toList args.toList ds p := hA0
  rw [Try.params8] at hA hval
  obtain ⟨v0, v1, v2, d0, d1, d2, p0, p1, p2, rfl, _, _, h0, h1, h2⟩ := trodAll_three hA
  obtain ⟨c00, y00, m0, rfl, hy00⟩ := open_agg1 Try.underlying35 (by kernel_rfl) (by kernel_rfl) (hval 0 35 v0 rfl rfl) h0
  obtain ⟨r, e00, _, wr⟩ := DataW.trod_int Try.underlying3 hy00
  simp at e00
  subst e00
  obtain ⟨xs, hxs, fxs, lxs⟩ := open_introw Try.underlying46 Try.underlying3 (by kernel_rfl) (hval 1 46 v1 rfl rfl) h1
  obtain ⟨p, rfl, _, _, wp⟩ := open_int Try.underlying3 (hval 2 3 v2 rfl rfl) h2
  refine (walk r v1 xs p wr W hxs fxs lxs wp).mono fun e W' h => ?_
  exact law_post (f := Try.f8) rfl rfl Try.underlying4 (by kernel_rfl) (fun ds hd => by
    match ds, hd with
    | [_, _, _], _ => rfl) hW h

theorem over : Rows.grubPartsRow.holds Try.pinned (OpenSpec.ofChange Rows.grubPartsSpec) :=
  OpenClaim.holds_of_wide 8 Try.f8 rfl rfl rfl rfl rfl rfl rfl ⟨rfl, rfl, rfl, rfl, rfl⟩ rfl rfl rfl rfl rfl (by kernel_rfl) Try.func8 (by kernel_rfl)
    (of_decide_eq_true (by kernel_rfl)) (by unfold Func.isWrapper; first | (rw [if_pos (by decide +kernel)]; kernel_rfl) | (rw [if_neg (by decide +kernel)]; exact ⟨rfl, rfl⟩))
    (fun os started H enc _ => lifted os started H enc)

/-- THE STATEMENT. -/
theorem proved : Rows.GrubPartsSaid := over
end Go.Proofs.Ytnahedmccbkflaa.grubParts
