/- What the reference's Times answers. Each theorem's premises are its conditions. -/
import Derived.Test.YtgdgfcogmfhpcaaDig2
import Derived.Test.YtgdgfcogmfhpcaaDig3Math
import Derived.StillTailTactics
namespace Go.Proofs.Ytgdgfcogmfhpcaa
open Go.RowKit Go.Deep

def InRel (a b Bo : Nat) (w : World) (i : Nat) (s : Value) (wr : World) : Prop :=
  ∃ k : Nat, k ≤ 4 ∧ s = .int .i64 k ∧ ∃ f : Nat → Nat, wr.rowIs Bo 3 8 (fun j => .int .i64 ((f j : Nat) : Int)) ∧ (∀ j, f j ≤ 65536 * (4 * i + k)) ∧
    Dig.V f 8 = Dig.V (Dig.dgt a) i * Dig.V (Dig.dgt b) 4 + Dig.dgt a i * 65536 ^ i * Dig.V (Dig.dgt b) k ∧ Below Bo w wr
def OutRel (a b Bo : Nat) (w : World) (s : Value) (wr : World) : Prop :=
  ∃ i : Nat, i ≤ 4 ∧ s = .int .i64 i ∧ ∃ f : Nat → Nat, wr.rowIs Bo 3 8 (fun j => .int .i64 ((f j : Nat) : Int)) ∧ (∀ j, f j ≤ 65536 * (4 * i)) ∧
    Dig.V f 8 = Dig.V (Dig.dgt a) i * Dig.V (Dig.dgt b) 4 ∧ Below Bo w wr

theorem rowIs_addAt {w : World} {b : Nat} {t : TypeId} {n : Nat} {f : Nat → Nat} (h : w.rowIs b t n (fun j => .int .i64 ((f j : Nat) : Int))) (j a : Nat) (d : Int) (hd : d = ((f j + a : Nat) : Int)) :
    (w.setCell ⟨b, j, none⟩ (.int .i64 d)).rowIs b t n (fun i => .int .i64 ((addAt f j a i : Nat) : Int)) := by
  subst hd
  refine (h.set j _).congr fun i _ => ?_
  unfold addAt
  by_cases e : i = j
  · subst e; rw [if_pos rfl, if_pos rfl]
  · rw [if_neg e, if_neg e]

set_option maxRecDepth 100000 in
set_option maxHeartbeats 3200000 in
theorem times_any (a b : Nat) (ha : a < 18446744073709551616) (hb : b < 18446744073709551616) (w : World) :
    Calls Try.prog 13 #[.int .u64 a, .int .u64 b] w (GivesNum (a * b) w) := by
  have hmk := make_run 8 (by omega)
  simp only [Int.cast_ofNat_Int] at hmk
  go_enter Try.func13, Try.ntmps13
  go_wp2_with fail
  refine (digits_any a ha _).mono ?_
  rintro e w1 ⟨v1, rfl, hown1, hb1⟩
  obtain ⟨g1, cap1, rfl, hg1, hl1, hc1⟩ := own_form hown1 (by omega)
  have HC1 := Lib.hid hc1
  clear hc1 hown1
  go_wp2_with fail
  refine (digits_any b hb _).mono ?_
  rintro e w2 ⟨v2, rfl, hown2, hb2⟩
  obtain ⟨g2, cap2, rfl, hg2, hl2, hc2⟩ := own_form hown2 (by omega)
  have HC2 := Lib.hid hc2
  have hs2 := hb2.size
  clear hc2 hown2
  go_wp2_with fail
  go_loopw [8] (fun s wr => OutRel a b w2.heap.size w2 s wr) (fun s _ => 4 - (intOf s).toNat)
  case atStart => exact ⟨0, by omega, rfl, fun _ => 0, (World.rowIs_made _ _ _ _).congr (fun j _ => by simp), fun _ => Nat.zero_le _, start_outer _ _, (Below.refl _ _).alloc (Nat.le_refl _) _⟩
  case round =>
    obtain ⟨i, hi, rfl, f, hrow, hf, hV, hbe⟩ := hrel
    obtain ⟨wo, rfl⟩ : ∃ wo : World, wo = wr := ⟨_, rfl⟩
    have HF := Lib.hid hf
    have HV := Lib.hid hV
    have HR := Lib.hid hrow
    clear hf hV hrow
    by_cases hlt : i < 4
    · have i1 : (i : Int) < 4 := by omega
      go_wp2
      go_loopw [9] (fun s wr => InRel a b w2.heap.size w2 i s wr) (fun s _ => 4 - (intOf s).toNat)
      case atStart => exact ⟨0, by omega, rfl, f, HR.out, HF.out, start_inner _ _ _ _ _ HV.out, hbe⟩
      case round =>
        obtain ⟨k, hk, rfl, f2, hrow2, hf2, hV2, hbe2⟩ := hrel
        by_cases hlt2 : k < 4
        · have x1 : wr.cell? ⟨g1, i, none⟩ = some (.int .i64 ((Dig.dgt a i : Nat) : Int)) := by
            rw [hbe2.cell (p := ⟨g1, i, none⟩) (show g1 < w2.heap.size by omega), hb2.cell (p := ⟨g1, i, none⟩) hl1, HC1.out i hlt]; exact digCells_get _ _ _ hlt
          have x2 : wr.cell? ⟨g2, k, none⟩ = some (.int .i64 ((Dig.dgt b k : Nat) : Int)) := by
            rw [hbe2.cell (p := ⟨g2, k, none⟩) hl2, HC2.out k hlt2]; exact digCells_get _ _ _ hlt2
          have o1 : wr.cell? ⟨w2.heap.size, i + k, none⟩ = some (.int .i64 ((f2 (i + k) : Nat) : Int)) := hrow2.cell (by omega)
          have fr1 := hrow2.frozen (i + k)
          have n1 : addAt f2 (i + k) (Dig.dgt a i * Dig.dgt b k % 65536) (i + k + 1) = f2 (i + k + 1) := by unfold addAt; rw [if_neg (by omega)]
          have RA := Lib.hid (fun (d : Int) (hd : d = ((f2 (i + k) + Dig.dgt a i * Dig.dgt b k % 65536 : Nat) : Int)) => rowIs_addAt hrow2 (i + k) _ d hd)
          have FB : Hid (∀ j, addAt (addAt f2 (i + k) (Dig.dgt a i * Dig.dgt b k % 65536)) (i + k + 1) (Dig.dgt a i * Dig.dgt b k / 65536) j ≤ 65536 * (4 * i + (k + 1))) := by
            intro j
            have h0 := hf2 j
            have h1 := Dig.dgt_lt a i
            have h2 := Dig.dgt_lt b k
            have h3 : Dig.dgt a i * Dig.dgt b k ≤ 65535 * 65535 := Nat.mul_le_mul (by omega) (by omega)
            unfold addAt
            generalize Dig.dgt a i * Dig.dgt b k = p at *
            by_cases e1 : j = i + k + 1
            · rw [if_pos e1, if_neg (by omega)]; omega
            · rw [if_neg e1]
              by_cases e2 : j = i + k
              · rw [if_pos e2]; omega
              · rw [if_neg e2]; omega
          have SV := Lib.hid (step_val f2 i k (Dig.dgt a i * Dig.dgt b k) hlt hlt2)
          have SI := Lib.hid (step_inner _ _ _ (Dig.dgt b k) _ (65536 ^ k) _ _ hV2)
          have HF2 := Lib.hid hf2
          have y1 := hf2 (i + k)
          have y2 := hf2 (i + k + 1)
          have y3 := Dig.dgt_lt a i
          have y4 := Dig.dgt_lt b k
          have y5 : Dig.dgt a i * Dig.dgt b k ≤ 65535 * 65535 := Nat.mul_le_mul (by omega) (by omega)
          have k1 : (k : Int) < 4 := by omega
          have e1 : IntKind.i64.wrap ((i : Int) + (k : Int)) = (i : Int) + (k : Int) := by rw [IntKind.wrap_i64]; omega
          have e2 : IntKind.i64.wrap ((i : Int) + (k : Int) + 1) = (i : Int) + (k : Int) + 1 := by rw [IntKind.wrap_i64]; omega
          have e3 : ((i : Int) + (k : Int)).toNat = i + k := by omega
          have e4 : ((i : Int) + (k : Int) + 1).toNat = i + k + 1 := by omega
          have j1 : 0 ≤ (i : Int) + (k : Int) := by omega
          have j2 : (i : Int) + (k : Int) < 8 := by omega
          have j3 : 0 ≤ (i : Int) + (k : Int) + 1 := by omega
          have j4 : (i : Int) + (k : Int) + 1 < 8 := by omega
          clear hV2 hf2
          generalize hx : Dig.dgt a i = x at *
          generalize hy : Dig.dgt b k = y at *
          obtain ⟨p, hp⟩ : ∃ p, x * y = p := ⟨_, rfl⟩
          have e5 : IntKind.i64.wrap ((x : Int) * (y : Int)) = (p : Int) := by rw [← Int.natCast_mul, hp, IntKind.wrap_i64]; omega
          rw [hp] at y5 n1 RA SV FB
          generalize hq1 : f2 (i + k) = q1 at *
          generalize hq2 : f2 (i + k + 1) = q2 at *
          have e6 : IntKind.i64.wrap ((q1 : Int) + (p : Int) % 65536) = (q1 : Int) + (p : Int) % 65536 := by rw [IntKind.wrap_i64]; omega
          have e7 : IntKind.i64.wrap ((q2 : Int) + (p : Int) / 65536) = (q2 : Int) + (p : Int) / 65536 := by rw [IntKind.wrap_i64]; omega
          have e8 : IntKind.i64.wrap ((p : Int) / 65536) = (p : Int) / 65536 := by rw [IntKind.wrap_i64]; omega
          have e9 : (p : Int).tdiv 65536 = (p : Int) / 65536 := Int.tdiv_eq_ediv_of_nonneg (by omega)
          have e10 : (p : Int).tmod 65536 = (p : Int) % 65536 := Int.tmod_eq_emod_of_nonneg (by omega)
          have HY := Lib.hid hy
          have HX := Lib.hid hx
          have HP := Lib.hid hp
          clear hrow2 hx hy hq1 hq2 hp
          obtain ⟨w4, hw4⟩ : ∃ w4, w4 = (wr.setCell ⟨w2.heap.size, i + k, none⟩ (.int .i64 ((q1 : Int) + (p : Int) % 65536))).drew := ⟨_, rfl⟩
          have HW4 := Lib.hid hw4
          have R4 : w4.rowIs w2.heap.size 3 8 (fun j => .int .i64 ((addAt f2 (i + k) (p % 65536) j : Nat) : Int)) := by rw [hw4]; exact (RA.out _ (by omega)).drew
          have B4 : Below w2.heap.size w2 w4 := by rw [hw4]; exact (hbe2.setCell (p := ⟨w2.heap.size, i + k, none⟩) (Nat.le_refl _) _).drew
          have x1' : w4.cell? ⟨g1, i, none⟩ = some (.int .i64 ((x : Nat) : Int)) := by
            rw [B4.cell (p := ⟨g1, i, none⟩) (show g1 < w2.heap.size by omega), hb2.cell (p := ⟨g1, i, none⟩) hl1, HC1.out i hlt, digCells_get _ _ _ hlt, HX.out]
          have x2' : w4.cell? ⟨g2, k, none⟩ = some (.int .i64 ((y : Nat) : Int)) := by
            rw [B4.cell (p := ⟨g2, k, none⟩) hl2, HC2.out k hlt2, digCells_get _ _ _ hlt2, HY.out]
          have o2 : w4.cell? ⟨w2.heap.size, i + k + 1, none⟩ = some (.int .i64 ((q2 : Nat) : Int)) := by rw [R4.cell (by omega), n1]
          have fr2 := R4.frozen (i + k + 1)
          have R2 : Hid ((w4.setCell ⟨w2.heap.size, i + k + 1, none⟩ (.int .i64 ((q2 : Int) + (p : Int) / 65536))).rowIs w2.heap.size 3 8 (fun j => .int .i64 ((addAt (addAt f2 (i + k) (p % 65536)) (i + k + 1) (p / 65536) j : Nat) : Int))) :=
            rowIs_addAt R4 (i + k + 1) _ _ (by rw [n1]; omega)
          have VV : Hid (Dig.V (addAt (addAt f2 (i + k) (p % 65536)) (i + k + 1) (p / 65536)) 8 = Dig.V (Dig.dgt a) i * Dig.V (Dig.dgt b) 4 + x * 65536 ^ i * Dig.V (Dig.dgt b) (k + 1)) := by
            show _ = _
            rw [SV.out, V_next (Dig.dgt b) k, HY.out, ← SI.out, HP.out]
          rw [← HX.out] at VV
          have BB := Lib.hid (B4.setCell (p := ⟨w2.heap.size, i + k + 1, none⟩) (Nat.le_refl _) (.int .i64 ((q2 : Int) + (p : Int) / 65536)))
          clear n1 RA hw4 R4 B4
          go_wp2
          go_still_tail 22, (by kernel_rfl)
          go_wp2
          rw [← HW4.out]
          clear o1 fr1 x1 x2
          go_still_tail 24, (by kernel_rfl)
          go_wp2
          exact ⟨⟨k + 1, by omega, by go_num, _, R2.out, FB.out, VV.out, BB.out.drew⟩, by simp [intOf]; omega⟩
        · obtain rfl : k = 4 := by omega
          have HF2 : Hid (∀ j, f2 j ≤ 65536 * (4 * (i + 1))) := fun j => by have := hf2 j; omega
          have HV2 : Hid (Dig.V f2 8 = Dig.V (Dig.dgt a) (i + 1) * Dig.V (Dig.dgt b) 4) := by
            show _ = _
            rw [V_next (Dig.dgt a) i]; exact step_outer _ _ _ _ _ hV2
          have HR2 := Lib.hid hrow2
          clear hrow2 hf2 hV2
          go_wp2
          exact ⟨⟨i + 1, by omega, by go_num, f2, HR2.out, HF2.out, HV2.out, hbe2⟩, by simp [intOf]; omega⟩
    · obtain rfl : i = 4 := by omega
      have hfin : Dig.V (fun j => if j < 8 then f j else 0) 12 % 65536 ^ 12 = a * b := by
        have e1 : Dig.V (fun j => if j < 8 then f j else 0) 12 = Dig.V (fun j => if j < 8 then f j else 0) 8 := Dig.V_more 12 (by omega) (fun j h1 _ => if_neg (by omega))
        have e2 : Dig.V (fun j => if j < 8 then f j else 0) 8 = Dig.V f 8 := Dig.V_congr 8 (fun j hj => if_pos hj)
        rw [e1, e2, HV.out, Dig.V_dgt, Dig.V_dgt]
        exact prod_fits a b ha hb
      have HCC := Lib.hid (carried_any w2.heap.size 8 8 (fun j => if j < 8 then f j else 0) (fun j => by
          by_cases h : j < 8
          · rw [if_pos h]; have := HF.out j; omega
          · rw [if_neg h]; omega) (fun j h => if_neg (by omega)) wo HR.out.lt (fun j hj => by rw [HR.out.cell hj, if_pos hj]))
      rw [hfin] at HCC
      clear hfin
      go_wp2_with (go_at_call 33; refine HCC.out.mono ?_; rintro e w4 ⟨v4, rfl, h4, hb4⟩)
      go_ret
      have hb12 := bel_end hb1 hb2
      exact ⟨_, rfl, h4, bel_end (hb12.trans (hbe.mono hb12.size)) hb4⟩

end Go.Proofs.Ytgdgfcogmfhpcaa
