/- What math/bits.Div64 answers where the high half is less than what it is divided by. -/
import Derived.Test.YtoagdaenbanhlaaBase
import Derived.Test.YtoagdaenbanhlaaShelf
import Derived.Test.YtoagdaenbanhlaaDiv64Facts
import Derived.WalkLawsBesides
import Derived.WalkSpells
import Derived.Outline
import Derived.Deep.QuietTactic
import Derived.BigQuiet
import Derived.Deep.CutBlock
import Derived.Deep.DeepCutAuto
import Derived.Deep.LoopGhost
namespace Go.Proofs.Ytoagdaenbanhlaa.Div64
open Go.RowKit Go.Lib Go.Deep

set_option maxRecDepth 100000 in
set_option maxHeartbeats 1000000 in
theorem low (lo y : Nat) (hy : 0 < y) (hy' : y < 18446744073709551616) (hl : lo < 18446744073709551616) (w : World) :
    Calls Try.prog 45 #[.int .u64 0, .int .u64 lo, .int .u64 y] w fun e w' => e = .returned (.tuple #[.int .u64 ((lo / y : Nat) : Int), .int .u64 ((lo % y : Nat) : Int)]) ∧ ∃ n, w' = w.drewN n := by
  have n1 : ((y : Int) == 0) = false := by simp; omega
  have n2 : (1 : Int) ≤ (y : Int) := by omega
  have n3 : ¬ y = 0 := by omega
  have q1 : IntKind.u64.wrap ((lo : Int) / (y : Int)) = ((lo / y : Nat) : Int) := by
    have := Nat.div_le_self lo y
    rw [show (lo : Int) / (y : Int) = ((lo / y : Nat) : Int) by simp]
    exact wrapM _ _ (Nat.mod_eq_of_lt (by omega))
  go_enter Try.func45, Try.ntmps45
  go_wp2
  go_quiet (fail)
  go_wp2
  go_ret2
  exact ⟨rfl, _, rfl⟩

set_option maxRecDepth 100000 in
set_option maxHeartbeats 4000000 in
theorem high (hi lo y : Nat) (h0 : 0 < hi) (hy : hi < y) (hy' : y < 18446744073709551616) (hl : lo < 18446744073709551616) (w : World) :
    Calls Try.prog 45 #[.int .u64 hi, .int .u64 lo, .int .u64 y] w fun e w' => e = .returned (.tuple #[.int .u64 (((hi * 18446744073709551616 + lo) / y : Nat) : Int), .int .u64 (((hi * 18446744073709551616 + lo) % y : Nat) : Int)]) ∧ w' = w := by
  obtain ⟨s, hs, eS, hY1, hY2⟩ := shiftOf y (by omega) hy'
  have hu := DivMath.high_lt (s := s) (by omega) hy hl
  have hN := DivMath.halves (hi := hi) (lo := lo) (s := s) (by omega)
  obtain ⟨hq, hr⟩ := DivMath.shifted (N := hi * 18446744073709551616 + lo) (y := y) (s := s)
  rw [← hN] at hq hr
  clear hN
  generalize hT : lo * 2 ^ s % 18446744073709551616 = t at *
  have e7 : IntKind.u64.wrap ((lo : Int) * 2 ^ s) = (t : Int) := by
    rw [show (lo : Int) * 2 ^ s = ((lo * 2 ^ s : Nat) : Int) by simp]; exact wrapM _ _ hT
  have hTl : t < 18446744073709551616 := by omega
  clear hT
  generalize hU : hi * 2 ^ s + lo / 2 ^ (64 - s) = u at *
  have e6 := orOf hi lo s u hs hU (by omega) hl
  clear hU
  generalize hYY : y * 2 ^ s = Y at *
  have e3 : IntKind.u64.wrap ((y : Int) * 2 ^ s) = (Y : Int) := by
    rw [show (y : Int) * 2 ^ s = ((y * 2 ^ s : Nat) : Int) by simp]; exact wrapM _ _ (by omega)
  clear hYY
  have ES := Lib.hid eS
  clear eS
  have e1 : IntKind.u64.wrap (s : Int) = (s : Int) := wrapM _ _ (Nat.mod_eq_of_lt (by omega))
  have e2 : min s 64 = s := by omega
  obtain ⟨y1, hy1⟩ : ∃ y1, y1 = Y / 4294967296 := ⟨_, rfl⟩
  obtain ⟨y0, hy0⟩ : ∃ y0, y0 = Y % 4294967296 := ⟨_, rfl⟩
  have e4 : (Y : Int) / 4294967296 = (y1 : Int) := by omega
  have e5 : bits .and .u64 (Y : Int) 4294967295 = (y0 : Int) := maskN _ _ hY2 hy0.symm
  have b1 : 2147483648 ≤ y1 := by omega
  have b2 : y1 < 4294967296 := by omega
  have b3 : y0 < 4294967296 := by omega
  have HY : Hid (Y = y1 * 4294967296 + y0) := by show Y = _; omega
  clear hy1 hy0
  obtain ⟨u1, hu1⟩ : ∃ u1, u1 = t / 4294967296 := ⟨_, rfl⟩
  obtain ⟨u0, hu0⟩ : ∃ u0, u0 = t % 4294967296 := ⟨_, rfl⟩
  have e8 : (t : Int) / 4294967296 = (u1 : Int) := by omega
  have e9 : bits .and .u64 (t : Int) 4294967295 = (u0 : Int) := maskN _ _ hTl hu0.symm
  have b4 : u1 < 4294967296 := by omega
  have b5 : u0 < 4294967296 := by omega
  rw [← hu1, ← hu0] at hq hr
  clear hu1 hu0
  -- the first digit as it is guessed
  obtain ⟨p, hp⟩ : ∃ p, p = u / y1 := ⟨_, rfl⟩
  obtain ⟨r, hr0⟩ : ∃ r, r = u % y1 := ⟨_, rfl⟩
  have hpr : u = p * y1 + r := by rw [hp, hr0]; exact (Nat.div_add_mod' u y1).symm
  have hrl : r < y1 := by rw [hr0]; exact Nat.mod_lt _ (by omega)
  have hpl : p ≤ u := by rw [hp]; exact Nat.div_le_self _ _
  have e10 : (u : Int) / (y1 : Int) = (p : Int) := by rw [hp]; simp
  have e10' : (u : Int).tdiv (y1 : Int) = (p : Int) := by rw [Int.tdiv_eq_ediv_of_nonneg (by omega)]; exact e10
  have e11 : IntKind.u64.wrap ((p : Int) * (y1 : Int)) = ((p * y1 : Nat) : Int) := by
    rw [← Int.natCast_mul]; exact wrapM _ _ (Nat.mod_eq_of_lt (by omega))
  have e12 : (u : Int) - (p : Int) * (y1 : Int) = (r : Int) := by rw [← Int.natCast_mul]; omega
  -- the digits as they are, and what they leave
  have h1p : 0 < y1 := by omega
  have hlt : u < y1 * 4294967296 + y0 := by have := HY.out; omega
  obtain ⟨d1, hd1⟩ : ∃ d1, d1 = DivMath.dig u u1 (y1 * 4294967296 + y0) := ⟨_, rfl⟩
  have d1l : d1 < 4294967296 := by rw [hd1]; exact DivMath.dig_lt hlt b4
  obtain ⟨v, hv⟩ : ∃ v, v = (u * 4294967296 + u1) % Y := ⟨_, rfl⟩
  have hvY : v < Y := by rw [hv]; exact Nat.mod_lt _ (by omega)
  have hlt2 : v < y1 * 4294967296 + y0 := by have := HY.out; omega
  have hvr : u * 4294967296 + u1 = d1 * Y + v := DivMath.rest_eq (by rw [hd1, HY.out]) hv
  obtain ⟨a1, ha1⟩ : ∃ a, u * 4294967296 % 18446744073709551616 = a := ⟨_, rfl⟩
  have a1l := mod_low u a1 ha1
  have g1 : IntKind.u64.wrap ((u : Int) * 4294967296) = (a1 : Int) := by
    rw [show (u : Int) * 4294967296 = ((u * 4294967296 : Nat) : Int) by simp]; exact wrapM _ _ ha1
  obtain ⟨m1, hm1⟩ : ∃ a, d1 * Y % 18446744073709551616 = a := ⟨_, rfl⟩
  have g2 : IntKind.u64.wrap ((d1 : Int) * (Y : Int)) = (m1 : Int) := by rw [← Int.natCast_mul]; exact wrapM _ _ hm1
  have g3 : IntKind.u64.wrap ((a1 : Int) + (u1 : Int) - (m1 : Int)) = (v : Int) := mod_back u u1 _ v a1 m1 hvr ha1 hm1 (by omega)
  obtain ⟨p2, hp2⟩ : ∃ p, p = v / y1 := ⟨_, rfl⟩
  obtain ⟨r2, hr2⟩ : ∃ r, r = v % y1 := ⟨_, rfl⟩
  have hpr2 : v = p2 * y1 + r2 := by rw [hp2, hr2]; exact (Nat.div_add_mod' v y1).symm
  have hrl2 : r2 < y1 := by rw [hr2]; exact Nat.mod_lt _ (by omega)
  have hpl2 : p2 ≤ v := by rw [hp2]; exact Nat.div_le_self _ _
  have g4 : (v : Int) / (y1 : Int) = (p2 : Int) := by rw [hp2]; simp
  have g4' : (v : Int).tdiv (y1 : Int) = (p2 : Int) := by rw [Int.tdiv_eq_ediv_of_nonneg (by omega)]; exact g4
  have g5 : IntKind.u64.wrap ((p2 : Int) * (y1 : Int)) = ((p2 * y1 : Nat) : Int) := by
    rw [← Int.natCast_mul]; exact wrapM _ _ (Nat.mod_eq_of_lt (by omega))
  have g6 : (v : Int) - (p2 : Int) * (y1 : Int) = (r2 : Int) := by rw [← Int.natCast_mul]; omega
  obtain ⟨d0, hd0⟩ : ∃ d0, d0 = DivMath.dig v u0 (y1 * 4294967296 + y0) := ⟨_, rfl⟩
  have d0l : d0 < 4294967296 := by rw [hd0]; exact DivMath.dig_lt hlt2 b5
  obtain ⟨z, hz⟩ : ∃ z, z = (v * 4294967296 + u0) % Y := ⟨_, rfl⟩
  have hzY : z < Y := by rw [hz]; exact Nat.mod_lt _ (by omega)
  have hzr : v * 4294967296 + u0 = d0 * Y + z := DivMath.rest_eq (by rw [hd0, HY.out]) hz
  obtain ⟨a0, ha0⟩ : ∃ a, v * 4294967296 % 18446744073709551616 = a := ⟨_, rfl⟩
  have a0l := mod_low v a0 ha0
  have g7 : IntKind.u64.wrap ((v : Int) * 4294967296) = (a0 : Int) := by
    rw [show (v : Int) * 4294967296 = ((v * 4294967296 : Nat) : Int) by simp]; exact wrapM _ _ ha0
  obtain ⟨m0, hm0⟩ : ∃ a, d0 * Y % 18446744073709551616 = a := ⟨_, rfl⟩
  have g8 : IntKind.u64.wrap ((d0 : Int) * (Y : Int)) = (m0 : Int) := by rw [← Int.natCast_mul]; exact wrapM _ _ hm0
  have g9 : IntKind.u64.wrap ((a0 : Int) + (u0 : Int) - (m0 : Int)) = (z : Int) := mod_back v u0 _ z a0 m0 hzr ha0 hm0 (by omega)
  obtain ⟨fq, fr⟩ := DivMath.two (u := u) (v := u1) (w := u0) (Y := Y) (q1 := d1) (q0 := d0) (u2 := v) (by omega) (by rw [hd1, HY.out]) hv (by rw [hd0, HY.out])
  rw [← fq] at hq
  rw [← fr, ← hz] at hr
  have g10 : (z : Int) / 2 ^ s = (((hi * 18446744073709551616 + lo) % y : Nat) : Int) := by rw [← hr]; simp
  have S1 := Lib.hid (DivMath.start (u := u) (v := u1) (y1 := y1) (y0 := y0) h1p b4)
  have S2 := Lib.hid (DivMath.start (u := v) (v := u0) (y1 := y1) (y0 := y0) h1p b5)
  rw [← hd1, ← hp] at S1
  rw [← hd0, ← hp2] at S2
  have HV := Lib.hid hpr2
  have HD1 := Lib.hid hd1
  have HD0 := Lib.hid hd0
  have HL1 := Lib.hid hlt
  have HL2 := Lib.hid hlt2
  clear hlt hlt2 hv hvr ha1 hm1 hp2 hr2 hpr2 hz hzr ha0 hm0 fq fr hd1 hd0 hr0
  have n1 : ((y : Int) == 0) = false := by simp; omega
  have n2 : ((hi : Int) == 0) = false := by simp; omega
  have n3 : ((y1 : Int) == 0) = false := by simp; omega
  have H1 := Lib.hid hpr
  have HQ := Lib.hid hq
  have HR := Lib.hid hr
  clear hp hpr hq hr
  go_enter Try.func45, Try.ntmps45
  go_upto_block 0 with (go_at_call 46; refine (Try.bits_LeadingZeros64 _ _ (by omega) (by omega)).mono ?_; rw [Int.toNat_natCast, ES.out]; rintro e w' ⟨rfl, rfl⟩)
  go_cut [15, 16] from 67 to 85 (fun a b wx => a = .int .u64 ((d1 : Nat) : Int) ∧ wx = w')
  case first =>
    go_wp2_with fail
    go_loop [15, 16] (fun a b => Head u u1 y1 y0 a b) (fun a _ => (RowKit.intOf a).toNat)
    case atStart => exact ⟨p, r, rfl, rfl, H1.out, by omega, by rw [← HD1.out]; exact S1.out, hpl⟩
    case round =>
      obtain ⟨q, r', rfl, rfl, hq1, hq2, hq3, hq4⟩ := hrel
      have HQ1 := Lib.hid hq1
      have HQ3 := Lib.hid hq3
      clear hq1 hq3
      by_cases c1 : (4294967296 : Int) ≤ (q : Int)
      · have lt0 : d1 < q := by omega
        have lt : Hid (DivMath.dig u u1 (y1 * 4294967296 + y0) < q) := by show _ < _; rw [← HD1.out]; exact lt0
        by_cases c2 : (4294967296 : Int) ≤ (r' : Int) + (y1 : Int)
        · have hfin := Lib.hid (head_break h1p b3 HL1.out HQ1.out lt.out c2)
          go_wp2
          go_meet
          exact ⟨val_eq (by rw [hfin.out, HD1.out]), rfl⟩
        · have hfin := Lib.hid (head_next HQ1.out lt.out c2 hq4)
          go_wp2
          exact ⟨hfin.out, by simp [RowKit.intOf]; omega⟩
      · obtain ⟨m, hm, em⟩ := mul_small (y0 := y0) c1 b3
        have HM := Lib.hid hm
        clear hm
        by_cases c3 : (4294967296 : Int) * (r' : Int) + (u1 : Int) < (m : Int)
        · have lt := Lib.hid (head_gt (v := u1) (y0 := y0) h1p HQ1.out HM.out c3)
          have lt0 : 1 ≤ q := by have := lt.out; omega
          by_cases c2 : (4294967296 : Int) ≤ (r' : Int) + (y1 : Int)
          · have hfin := Lib.hid (head_break h1p b3 HL1.out HQ1.out lt.out c2)
            go_wp2
            go_meet
            exact ⟨val_eq (by rw [hfin.out, HD1.out]), rfl⟩
          · have hfin := Lib.hid (head_next HQ1.out lt.out c2 hq4)
            go_wp2
            exact ⟨hfin.out, by simp [RowKit.intOf]; omega⟩
        · have hfin := Lib.hid (head_done h1p HQ1.out HQ3.out HM.out c3)
          go_wp2
          go_meet
          exact ⟨val_eq (by rw [hfin.out, HD1.out]), rfl⟩
  case rest =>
    obtain ⟨rfl, rfl⟩ := hcut
    go_upto_block 2 with fail
    go_cut [18, 16] from 102 to 120 (fun a b wx => a = .int .u64 ((d0 : Nat) : Int) ∧ wx = wc)
    case first =>
      go_wp2_with fail
      go_loop [18, 16] (fun a b => Head v u0 y1 y0 a b) (fun a _ => (RowKit.intOf a).toNat)
      case atStart => exact ⟨p2, r2, rfl, rfl, HV.out, by omega, by rw [← HD0.out]; exact S2.out, hpl2⟩
      case round =>
        obtain ⟨q, r', rfl, rfl, hq1, hq2, hq3, hq4⟩ := hrel
        have HQ1 := Lib.hid hq1
        have HQ3 := Lib.hid hq3
        clear hq1 hq3
        by_cases c1 : (4294967296 : Int) ≤ (q : Int)
        · have lt0 : d0 < q := by omega
          have lt : Hid (DivMath.dig v u0 (y1 * 4294967296 + y0) < q) := by show _ < _; rw [← HD0.out]; exact lt0
          by_cases c2 : (4294967296 : Int) ≤ (r' : Int) + (y1 : Int)
          · have hfin := Lib.hid (head_break h1p b3 HL2.out HQ1.out lt.out c2)
            go_wp2
            go_meet
            exact ⟨val_eq (by rw [hfin.out, HD0.out]), rfl⟩
          · have hfin := Lib.hid (head_next HQ1.out lt.out c2 hq4)
            go_wp2
            exact ⟨hfin.out, by simp [RowKit.intOf]; omega⟩
        · obtain ⟨m, hm, em⟩ := mul_small (y0 := y0) c1 b3
          have HM := Lib.hid hm
          clear hm
          by_cases c3 : (4294967296 : Int) * (r' : Int) + (u0 : Int) < (m : Int)
          · have lt := Lib.hid (head_gt (v := u0) (y0 := y0) h1p HQ1.out HM.out c3)
            have lt0 : 1 ≤ q := by have := lt.out; omega
            by_cases c2 : (4294967296 : Int) ≤ (r' : Int) + (y1 : Int)
            · have hfin := Lib.hid (head_break h1p b3 HL2.out HQ1.out lt.out c2)
              go_wp2
              go_meet
              exact ⟨val_eq (by rw [hfin.out, HD0.out]), rfl⟩
            · have hfin := Lib.hid (head_next HQ1.out lt.out c2 hq4)
              go_wp2
              exact ⟨hfin.out, by simp [RowKit.intOf]; omega⟩
          · have hfin := Lib.hid (head_done h1p HQ1.out HQ3.out HM.out c3)
            go_wp2
            go_meet
            exact ⟨val_eq (by rw [hfin.out, HD0.out]), rfl⟩
    case rest =>
      obtain ⟨rfl, rfl⟩ := hcut
      go_wp2_with fail
      go_ret2
      exact ⟨ret2 (int_eq (by rw [← HQ.out]; omega)) rfl, rfl⟩

end Go.Proofs.Ytoagdaenbanhlaa.Div64
