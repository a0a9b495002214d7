/- What math/bits.Div64 answers where the high half is less than what it is divided by. What num.Product and num.Div answer. What num.Div answers where the numbers may be divided. What num.Div answers at any three numbers of 64 bits, in one function of them. How a quotient, rounded up or down, hangs on what is divided. Plain; each theorem's premises are its conditions. What ratio's Up answers at any numbers. No condition but that they are numbers of 64 bits. What ratio's Check, Use and Dense answer, and the reference's May. What num.Mul answers at any two numbers: the product, if it fits. No condition but that they are numbers of 64 bits. Each theorem's premises are its conditions. -/
import Derived.Test.YtmcilmmnpolieaaK04
import Derived.Test.YtmcilmmnpolieaaK07
import Derived.Test.YtmcilmmnpolieaaK08
import Derived.WalkLawsBesides
import Derived.WalkSpells
import Derived.Outline
import Derived.Deep.QuietTactic
import Derived.BigQuiet
import Derived.Deep.CutBlock
import Derived.Deep.DeepCutAuto
import Derived.Deep.LoopGhost
/- What math/bits.Div64 answers where the high half is less than what it is divided by. -/
namespace Go.Proofs.Ytmcilmmnpolieaa.Div64
open Go.RowKit Go.Lib Go.Deep

set_option maxRecDepth 100000 in
set_option maxHeartbeats 1000000 in
theorem low (lo y : Nat) (hy : 0 < y) (hy' : y < 18446744073709551616) (hl : lo < 18446744073709551616) (w : World) :
    Calls Try.prog 86 #[.int .u64 0, .int .u64 lo, .int .u64 y] w fun e w' => e = .returned (.tuple #[.int .u64 ((lo / y : Nat) : Int), .int .u64 ((lo % y : Nat) : Int)]) ∧ ∃ n, w' = w.drewN n := by
  have n1 : ((y : Int) == 0) = false := by simp; omega
  have n2 : (1 : Int) ≤ (y : Int) := by omega
  have n3 : ¬ y = 0 := by omega
  have q1 : IntKind.u64.wrap ((lo : Int) / (y : Int)) = ((lo / y : Nat) : Int) := by
    have := Nat.div_le_self lo y
    rw [show (lo : Int) / (y : Int) = ((lo / y : Nat) : Int) by simp]
    exact wrapM _ _ (Nat.mod_eq_of_lt (by omega))
  go_enter Try.func86, Try.ntmps86
  go_wp2
  go_quiet (fail)
  go_wp2
  go_ret2
  exact ⟨rfl, _, rfl⟩

set_option maxRecDepth 100000 in
set_option maxHeartbeats 4000000 in
theorem high (hi lo y : Nat) (h0 : 0 < hi) (hy : hi < y) (hy' : y < 18446744073709551616) (hl : lo < 18446744073709551616) (w : World) :
    Calls Try.prog 86 #[.int .u64 hi, .int .u64 lo, .int .u64 y] w fun e w' => e = .returned (.tuple #[.int .u64 (((hi * 18446744073709551616 + lo) / y : Nat) : Int), .int .u64 (((hi * 18446744073709551616 + lo) % y : Nat) : Int)]) ∧ w' = w := by
  obtain ⟨s, hs, eS, hY1, hY2⟩ := shiftOf y (by omega) hy'
  have hu := DivMath.high_lt (s := s) (by omega) hy hl
  have hN := DivMath.halves (hi := hi) (lo := lo) (s := s) (by omega)
  obtain ⟨hq, hr⟩ := DivMath.shifted (N := hi * 18446744073709551616 + lo) (y := y) (s := s)
  rw [← hN] at hq hr
  clear hN
  generalize hT : lo * 2 ^ s % 18446744073709551616 = t at *
  have e7 : IntKind.u64.wrap ((lo : Int) * 2 ^ s) = (t : Int) := by
    rw [show (lo : Int) * 2 ^ s = ((lo * 2 ^ s : Nat) : Int) by simp]; exact wrapM _ _ hT
  have hTl : t < 18446744073709551616 := by omega
  clear hT
  generalize hU : hi * 2 ^ s + lo / 2 ^ (64 - s) = u at *
  have e6 := orOf hi lo s u hs hU (by omega) hl
  clear hU
  generalize hYY : y * 2 ^ s = Y at *
  have e3 : IntKind.u64.wrap ((y : Int) * 2 ^ s) = (Y : Int) := by
    rw [show (y : Int) * 2 ^ s = ((y * 2 ^ s : Nat) : Int) by simp]; exact wrapM _ _ (by omega)
  clear hYY
  have ES := Lib.hid eS
  clear eS
  have e1 : IntKind.u64.wrap (s : Int) = (s : Int) := wrapM _ _ (Nat.mod_eq_of_lt (by omega))
  have e2 : min s 64 = s := by omega
  obtain ⟨y1, hy1⟩ : ∃ y1, y1 = Y / 4294967296 := ⟨_, rfl⟩
  obtain ⟨y0, hy0⟩ : ∃ y0, y0 = Y % 4294967296 := ⟨_, rfl⟩
  have e4 : (Y : Int) / 4294967296 = (y1 : Int) := by omega
  have e5 : bits .and .u64 (Y : Int) 4294967295 = (y0 : Int) := maskN _ _ hY2 hy0.symm
  have b1 : 2147483648 ≤ y1 := by omega
  have b2 : y1 < 4294967296 := by omega
  have b3 : y0 < 4294967296 := by omega
  have HY : Hid (Y = y1 * 4294967296 + y0) := by show Y = _; omega
  clear hy1 hy0
  obtain ⟨u1, hu1⟩ : ∃ u1, u1 = t / 4294967296 := ⟨_, rfl⟩
  obtain ⟨u0, hu0⟩ : ∃ u0, u0 = t % 4294967296 := ⟨_, rfl⟩
  have e8 : (t : Int) / 4294967296 = (u1 : Int) := by omega
  have e9 : bits .and .u64 (t : Int) 4294967295 = (u0 : Int) := maskN _ _ hTl hu0.symm
  have b4 : u1 < 4294967296 := by omega
  have b5 : u0 < 4294967296 := by omega
  rw [← hu1, ← hu0] at hq hr
  clear hu1 hu0
  -- the first digit as it is guessed
  obtain ⟨p, hp⟩ : ∃ p, p = u / y1 := ⟨_, rfl⟩
  obtain ⟨r, hr0⟩ : ∃ r, r = u % y1 := ⟨_, rfl⟩
  have hpr : u = p * y1 + r := by rw [hp, hr0]; exact (Nat.div_add_mod' u y1).symm
  have hrl : r < y1 := by rw [hr0]; exact Nat.mod_lt _ (by omega)
  have hpl : p ≤ u := by rw [hp]; exact Nat.div_le_self _ _
  have e10 : (u : Int) / (y1 : Int) = (p : Int) := by rw [hp]; simp
  have e10' : (u : Int).tdiv (y1 : Int) = (p : Int) := by rw [Int.tdiv_eq_ediv_of_nonneg (by omega)]; exact e10
  have e11 : IntKind.u64.wrap ((p : Int) * (y1 : Int)) = ((p * y1 : Nat) : Int) := by
    rw [← Int.natCast_mul]; exact wrapM _ _ (Nat.mod_eq_of_lt (by omega))
  have e12 : (u : Int) - (p : Int) * (y1 : Int) = (r : Int) := by rw [← Int.natCast_mul]; omega
  -- the digits as they are, and what they leave
  have h1p : 0 < y1 := by omega
  have hlt : u < y1 * 4294967296 + y0 := by have := HY.out; omega
  obtain ⟨d1, hd1⟩ : ∃ d1, d1 = DivMath.dig u u1 (y1 * 4294967296 + y0) := ⟨_, rfl⟩
  have d1l : d1 < 4294967296 := by rw [hd1]; exact DivMath.dig_lt hlt b4
  obtain ⟨v, hv⟩ : ∃ v, v = (u * 4294967296 + u1) % Y := ⟨_, rfl⟩
  have hvY : v < Y := by rw [hv]; exact Nat.mod_lt _ (by omega)
  have hlt2 : v < y1 * 4294967296 + y0 := by have := HY.out; omega
  have hvr : u * 4294967296 + u1 = d1 * Y + v := DivMath.rest_eq (by rw [hd1, HY.out]) hv
  obtain ⟨a1, ha1⟩ : ∃ a, u * 4294967296 % 18446744073709551616 = a := ⟨_, rfl⟩
  have a1l := mod_low u a1 ha1
  have g1 : IntKind.u64.wrap ((u : Int) * 4294967296) = (a1 : Int) := by
    rw [show (u : Int) * 4294967296 = ((u * 4294967296 : Nat) : Int) by simp]; exact wrapM _ _ ha1
  obtain ⟨m1, hm1⟩ : ∃ a, d1 * Y % 18446744073709551616 = a := ⟨_, rfl⟩
  have g2 : IntKind.u64.wrap ((d1 : Int) * (Y : Int)) = (m1 : Int) := by rw [← Int.natCast_mul]; exact wrapM _ _ hm1
  have g3 : IntKind.u64.wrap ((a1 : Int) + (u1 : Int) - (m1 : Int)) = (v : Int) := mod_back u u1 _ v a1 m1 hvr ha1 hm1 (by omega)
  obtain ⟨p2, hp2⟩ : ∃ p, p = v / y1 := ⟨_, rfl⟩
  obtain ⟨r2, hr2⟩ : ∃ r, r = v % y1 := ⟨_, rfl⟩
  have hpr2 : v = p2 * y1 + r2 := by rw [hp2, hr2]; exact (Nat.div_add_mod' v y1).symm
  have hrl2 : r2 < y1 := by rw [hr2]; exact Nat.mod_lt _ (by omega)
  have hpl2 : p2 ≤ v := by rw [hp2]; exact Nat.div_le_self _ _
  have g4 : (v : Int) / (y1 : Int) = (p2 : Int) := by rw [hp2]; simp
  have g4' : (v : Int).tdiv (y1 : Int) = (p2 : Int) := by rw [Int.tdiv_eq_ediv_of_nonneg (by omega)]; exact g4
  have g5 : IntKind.u64.wrap ((p2 : Int) * (y1 : Int)) = ((p2 * y1 : Nat) : Int) := by
    rw [← Int.natCast_mul]; exact wrapM _ _ (Nat.mod_eq_of_lt (by omega))
  have g6 : (v : Int) - (p2 : Int) * (y1 : Int) = (r2 : Int) := by rw [← Int.natCast_mul]; omega
  obtain ⟨d0, hd0⟩ : ∃ d0, d0 = DivMath.dig v u0 (y1 * 4294967296 + y0) := ⟨_, rfl⟩
  have d0l : d0 < 4294967296 := by rw [hd0]; exact DivMath.dig_lt hlt2 b5
  obtain ⟨z, hz⟩ : ∃ z, z = (v * 4294967296 + u0) % Y := ⟨_, rfl⟩
  have hzY : z < Y := by rw [hz]; exact Nat.mod_lt _ (by omega)
  have hzr : v * 4294967296 + u0 = d0 * Y + z := DivMath.rest_eq (by rw [hd0, HY.out]) hz
  obtain ⟨a0, ha0⟩ : ∃ a, v * 4294967296 % 18446744073709551616 = a := ⟨_, rfl⟩
  have a0l := mod_low v a0 ha0
  have g7 : IntKind.u64.wrap ((v : Int) * 4294967296) = (a0 : Int) := by
    rw [show (v : Int) * 4294967296 = ((v * 4294967296 : Nat) : Int) by simp]; exact wrapM _ _ ha0
  obtain ⟨m0, hm0⟩ : ∃ a, d0 * Y % 18446744073709551616 = a := ⟨_, rfl⟩
  have g8 : IntKind.u64.wrap ((d0 : Int) * (Y : Int)) = (m0 : Int) := by rw [← Int.natCast_mul]; exact wrapM _ _ hm0
  have g9 : IntKind.u64.wrap ((a0 : Int) + (u0 : Int) - (m0 : Int)) = (z : Int) := mod_back v u0 _ z a0 m0 hzr ha0 hm0 (by omega)
  obtain ⟨fq, fr⟩ := DivMath.two (u := u) (v := u1) (w := u0) (Y := Y) (q1 := d1) (q0 := d0) (u2 := v) (by omega) (by rw [hd1, HY.out]) hv (by rw [hd0, HY.out])
  rw [← fq] at hq
  rw [← fr, ← hz] at hr
  have g10 : (z : Int) / 2 ^ s = (((hi * 18446744073709551616 + lo) % y : Nat) : Int) := by rw [← hr]; simp
  have S1 := Lib.hid (DivMath.start (u := u) (v := u1) (y1 := y1) (y0 := y0) h1p b4)
  have S2 := Lib.hid (DivMath.start (u := v) (v := u0) (y1 := y1) (y0 := y0) h1p b5)
  rw [← hd1, ← hp] at S1
  rw [← hd0, ← hp2] at S2
  have HV := Lib.hid hpr2
  have HD1 := Lib.hid hd1
  have HD0 := Lib.hid hd0
  have HL1 := Lib.hid hlt
  have HL2 := Lib.hid hlt2
  clear hlt hlt2 hv hvr ha1 hm1 hp2 hr2 hpr2 hz hzr ha0 hm0 fq fr hd1 hd0 hr0
  have n1 : ((y : Int) == 0) = false := by simp; omega
  have n2 : ((hi : Int) == 0) = false := by simp; omega
  have n3 : ((y1 : Int) == 0) = false := by simp; omega
  have H1 := Lib.hid hpr
  have HQ := Lib.hid hq
  have HR := Lib.hid hr
  clear hp hpr hq hr
  go_enter Try.func86, Try.ntmps86
  go_upto_block 0 with (go_at_call 88; refine (Try.bits_LeadingZeros64 _ _ (by omega) (by omega)).mono ?_; rw [Int.toNat_natCast, ES.out]; rintro e w' ⟨rfl, rfl⟩)
  go_cut [15, 16] from 67 to 85 (fun a b wx => a = .int .u64 ((d1 : Nat) : Int) ∧ wx = w')
  case first =>
    go_wp2_with fail
    go_loop [15, 16] (fun a b => Head u u1 y1 y0 a b) (fun a _ => (RowKit.intOf a).toNat)
    case atStart => exact ⟨p, r, rfl, rfl, H1.out, by omega, by rw [← HD1.out]; exact S1.out, hpl⟩
    case round =>
      obtain ⟨q, r', rfl, rfl, hq1, hq2, hq3, hq4⟩ := hrel
      have HQ1 := Lib.hid hq1
      have HQ3 := Lib.hid hq3
      clear hq1 hq3
      by_cases c1 : (4294967296 : Int) ≤ (q : Int)
      · have lt0 : d1 < q := by omega
        have lt : Hid (DivMath.dig u u1 (y1 * 4294967296 + y0) < q) := by show _ < _; rw [← HD1.out]; exact lt0
        by_cases c2 : (4294967296 : Int) ≤ (r' : Int) + (y1 : Int)
        · have hfin := Lib.hid (head_break h1p b3 HL1.out HQ1.out lt.out c2)
          go_wp2
          go_meet
          exact ⟨val_eq (by rw [hfin.out, HD1.out]), rfl⟩
        · have hfin := Lib.hid (head_next HQ1.out lt.out c2 hq4)
          go_wp2
          exact ⟨hfin.out, by simp [RowKit.intOf]; omega⟩
      · obtain ⟨m, hm, em⟩ := mul_small (y0 := y0) c1 b3
        have HM := Lib.hid hm
        clear hm
        by_cases c3 : (4294967296 : Int) * (r' : Int) + (u1 : Int) < (m : Int)
        · have lt := Lib.hid (head_gt (v := u1) (y0 := y0) h1p HQ1.out HM.out c3)
          have lt0 : 1 ≤ q := by have := lt.out; omega
          by_cases c2 : (4294967296 : Int) ≤ (r' : Int) + (y1 : Int)
          · have hfin := Lib.hid (head_break h1p b3 HL1.out HQ1.out lt.out c2)
            go_wp2
            go_meet
            exact ⟨val_eq (by rw [hfin.out, HD1.out]), rfl⟩
          · have hfin := Lib.hid (head_next HQ1.out lt.out c2 hq4)
            go_wp2
            exact ⟨hfin.out, by simp [RowKit.intOf]; omega⟩
        · have hfin := Lib.hid (head_done h1p HQ1.out HQ3.out HM.out c3)
          go_wp2
          go_meet
          exact ⟨val_eq (by rw [hfin.out, HD1.out]), rfl⟩
  case rest =>
    obtain ⟨rfl, rfl⟩ := hcut
    go_upto_block 2 with fail
    go_cut [18, 16] from 102 to 120 (fun a b wx => a = .int .u64 ((d0 : Nat) : Int) ∧ wx = wc)
    case first =>
      go_wp2_with fail
      go_loop [18, 16] (fun a b => Head v u0 y1 y0 a b) (fun a _ => (RowKit.intOf a).toNat)
      case atStart => exact ⟨p2, r2, rfl, rfl, HV.out, by omega, by rw [← HD0.out]; exact S2.out, hpl2⟩
      case round =>
        obtain ⟨q, r', rfl, rfl, hq1, hq2, hq3, hq4⟩ := hrel
        have HQ1 := Lib.hid hq1
        have HQ3 := Lib.hid hq3
        clear hq1 hq3
        by_cases c1 : (4294967296 : Int) ≤ (q : Int)
        · have lt0 : d0 < q := by omega
          have lt : Hid (DivMath.dig v u0 (y1 * 4294967296 + y0) < q) := by show _ < _; rw [← HD0.out]; exact lt0
          by_cases c2 : (4294967296 : Int) ≤ (r' : Int) + (y1 : Int)
          · have hfin := Lib.hid (head_break h1p b3 HL2.out HQ1.out lt.out c2)
            go_wp2
            go_meet
            exact ⟨val_eq (by rw [hfin.out, HD0.out]), rfl⟩
          · have hfin := Lib.hid (head_next HQ1.out lt.out c2 hq4)
            go_wp2
            exact ⟨hfin.out, by simp [RowKit.intOf]; omega⟩
        · obtain ⟨m, hm, em⟩ := mul_small (y0 := y0) c1 b3
          have HM := Lib.hid hm
          clear hm
          by_cases c3 : (4294967296 : Int) * (r' : Int) + (u0 : Int) < (m : Int)
          · have lt := Lib.hid (head_gt (v := u0) (y0 := y0) h1p HQ1.out HM.out c3)
            have lt0 : 1 ≤ q := by have := lt.out; omega
            by_cases c2 : (4294967296 : Int) ≤ (r' : Int) + (y1 : Int)
            · have hfin := Lib.hid (head_break h1p b3 HL2.out HQ1.out lt.out c2)
              go_wp2
              go_meet
              exact ⟨val_eq (by rw [hfin.out, HD0.out]), rfl⟩
            · have hfin := Lib.hid (head_next HQ1.out lt.out c2 hq4)
              go_wp2
              exact ⟨hfin.out, by simp [RowKit.intOf]; omega⟩
          · have hfin := Lib.hid (head_done h1p HQ1.out HQ3.out HM.out c3)
            go_wp2
            go_meet
            exact ⟨val_eq (by rw [hfin.out, HD0.out]), rfl⟩
    case rest =>
      obtain ⟨rfl, rfl⟩ := hcut
      go_wp2_with fail
      go_ret2
      exact ⟨ret2 (int_eq (by rw [← HQ.out]; omega)) rfl, rfl⟩

end Go.Proofs.Ytmcilmmnpolieaa.Div64
/- What num.Product and num.Div answer. Each theorem's premises are its conditions. -/
namespace Go.Proofs.Ytmcilmmnpolieaa
open Go.RowKit

/-- A call that gives v, and turns nothing that was there. -/
def Gives (v : Value) (w : World) (e : Ending) (w' : World) : Prop := e = .returned v ∧ Below w.heap.size w w'

theorem below_drewN {w : World} (n : Nat) : Below w.heap.size w (w.drewN n) := ⟨rfl, rfl, rfl, Nat.le_refl _, fun _ _ => rfl⟩

/-- The quotient, rounded down or up. -/
def quot (up : Bool) (n c : Nat) : Nat := if up = true ∧ 0 < n % c then n / c + 1 else n / c

theorem div64_any (hi lo y : Nat) (hy : hi < y) (hy' : y < 18446744073709551616) (hl : lo < 18446744073709551616) (w : World) :
    Calls Try.prog 86 #[.int .u64 hi, .int .u64 lo, .int .u64 y] w (Gives (.tuple #[.int .u64 (((hi * 18446744073709551616 + lo) / y : Nat) : Int), .int .u64 (((hi * 18446744073709551616 + lo) % y : Nat) : Int)]) w) := by
  by_cases h : hi = 0
  · subst h
    refine (Div64.low lo y hy hy' hl w).mono fun e w' h => ?_
    obtain ⟨rfl, n, rfl⟩ := h
    exact ⟨by rw [Nat.zero_mul, Nat.zero_add], below_drewN n⟩
  · refine (Div64.high hi lo y (by omega) hy hy' hl w).mono fun e w' h => ?_
    obtain ⟨rfl, rfl⟩ := h
    exact ⟨rfl, Below.refl _ _⟩

def wideBox (h l : Int) : Obj := .cells #[.int .u64 h, .int .u64 l] 134

set_option maxHeartbeats 400000 in
theorem product_ok (a b : Int) (ha : 0 ≤ a) (hb : 0 ≤ b) (ha' : a ≤ 9223372036854775807) (hb' : b ≤ 9223372036854775807) (w : World) :
    Calls Try.prog 85 #[.int .i64 a, .int .i64 b] w fun e w' =>
      e = .returned (.tuple #[.agg #[.int .u64 ((a.toNat * b.toNat / 18446744073709551616 : Nat) : Int), .int .u64 ((a.toNat * b.toNat % 18446744073709551616 : Nat) : Int)], .int .i64 0]) ∧
      w' = w.alloc (wideBox ((a.toNat * b.toNat / 18446744073709551616 : Nat) : Int) ((a.toNat * b.toNat % 18446744073709551616 : Nat) : Int)) := by
  obtain ⟨x, rfl⟩ := Int.eq_ofNat_of_zero_le ha
  obtain ⟨y, rfl⟩ := Int.eq_ofNat_of_zero_le hb
  simp only [Int.toNat_natCast]
  have hM := Lib.hid (Try.bits_Mul64 x y (by omega) (by omega))
  generalize x * y / 18446744073709551616 = h at *
  generalize x * y % 18446744073709551616 = l at *
  have e1 : IntKind.u64.wrap (x : Int) = (x : Int) := Div64.wrapM _ _ (Nat.mod_eq_of_lt (by omega))
  have e2 : IntKind.u64.wrap (y : Int) = (y : Int) := Div64.wrapM _ _ (Nat.mod_eq_of_lt (by omega))
  unfold wideBox
  go_enter Try.func85, Try.ntmps85
  go_wp2_with (go_at_call 74; refine (hM.out _).mono ?_; rintro e w' ⟨rfl, rfl⟩)
  exact bodyPost_ret (v := .tuple #[.agg #[.int .u64 h, .int .u64 l], .int .i64 0]) (by simp [results, Try.results85, go_sem]) rfl ⟨rfl, rfl⟩

set_option maxHeartbeats 400000 in
theorem product_bad (a b : Int) (h : a < 0 ∨ b < 0) (w : World) :
    Calls Try.prog 85 #[.int .i64 a, .int .i64 b] w fun e w' => e = .returned (.tuple #[.agg #[.int .u64 0, .int .u64 0], .int .i64 10]) ∧ w' = w.alloc (wideBox 0 0) := by
  unfold wideBox
  by_cases h1 : a < 0
  · clear h
    go_enter Try.func85, Try.ntmps85
    go_wp2
    exact bodyPost_ret (v := .tuple #[.agg #[.int .u64 0, .int .u64 0], .int .i64 10]) (by simp [results, Try.results85, go_sem]) rfl ⟨rfl, rfl⟩
  · have h2 : b < 0 := by omega
    clear h
    go_enter Try.func85, Try.ntmps85
    go_wp2
    exact bodyPost_ret (v := .tuple #[.agg #[.int .u64 0, .int .u64 0], .int .i64 10]) (by simp [results, Try.results85, go_sem]) rfl ⟨rfl, rfl⟩

set_option maxHeartbeats 400000 in
theorem div_range (a b c : Int) (up : Bool) (h : a < 0 ∨ b < 0 ∨ c < 0) (ha' : a ≤ 9223372036854775807) (hb' : b ≤ 9223372036854775807) (w : World) :
    Calls Try.prog 81 #[.int .i64 a, .int .i64 b, .int .i64 c, .bool up] w (Gives (.tuple #[.int .i64 0, .int .i64 10]) w) := by
  by_cases h1 : a < 0 ∨ b < 0
  · have H := Lib.hid h1
    clear h h1
    go_enter Try.func81, Try.ntmps81
    go_wp2_with (go_at_call 85; refine (product_bad _ _ H.out _).mono ?_; rintro e w' ⟨rfl, rfl⟩; unfold wideBox)
    go_ret2
    refine ⟨rfl, ?_⟩
    repeat (with_reducible refine bel_alloc ?_)
    with_reducible exact Below.refl _ _
  · have h2 : 0 ≤ a := by omega
    have h3 : 0 ≤ b := by omega
    have h4 : c < 0 := by omega
    clear h h1
    go_enter Try.func81, Try.ntmps81
    go_wp2_with (go_at_call 85; refine (product_ok _ _ h2 h3 ha' hb' _).mono ?_; rintro e w' ⟨rfl, rfl⟩; unfold wideBox)
    go_ret2
    refine ⟨rfl, ?_⟩
    repeat (with_reducible refine bel_alloc ?_)
    with_reducible exact Below.refl _ _

set_option maxHeartbeats 400000 in
theorem div_zero (a b : Int) (up : Bool) (h2 : 0 ≤ a) (h3 : 0 ≤ b) (ha' : a ≤ 9223372036854775807) (hb' : b ≤ 9223372036854775807) (w : World) :
    Calls Try.prog 81 #[.int .i64 a, .int .i64 b, .int .i64 0, .bool up] w (Gives (.tuple #[.int .i64 0, .int .i64 12]) w) := by
  go_enter Try.func81, Try.ntmps81
  go_wp2_with (go_at_call 85; refine (product_ok _ _ h2 h3 ha' hb' _).mono ?_; rintro e w' ⟨rfl, rfl⟩; unfold wideBox)
  go_ret2
  refine ⟨rfl, ?_⟩
  repeat (with_reducible refine bel_alloc ?_)
  with_reducible exact Below.refl _ _

end Go.Proofs.Ytmcilmmnpolieaa
/- What num.Div answers where the numbers may be divided. Each theorem's premises are its conditions. -/
namespace Go.Proofs.Ytmcilmmnpolieaa
open Go.RowKit

theorem quot_low (n c : Nat) : quot false n c = n / c := by unfold quot; simp
theorem quot_up (n c : Nat) (h : 0 < n % c) : quot true n c = n / c + 1 := by unfold quot; simp [h]
theorem quot_even (up : Bool) (n c : Nat) (h : n % c = 0) : quot up n c = n / c := by unfold quot; rw [if_neg (by omega)]

theorem high_over' {n c K : Nat} (hK : 0 < K) (hc : 0 < c) (h : c ≤ n / K) : K ≤ n / c := by
  rw [Nat.le_div_iff_mul_le hc]
  rw [Nat.le_div_iff_mul_le hK] at h
  rw [Nat.mul_comm]; exact h
theorem low_fits' {n c K : Nat} (hK : 0 < K) (h : n / K < c) : n / c < K := by
  have hc : 0 < c := Nat.lt_of_le_of_lt (Nat.zero_le _) h
  rw [Nat.div_lt_iff_lt_mul hc]
  rw [Nat.div_lt_iff_lt_mul hK] at h
  rw [Nat.mul_comm]; exact h
theorem high_over {n c : Nat} (hc : 0 < c) (h : c ≤ n / 18446744073709551616) : 18446744073709551616 ≤ n / c := high_over' (by omega) hc h
theorem low_fits {n c : Nat} (h : n / 18446744073709551616 < c) : n / c < 18446744073709551616 := low_fits' (by omega) h

set_option maxRecDepth 100000 in
set_option maxHeartbeats 800000 in
/-- the walk, with all numbers under names: n what is left, r the rest. -/
theorem div_walk (x y c h l n r : Nat) (up : Bool) (hx : (x : Int) ≤ 9223372036854775807) (hy : (y : Int) ≤ 9223372036854775807) (hc : 0 < c) (hc' : (c : Int) ≤ 9223372036854775807)
    (hh : Hid (x * y / 18446744073709551616 = h)) (hl : Hid (x * y % 18446744073709551616 = l)) (hll : l < 18446744073709551616)
    (hn : Hid (h < c → (h * 18446744073709551616 + l) / c = n ∧ (h * 18446744073709551616 + l) % c = r)) (hnl : n < 18446744073709551616) (q e : Int)
    (hq : Hid ((c ≤ h ∧ q = 0 ∧ e = 11) ∨ (h < c ∧ (9223372036854775807 : Int) < n ∧ q = 0 ∧ e = 11) ∨ (h < c ∧ n = 9223372036854775807 ∧ up = true ∧ 0 < r ∧ q = 0 ∧ e = 11) ∨ (h < c ∧ (n : Int) ≤ 9223372036854775806 ∧ up = true ∧ 0 < r ∧ q = n + 1 ∧ e = 0) ∨
      (h < c ∧ (n : Int) ≤ 9223372036854775807 ∧ up = true ∧ r = 0 ∧ q = n ∧ e = 0) ∨ (h < c ∧ (n : Int) ≤ 9223372036854775807 ∧ up = false ∧ q = n ∧ e = 0))) (w : World) :
    Calls Try.prog 81 #[.int .i64 x, .int .i64 y, .int .i64 c, .bool up] w (Gives (.tuple #[.int .i64 q, .int .i64 e]) w) := by
  have P1 := Lib.hid (fun w => product_ok (x : Int) (y : Int) (by omega) (by omega) (by omega) (by omega) w)
  simp only [Int.toNat_natCast] at P1
  rw [hh.out, hl.out] at P1
  have e1 : IntKind.u64.wrap (c : Int) = (c : Int) := Div64.wrapM _ _ (Nat.mod_eq_of_lt (by omega))
  have e2 : ((c : Int) == 0) = false := by simp; omega
  have D : Hid (h < c → ∀ w, Calls Try.prog 86 #[.int .u64 h, .int .u64 l, .int .u64 c] w (Gives (.tuple #[.int .u64 n, .int .u64 r]) w)) := by
    intro hlt w
    have := div64_any h l c hlt (by omega) (by omega) w
    obtain ⟨a1, a2⟩ := hn.out hlt
    rw [a1, a2] at this
    exact this
  clear hn hh hl
  have hq' := hq.out
  clear hq
  rcases hq' with ⟨h1, rfl, rfl⟩ | ⟨h1, h2, rfl, rfl⟩ | ⟨h1, rfl, rfl, h2, rfl, rfl⟩ | ⟨h1, h3, rfl, h2, rfl, rfl⟩ | ⟨h1, h3, rfl, rfl, rfl, rfl⟩ | ⟨h1, h3, rfl, rfl, rfl⟩
  · have h1' : (c : Int) ≤ (h : Int) := by omega
    go_enter Try.func81, Try.ntmps81
    go_wp2_with (go_at_call 85; refine (P1.out _).mono ?_; rintro e w' ⟨rfl, rfl⟩; unfold wideBox)
    go_ret2
    refine ⟨rfl, ?_⟩
    repeat (with_reducible refine bel_alloc ?_)
    with_reducible exact Below.refl _ _
  all_goals
    have D1 := Lib.hid (D.out h1)
    have h1' : ¬ (c : Int) ≤ (h : Int) := by omega
  · go_enter Try.func81, Try.ntmps81
    go_wp2_with (first | (go_at_call 85; refine (P1.out _).mono ?_; rintro e w' ⟨rfl, rfl⟩; unfold wideBox) | (go_at_call 86; refine (D1.out _).mono ?_; rintro e w' ⟨rfl, hb⟩))
    go_ret2
    refine ⟨rfl, bel_end ?_ hb⟩
    repeat (with_reducible refine bel_alloc ?_)
    with_reducible exact Below.refl _ _
  · have h2' : (0 : Int) < (r : Int) := by omega
    go_enter Try.func81, Try.ntmps81
    go_wp2_with (first | (go_at_call 85; refine (P1.out _).mono ?_; rintro e w' ⟨rfl, rfl⟩; unfold wideBox) | (go_at_call 86; refine (D1.out _).mono ?_; rintro e w' ⟨rfl, hb⟩))
    go_ret2
    refine ⟨rfl, bel_end ?_ hb⟩
    repeat (with_reducible refine bel_alloc ?_)
    with_reducible exact Below.refl _ _
  · have h2' : (0 : Int) < (r : Int) := by omega
    have h3' : ((n : Int) == 9223372036854775807) = false := by simp; omega
    have h3'' : ¬ (9223372036854775807 : Int) < (n : Int) := by omega
    have e3 : IntKind.i64.wrap ((n : Int) + 1) = (n : Int) + 1 := by rw [IntKind.wrap_i64]; omega
    go_enter Try.func81, Try.ntmps81
    go_wp2_with (first | (go_at_call 85; refine (P1.out _).mono ?_; rintro e w' ⟨rfl, rfl⟩; unfold wideBox) | (go_at_call 86; refine (D1.out _).mono ?_; rintro e w' ⟨rfl, hb⟩))
    go_ret2
    refine ⟨rfl, bel_end ?_ hb⟩
    repeat (with_reducible refine bel_alloc ?_)
    with_reducible exact Below.refl _ _
  · by_cases h4 : n = 9223372036854775807
    · subst h4
      go_enter Try.func81, Try.ntmps81
      go_wp2_with (first | (go_at_call 85; refine (P1.out _).mono ?_; rintro e w' ⟨rfl, rfl⟩; unfold wideBox) | (go_at_call 86; refine (D1.out _).mono ?_; rintro e w' ⟨rfl, hb⟩))
      go_ret2
      refine ⟨rfl, bel_end ?_ hb⟩
      repeat (with_reducible refine bel_alloc ?_)
      with_reducible exact Below.refl _ _
    · have h3'' : ¬ (9223372036854775807 : Int) < (n : Int) := by omega
      have h3' : ((n : Int) == 9223372036854775807) = false := by simp; omega
      have e3 : IntKind.i64.wrap (n : Int) = (n : Int) := by rw [IntKind.wrap_i64]; omega
      clear h4
      go_enter Try.func81, Try.ntmps81
      go_wp2_with (first | (go_at_call 85; refine (P1.out _).mono ?_; rintro e w' ⟨rfl, rfl⟩; unfold wideBox) | (go_at_call 86; refine (D1.out _).mono ?_; rintro e w' ⟨rfl, hb⟩))
      go_ret2
      refine ⟨rfl, bel_end ?_ hb⟩
      repeat (with_reducible refine bel_alloc ?_)
      with_reducible exact Below.refl _ _
  · by_cases h4 : n = 9223372036854775807
    · subst h4
      go_enter Try.func81, Try.ntmps81
      go_wp2_with (first | (go_at_call 85; refine (P1.out _).mono ?_; rintro e w' ⟨rfl, rfl⟩; unfold wideBox) | (go_at_call 86; refine (D1.out _).mono ?_; rintro e w' ⟨rfl, hb⟩))
      go_ret2
      refine ⟨rfl, bel_end ?_ hb⟩
      repeat (with_reducible refine bel_alloc ?_)
      with_reducible exact Below.refl _ _
    · have h3'' : ¬ (9223372036854775807 : Int) < (n : Int) := by omega
      have h3' : ((n : Int) == 9223372036854775807) = false := by simp; omega
      have e3 : IntKind.i64.wrap (n : Int) = (n : Int) := by rw [IntKind.wrap_i64]; omega
      clear h4
      go_enter Try.func81, Try.ntmps81
      go_wp2_with (first | (go_at_call 85; refine (P1.out _).mono ?_; rintro e w' ⟨rfl, rfl⟩; unfold wideBox) | (go_at_call 86; refine (D1.out _).mono ?_; rintro e w' ⟨rfl, hb⟩))
      go_ret2
      refine ⟨rfl, bel_end ?_ hb⟩
      repeat (with_reducible refine bel_alloc ?_)
      with_reducible exact Below.refl _ _
theorem quot_le (up : Bool) (n c : Nat) : n / c ≤ quot up n c ∧ quot up n c ≤ n / c + 1 := by unfold quot; split <;> omega

theorem div_rest {x y : Nat} : x * y / 18446744073709551616 * 18446744073709551616 + x * y % 18446744073709551616 = x * y := Nat.div_add_mod' _ _

/-- WHAT num.Div ANSWERS: the quotient, if it fits. -/
theorem div_ok (a b c : Int) (up : Bool) (ha : 0 ≤ a) (hb : 0 ≤ b) (hc : 1 ≤ c) (ha' : a ≤ 9223372036854775807) (hb' : b ≤ 9223372036854775807) (hc' : c ≤ 9223372036854775807)
    (h : quot up (a.toNat * b.toNat) c.toNat ≤ 9223372036854775807) (w : World) :
    Calls Try.prog 81 #[.int .i64 a, .int .i64 b, .int .i64 c, .bool up] w (Gives (.tuple #[.int .i64 ((quot up (a.toNat * b.toNat) c.toNat : Nat) : Int), .int .i64 0]) w) := by
  obtain ⟨x, rfl⟩ := Int.eq_ofNat_of_zero_le ha
  obtain ⟨y, rfl⟩ := Int.eq_ofNat_of_zero_le hb
  obtain ⟨z, rfl⟩ := Int.eq_ofNat_of_zero_le (show 0 ≤ c by omega)
  simp only [Int.toNat_natCast] at *
  have hq := quot_le up (x * y) z
  have hlt : x * y / 18446744073709551616 < z := by
    rcases Nat.lt_or_ge (x * y / 18446744073709551616) z with h1 | h1
    · exact h1
    · have := high_over (by omega) h1; omega
  have hn := low_fits hlt
  refine div_walk x y z _ _ (x * y / z) (x * y % z) up ha' hb' (by omega) hc' rfl rfl (Nat.mod_lt _ (by omega)) (fun _ => by rw [div_rest]; exact ⟨rfl, rfl⟩) hn _ _ ?_ w
  show _ ∨ _
  cases up with
  | false => rw [quot_low] at *; exact .inr (.inr (.inr (.inr (.inr ⟨hlt, by omega, rfl, rfl, rfl⟩))))
  | true =>
    rcases Nat.eq_zero_or_pos (x * y % z) with h0 | h0
    · rw [quot_even _ _ _ h0] at *; exact .inr (.inr (.inr (.inr (.inl ⟨hlt, by omega, rfl, h0, rfl, rfl⟩))))
    · rw [quot_up _ _ h0] at *; exact .inr (.inr (.inr (.inl ⟨hlt, by omega, rfl, h0, by omega, rfl⟩)))

/-- .. or that it does not fit. -/
theorem div_over (a b c : Int) (up : Bool) (ha : 0 ≤ a) (hb : 0 ≤ b) (hc : 1 ≤ c) (ha' : a ≤ 9223372036854775807) (hb' : b ≤ 9223372036854775807) (hc' : c ≤ 9223372036854775807)
    (h : 9223372036854775807 < quot up (a.toNat * b.toNat) c.toNat) (w : World) :
    Calls Try.prog 81 #[.int .i64 a, .int .i64 b, .int .i64 c, .bool up] w (Gives (.tuple #[.int .i64 0, .int .i64 11]) w) := by
  obtain ⟨x, rfl⟩ := Int.eq_ofNat_of_zero_le ha
  obtain ⟨y, rfl⟩ := Int.eq_ofNat_of_zero_le hb
  obtain ⟨z, rfl⟩ := Int.eq_ofNat_of_zero_le (show 0 ≤ c by omega)
  simp only [Int.toNat_natCast] at *
  rcases Nat.lt_or_ge (x * y / 18446744073709551616) z with hlt | hlt
  · have hn := low_fits hlt
    refine div_walk x y z _ _ (x * y / z) (x * y % z) up ha' hb' (by omega) hc' rfl rfl (Nat.mod_lt _ (by omega)) (fun _ => by rw [div_rest]; exact ⟨rfl, rfl⟩) hn _ _ ?_ w
    show _ ∨ _
    cases up with
    | false => rw [quot_low] at *; exact .inr (.inl ⟨hlt, by omega, rfl, rfl⟩)
    | true =>
      rcases Nat.eq_zero_or_pos (x * y % z) with h0 | h0
      · rw [quot_even _ _ _ h0] at *; exact .inr (.inl ⟨hlt, by omega, rfl, rfl⟩)
      · rw [quot_up _ _ h0] at *
        by_cases h4 : x * y / z = 9223372036854775807
        · exact .inr (.inr (.inl ⟨hlt, h4, rfl, h0, rfl, rfl⟩))
        · exact .inr (.inl ⟨hlt, by omega, rfl, rfl⟩)
  · refine div_walk x y z _ _ 0 0 up ha' hb' (by omega) hc' rfl rfl (Nat.mod_lt _ (by omega)) (fun h => by omega) (by omega) _ _ ?_ w
    exact .inl ⟨hlt, rfl, rfl⟩

end Go.Proofs.Ytmcilmmnpolieaa
/- What num.Div answers at any three numbers of 64 bits, in one function of them. -/
namespace Go.Proofs.Ytmcilmmnpolieaa
open Go.RowKit

/-- The quotient, or 0. -/
def divNum (a b c : Int) (up : Bool) : Int :=
  if a < 0 ∨ b < 0 ∨ c < 0 then 0 else if c = 0 then 0 else if 9223372036854775807 < quot up (a.toNat * b.toNat) c.toNat then 0 else ((quot up (a.toNat * b.toNat) c.toNat : Nat) : Int)
/-- What is wrong, or 0. -/
def divErr (a b c : Int) (up : Bool) : Int :=
  if a < 0 ∨ b < 0 ∨ c < 0 then 10 else if c = 0 then 12 else if 9223372036854775807 < quot up (a.toNat * b.toNat) c.toNat then 11 else 0

theorem divRes_range {a b c : Int} {up : Bool} (h : a < 0 ∨ b < 0 ∨ c < 0) : divNum a b c up = 0 ∧ divErr a b c up = 10 := by
  unfold divNum divErr; rw [if_pos h, if_pos h]; exact ⟨rfl, rfl⟩
theorem divRes_zero {a b : Int} {up : Bool} (ha : 0 ≤ a) (hb : 0 ≤ b) : divNum a b 0 up = 0 ∧ divErr a b 0 up = 12 := by
  unfold divNum divErr; constructor <;> rw [if_neg (by omega), if_pos rfl]
theorem divRes_over {a b c : Int} {up : Bool} (ha : 0 ≤ a) (hb : 0 ≤ b) (hc : 1 ≤ c) (h : 9223372036854775807 < quot up (a.toNat * b.toNat) c.toNat) : divNum a b c up = 0 ∧ divErr a b c up = 11 := by
  unfold divNum divErr; constructor <;> rw [if_neg (by omega), if_neg (by omega), if_pos h]
theorem divRes_ok {a b c : Int} {up : Bool} (ha : 0 ≤ a) (hb : 0 ≤ b) (hc : 1 ≤ c) (h : quot up (a.toNat * b.toNat) c.toNat ≤ 9223372036854775807) : divNum a b c up = ((quot up (a.toNat * b.toNat) c.toNat : Nat) : Int) ∧ divErr a b c up = 0 := by
  unfold divNum divErr; constructor <;> rw [if_neg (by omega), if_neg (by omega), if_neg (by omega)]

theorem div_any (a b c : Int) (up : Bool) (ha' : a ≤ 9223372036854775807) (hb' : b ≤ 9223372036854775807) (hc' : c ≤ 9223372036854775807) (w : World) :
    Calls Try.prog 81 #[.int .i64 a, .int .i64 b, .int .i64 c, .bool up] w (Gives (.tuple #[.int .i64 (divNum a b c up), .int .i64 (divErr a b c up)]) w) := by
  by_cases h : a < 0 ∨ b < 0 ∨ c < 0
  · obtain ⟨e1, e2⟩ := divRes_range (up := up) h
    rw [e1, e2]; exact div_range a b c up h ha' hb' w
  · by_cases h0 : c = 0
    · subst h0
      obtain ⟨e1, e2⟩ := divRes_zero (a := a) (b := b) (up := up) (by omega) (by omega)
      rw [e1, e2]; exact div_zero a b up (by omega) (by omega) ha' hb' w
    · rcases Nat.lt_or_ge 9223372036854775807 (quot up (a.toNat * b.toNat) c.toNat) with h1 | h1
      · obtain ⟨e1, e2⟩ := divRes_over (a := a) (b := b) (c := c) (up := up) (by omega) (by omega) (by omega) h1
        rw [e1, e2]; exact div_over a b c up (by omega) (by omega) (by omega) ha' hb' hc' h1 w
      · obtain ⟨e1, e2⟩ := divRes_ok (a := a) (b := b) (c := c) (up := up) (by omega) (by omega) (by omega) h1
        rw [e1, e2]; exact div_ok a b c up (by omega) (by omega) (by omega) ha' hb' hc' h1 w

/-! ### what the quotient is -/
theorem quot_up_le {n c : Nat} (hc : 0 < c) : n ≤ quot true n c * c ∧ quot true n c * c < n + c := by
  have h := Nat.div_add_mod' n c
  have hm := Nat.mod_lt n hc
  unfold quot
  generalize n / c = q at *
  generalize n % c = r at *
  by_cases h1 : 0 < r
  · rw [if_pos ⟨rfl, h1⟩, Nat.add_mul]; omega
  · rw [if_neg (fun h2 => h1 h2.2)]; omega
theorem quot_down_le {n c : Nat} (hc : 0 < c) : quot false n c * c ≤ n ∧ n < quot false n c * c + c := by
  have h := Nat.div_add_mod' n c
  have hm := Nat.mod_lt n hc
  rw [quot_low]
  generalize n / c = q at *
  generalize n % c = r at *
  omega
/-- the quotient is more than k, rounded up, just if k times what it is divided by is less. -/
theorem quot_up_gt {n c k : Nat} (hc : 0 < c) : k < quot true n c ↔ k * c < n := by
  have h := quot_up_le (n := n) hc
  constructor
  · intro h1
    have : (k + 1) * c ≤ quot true n c * c := Nat.mul_le_mul_right _ h1
    rw [Nat.add_mul] at this; omega
  · intro h1
    apply Classical.byContradiction; intro h2
    have : quot true n c * c ≤ k * c := Nat.mul_le_mul_right _ (by omega)
    omega
theorem quot_down_gt {n c k : Nat} (hc : 0 < c) : k < quot false n c ↔ k * c + c ≤ n := by
  have h := quot_down_le (n := n) hc
  constructor
  · intro h1
    have : (k + 1) * c ≤ quot false n c * c := Nat.mul_le_mul_right _ h1
    rw [Nat.add_mul] at this; omega
  · intro h1
    apply Classical.byContradiction; intro h2
    have : quot false n c * c ≤ k * c := Nat.mul_le_mul_right _ (by omega)
    omega

/-- a cell of a world that has grown. -/
theorem bcell {W w1 : World} (hb : Below W.heap.size W w1) : ∀ b o, b < W.heap.size → w1.cell? ⟨b, o, none⟩ = W.cell? ⟨b, o, none⟩ := fun b o h => hb.cell (p := ⟨b, o, none⟩) h

end Go.Proofs.Ytmcilmmnpolieaa
/- How a quotient, rounded up or down, hangs on what is divided. Plain; each theorem's premises are its conditions. -/
namespace Go.Proofs.Ytmcilmmnpolieaa

theorem quot_mono {n m c : Nat} (up : Bool) (hc : 0 < c) (h : n ≤ m) : quot up n c ≤ quot up m c := by
  apply Classical.byContradiction
  intro h1
  cases up with
  | true =>
    have := (quot_up_gt (n := n) (k := quot true m c) hc).1 (by omega)
    have := (quot_up_le (n := m) hc).1
    omega
  | false =>
    have := (quot_down_gt (n := n) (k := quot false m c) hc).1 (by omega)
    have := (quot_down_le (n := m) hc).2
    omega
theorem quot_anti {n c d : Nat} (up : Bool) (hc : 0 < c) (h : c ≤ d) : quot up n d ≤ quot up n c := by
  apply Classical.byContradiction
  intro h1
  cases up with
  | true =>
    have h2 := (quot_up_gt (n := n) (k := quot true n c) (show 0 < d by omega)).1 (by omega)
    have h3 := (quot_up_le (n := n) hc).1
    have h4 : quot true n c * c ≤ quot true n c * d := Nat.mul_le_mul_left _ h
    omega
  | false =>
    have h2 := (quot_down_gt (n := n) (k := quot false n c) (show 0 < d by omega)).1 (by omega)
    have h3 := (quot_down_le (n := n) hc).2
    have h4 : quot false n c * c ≤ quot false n c * d := Nat.mul_le_mul_left _ h
    omega
theorem quot_both (n c : Nat) : quot false n c ≤ quot true n c ∧ quot true n c ≤ quot false n c + 1 := by
  have h1 := quot_le true n c
  have h2 := quot_low n c
  omega
theorem quot_fit (up : Bool) {n c k : Nat} (hc : 0 < c) (h : n ≤ k * c) : quot up n c ≤ k := by
  have h2 : ¬ k < quot true n c := fun h1 => by have := (quot_up_gt hc).1 h1; omega
  have := quot_both n c
  cases up <;> omega
theorem quot_exact (up : Bool) {c k : Nat} (hc : 0 < c) : quot up (k * c) c = k := by
  have h1 : k * c % c = 0 := Nat.mul_mod_left k c
  rw [quot_even up _ _ h1, Nat.mul_div_cancel _ hc]
/-- sums: of two quotients of two numbers. -/
theorem quot_add_down (n m c : Nat) (hc : 0 < c) : quot false n c + quot false m c ≤ quot false (n + m) c ∧ quot false (n + m) c ≤ quot false n c + quot false m c + 1 := by
  have h1 := quot_down_le (n := n) hc
  have h2 := quot_down_le (n := m) hc
  constructor
  · apply Classical.byContradiction
    intro h3
    have h4 := (quot_down_le (n := n + m) hc).2
    have h5 : (quot false (n + m) c + 1) * c ≤ (quot false n c + quot false m c) * c := Nat.mul_le_mul_right _ (by omega)
    rw [Nat.add_mul, Nat.add_mul] at h5; omega
  · apply Classical.byContradiction
    intro h3
    have h4 := (quot_down_le (n := n + m) hc).1
    have h5 : (quot false n c + quot false m c + 1 + 1) * c ≤ quot false (n + m) c * c := Nat.mul_le_mul_right _ (by omega)
    rw [Nat.add_mul, Nat.add_mul, Nat.add_mul] at h5; omega
theorem quot_add_up (n m c : Nat) (hc : 0 < c) : quot true (n + m) c ≤ quot true n c + quot true m c ∧ quot true n c + quot true m c ≤ quot true (n + m) c + 1 := by
  have h1 := quot_up_le (n := n) hc
  have h2 := quot_up_le (n := m) hc
  have h6 := quot_up_le (n := n + m) hc
  constructor
  · apply Classical.byContradiction
    intro h3
    have h4 := (quot_up_gt (n := n + m) (k := quot true n c + quot true m c) hc).1 (by omega)
    rw [Nat.add_mul] at h4; omega
  · apply Classical.byContradiction
    intro h3
    have h5 : (quot true (n + m) c + 1 + 1) * c ≤ (quot true n c + quot true m c) * c := Nat.mul_le_mul_right _ (by omega)
    rw [Nat.add_mul, Nat.add_mul, Nat.add_mul] at h5; omega

/-- num.Div's answer where it fits, of natural numbers. -/
theorem divRes_nat {x y c : Nat} {up : Bool} (hc : 0 < c) (h : quot up (x * y) c ≤ 9223372036854775807) : divNum (x : Int) (y : Int) (c : Int) up = ((quot up (x * y) c : Nat) : Int) ∧ divErr (x : Int) (y : Int) (c : Int) up = 0 := by
  have := divRes_ok (a := (x : Int)) (b := (y : Int)) (c := (c : Int)) (up := up) (by omega) (by omega) (by omega) (by simp only [Int.toNat_natCast]; exact h)
  simp only [Int.toNat_natCast] at this
  exact this
end Go.Proofs.Ytmcilmmnpolieaa
/- What ratio's Up answers at any numbers. No condition but that they are numbers of 64 bits. -/
namespace Go.Proofs.Ytmcilmmnpolieaa
open Go.RowKit

theorem up_any (q t : Int) (hq : q ≤ 9223372036854775807) (ht : t ≤ 9223372036854775807) (w : World) :
    Calls Try.prog 73 #[.int .i64 q, .int .i64 t] w (Gives (.tuple #[.int .i64 (divNum q 1048576 t true), .int .i64 (divErr q 1048576 t true)]) w) := by
  have D := Lib.hid (div_any q 1048576 t true hq (by omega) ht)
  generalize divNum q 1048576 t true = n at *
  generalize divErr q 1048576 t true = x at *
  go_enter Try.func73, Try.ntmps73
  go_wp2_with (go_at_call 81; refine (D.out _).mono ?_; rintro e w' ⟨rfl, hb⟩)
  go_ret2
  exact ⟨rfl, hb⟩
end Go.Proofs.Ytmcilmmnpolieaa
/- What ratio's Check, Use and Dense answer, and the reference's May. Each theorem's premises are its conditions. -/
namespace Go.Proofs.Ytmcilmmnpolieaa
open Go.RowKit

/-- which params may be. -/
def ParamsMay (q d t : Int) : Prop := 1 ≤ q ∧ q ≤ d ∧ d ≤ t ∧ t ≤ 1073741824
def paramsBox (q d t : Int) : Obj := .cells #[.int .i64 q, .int .i64 d, .int .i64 t] 24

set_option maxHeartbeats 400000 in
theorem pcheck_ok (q d t : Int) (h : ParamsMay q d t) (w : World) :
    Calls Try.prog 72 #[.agg #[.int .i64 q, .int .i64 d, .int .i64 t]] w fun e w' => e = .returned (.int .i64 0) ∧ w' = w.alloc (paramsBox q d t) := by
  obtain ⟨h1, h2, h3, h4⟩ := h
  unfold paramsBox
  go_enter Try.func72, Try.ntmps72
  go_wp2
  go_ret
  exact ⟨rfl, rfl⟩
set_option maxHeartbeats 400000 in
theorem pcheck_bad (q d t : Int) (h : ¬ ParamsMay q d t) (w : World) :
    Calls Try.prog 72 #[.agg #[.int .i64 q, .int .i64 d, .int .i64 t]] w fun e w' => e = .returned (.int .i64 1) ∧ w' = w.alloc (paramsBox q d t) := by
  unfold ParamsMay at h
  unfold paramsBox
  by_cases h1 : 1 ≤ q
  · by_cases h2 : q ≤ d
    · by_cases h3 : d ≤ t
      · have h4 : 1073741824 < t := by omega
        clear h
        go_enter Try.func72, Try.ntmps72
        go_wp2
        go_ret
        exact ⟨rfl, rfl⟩
      · have h4 : t < d := by omega
        clear h h3
        go_enter Try.func72, Try.ntmps72
        go_wp2
        go_ret
        exact ⟨rfl, rfl⟩
    · have h4 : d < q := by omega
      clear h h2
      go_enter Try.func72, Try.ntmps72
      go_wp2
      go_ret
      exact ⟨rfl, rfl⟩
  · have h4 : q < 1 := by omega
    clear h h1
    go_enter Try.func72, Try.ntmps72
    go_wp2
    go_ret
    exact ⟨rfl, rfl⟩

set_option maxHeartbeats 400000 in
theorem use_ok (q d t : Int) (h : ParamsMay q d t) (w : World) :
    Calls Try.prog 57 #[.agg #[.int .i64 q, .int .i64 d, .int .i64 t]] w (Gives (.tuple #[.int .i64 (divNum q 1048576 t true), .int .i64 (divErr q 1048576 t true)]) w) := by
  have C := Lib.hid (pcheck_ok q d t h)
  obtain ⟨h1, h2, h3, h4⟩ := h
  have U := Lib.hid (up_any q t (by omega) (by omega))
  generalize divNum q 1048576 t true = n at *
  generalize divErr q 1048576 t true = x at *
  unfold paramsBox at C
  go_enter Try.func57, Try.ntmps57
  go_wp2_with (first | (go_at_call 72; refine (C.out _).mono ?_; rintro e w' ⟨rfl, rfl⟩) | (go_at_call 73; refine (U.out _).mono ?_; rintro e w' ⟨rfl, hb⟩))
  go_ret2
  refine ⟨rfl, bel_end ?_ hb⟩
  repeat (with_reducible refine bel_alloc ?_)
  with_reducible exact Below.refl _ _
set_option maxHeartbeats 400000 in
theorem dense_ok (q d t : Int) (h : ParamsMay q d t) (w : World) :
    Calls Try.prog 56 #[.agg #[.int .i64 q, .int .i64 d, .int .i64 t]] w (Gives (.tuple #[.int .i64 (divNum q 1048576 d true), .int .i64 (divErr q 1048576 d true)]) w) := by
  have C := Lib.hid (pcheck_ok q d t h)
  obtain ⟨h1, h2, h3, h4⟩ := h
  have U := Lib.hid (up_any q d (by omega) (by omega))
  generalize divNum q 1048576 d true = n at *
  generalize divErr q 1048576 d true = x at *
  unfold paramsBox at C
  go_enter Try.func56, Try.ntmps56
  go_wp2_with (first | (go_at_call 72; refine (C.out _).mono ?_; rintro e w' ⟨rfl, rfl⟩) | (go_at_call 73; refine (U.out _).mono ?_; rintro e w' ⟨rfl, hb⟩))
  go_ret2
  refine ⟨rfl, bel_end ?_ hb⟩
  repeat (with_reducible refine bel_alloc ?_)
  with_reducible exact Below.refl _ _
set_option maxHeartbeats 400000 in
theorem use_bad (q d t : Int) (h : ¬ ParamsMay q d t) (w : World) :
    Calls Try.prog 57 #[.agg #[.int .i64 q, .int .i64 d, .int .i64 t]] w fun e w' => e = .returned (.tuple #[.int .i64 0, .int .i64 1]) ∧ w' = (w.alloc (paramsBox q d t)).alloc (paramsBox q d t) := by
  have C := Lib.hid (pcheck_bad q d t h)
  clear h
  unfold paramsBox at *
  go_enter Try.func57, Try.ntmps57
  go_wp2_with (go_at_call 72; refine (C.out _).mono ?_; rintro e w' ⟨rfl, rfl⟩)
  go_ret2
  exact ⟨rfl, rfl⟩
set_option maxHeartbeats 400000 in
theorem dense_bad (q d t : Int) (h : ¬ ParamsMay q d t) (w : World) :
    Calls Try.prog 56 #[.agg #[.int .i64 q, .int .i64 d, .int .i64 t]] w fun e w' => e = .returned (.tuple #[.int .i64 0, .int .i64 1]) ∧ w' = (w.alloc (paramsBox q d t)).alloc (paramsBox q d t) := by
  have C := Lib.hid (pcheck_bad q d t h)
  clear h
  unfold paramsBox at *
  go_enter Try.func56, Try.ntmps56
  go_wp2_with (go_at_call 72; refine (C.out _).mono ?_; rintro e w' ⟨rfl, rfl⟩)
  go_ret2
  exact ⟨rfl, rfl⟩

end Go.Proofs.Ytmcilmmnpolieaa
/- What num.Mul answers at any two numbers: the product, if it fits. No condition but that they are numbers of 64 bits. -/
namespace Go.Proofs.Ytmcilmmnpolieaa
open Go.RowKit

theorem size_any (n : Int) (h : -9223372036854775808 ≤ n) (h' : n ≤ 9223372036854775807) (w : World) : Calls Try.prog 75 #[.int .i64 n] w fun e w' => e = .returned (.int .u64 ((n.natAbs : Nat) : Int)) ∧ w = w' := by
  by_cases h0 : n < 0
  · have e1 : IntKind.u64.wrap (-IntKind.u64.wrap n) = ((n.natAbs : Nat) : Int) := by rw [IntKind.wrap_u64, IntKind.wrap_u64]; omega
    go_enter Try.func75, Try.ntmps75
    go_wp2
    go_ret
    exact ⟨rfl, rfl⟩
  · have h1 : 0 ≤ n := by omega
    have e1 : IntKind.u64.wrap n = n := by rw [IntKind.wrap_u64]; omega
    clear h0
    go_enter Try.func75, Try.ntmps75
    go_wp2
    go_ret
    exact ⟨ret1 (int_eq (by omega)), rfl⟩

set_option maxHeartbeats 800000 in
theorem mul_over00 (a b : Int) (ba : -9223372036854775808 ≤ a ∧ a ≤ 9223372036854775807) (bb : -9223372036854775808 ≤ b ∧ b ≤ 9223372036854775807) (ha : 0 ≤ a) (hb : 0 ≤ b) (h l : Nat) (hh : a.natAbs * b.natAbs / 18446744073709551616 = h) (hl : a.natAbs * b.natAbs % 18446744073709551616 = l) (hov : 0 < h ∨ 9223372036854775807 < l) (w : World) :
    Calls Try.prog 59 #[.int .i64 a, .int .i64 b] w fun e w' => e = .returned (.tuple #[.int .i64 0, .int .i64 11]) ∧ w' = w := by
  have d1 : decide (a < 0) = false := by simp; omega
  have d2 : decide (b < 0) = false := by simp; omega
  have S1 := Lib.hid (size_any a ba.1 ba.2)
  have S2 := Lib.hid (size_any b bb.1 bb.2)
  have M := Lib.hid (Try.bits_Mul64 a.natAbs b.natAbs (by omega) (by omega))
  rw [hh, hl] at M
  generalize a.natAbs = x at *
  generalize b.natAbs = y at *
  clear hh hl
  clear ba bb
  by_cases h1 : 0 < h
  · have h2 : (0 : Int) < (h : Int) := by omega
    clear hov h1
    go_enter Try.func59, Try.ntmps59
    go_wp2_with fail
    refine (S1.out _).mono ?_
    rintro e w1 ⟨rfl, rfl⟩
    go_wp2_with fail
    refine (S2.out _).mono ?_
    rintro e w1 ⟨rfl, rfl⟩
    go_wp2_with fail
    refine (M.out _).mono ?_
    rintro e w' ⟨rfl, rfl⟩
    go_wp2_with fail
    go_ret2
    exact ⟨rfl, rfl⟩
  · have h2 : h = 0 := by omega
    subst h2
    have h3 : (9223372036854775807 : Int) < (l : Int) := by omega
    clear hov h1
    go_enter Try.func59, Try.ntmps59
    go_wp2_with fail
    refine (S1.out _).mono ?_
    rintro e w1 ⟨rfl, rfl⟩
    go_wp2_with fail
    refine (S2.out _).mono ?_
    rintro e w1 ⟨rfl, rfl⟩
    go_wp2_with fail
    refine (M.out _).mono ?_
    rintro e w' ⟨rfl, rfl⟩
    go_wp2_with fail
    go_ret2
    exact ⟨rfl, rfl⟩
set_option maxHeartbeats 800000 in
theorem mul_fit00 (a b : Int) (ba : -9223372036854775808 ≤ a ∧ a ≤ 9223372036854775807) (bb : -9223372036854775808 ≤ b ∧ b ≤ 9223372036854775807) (ha : 0 ≤ a) (hb : 0 ≤ b) (h l : Nat) (hh : a.natAbs * b.natAbs / 18446744073709551616 = h) (hl : a.natAbs * b.natAbs % 18446744073709551616 = l) (h0 : h = 0) (hov : l ≤ 9223372036854775807) (w : World) :
    Calls Try.prog 59 #[.int .i64 a, .int .i64 b] w fun e w' => e = .returned (.tuple #[.int .i64 ((l : Int)), .int .i64 0]) ∧ w' = w := by
  subst h0
  have d1 : decide (a < 0) = false := by simp; omega
  have d2 : decide (b < 0) = false := by simp; omega
  have S1 := Lib.hid (size_any a ba.1 ba.2)
  have S2 := Lib.hid (size_any b bb.1 bb.2)
  have M := Lib.hid (Try.bits_Mul64 a.natAbs b.natAbs (by omega) (by omega))
  rw [hh, hl] at M
  generalize a.natAbs = x at *
  generalize b.natAbs = y at *
  clear hh hl
  clear ba bb
  have e1 : IntKind.i64.wrap (l : Int) = (l : Int) := by rw [IntKind.wrap_i64]; omega
  have h3 : (l : Int) ≤ 9223372036854775807 := by omega
  clear hov
  go_enter Try.func59, Try.ntmps59
  go_wp2_with fail
  refine (S1.out _).mono ?_
  rintro e w1 ⟨rfl, rfl⟩
  go_wp2_with fail
  refine (S2.out _).mono ?_
  rintro e w1 ⟨rfl, rfl⟩
  go_wp2_with fail
  refine (M.out _).mono ?_
  rintro e w' ⟨rfl, rfl⟩
  go_wp2_with fail
  go_ret2
  exact ⟨rfl, rfl⟩
set_option maxHeartbeats 800000 in
theorem mul_over01 (a b : Int) (ba : -9223372036854775808 ≤ a ∧ a ≤ 9223372036854775807) (bb : -9223372036854775808 ≤ b ∧ b ≤ 9223372036854775807) (ha : 0 ≤ a) (hb : b < 0) (h l : Nat) (hh : a.natAbs * b.natAbs / 18446744073709551616 = h) (hl : a.natAbs * b.natAbs % 18446744073709551616 = l) (hov : 0 < h ∨ 9223372036854775808 < l) (w : World) :
    Calls Try.prog 59 #[.int .i64 a, .int .i64 b] w fun e w' => e = .returned (.tuple #[.int .i64 0, .int .i64 11]) ∧ w' = w := by
  have d1 : decide (a < 0) = false := by simp; omega
  have d2 : decide (b < 0) = true := by simp; omega
  have S1 := Lib.hid (size_any a ba.1 ba.2)
  have S2 := Lib.hid (size_any b bb.1 bb.2)
  have M := Lib.hid (Try.bits_Mul64 a.natAbs b.natAbs (by omega) (by omega))
  rw [hh, hl] at M
  generalize a.natAbs = x at *
  generalize b.natAbs = y at *
  clear hh hl
  clear ba bb
  by_cases h1 : 0 < h
  · have h2 : (0 : Int) < (h : Int) := by omega
    clear hov h1
    go_enter Try.func59, Try.ntmps59
    go_wp2_with fail
    refine (S1.out _).mono ?_
    rintro e w1 ⟨rfl, rfl⟩
    go_wp2_with fail
    refine (S2.out _).mono ?_
    rintro e w1 ⟨rfl, rfl⟩
    go_wp2_with fail
    refine (M.out _).mono ?_
    rintro e w' ⟨rfl, rfl⟩
    go_wp2_with fail
    go_ret2
    exact ⟨rfl, rfl⟩
  · have h2 : h = 0 := by omega
    subst h2
    have h3 : (9223372036854775808 : Int) < (l : Int) := by omega
    clear hov h1
    go_enter Try.func59, Try.ntmps59
    go_wp2_with fail
    refine (S1.out _).mono ?_
    rintro e w1 ⟨rfl, rfl⟩
    go_wp2_with fail
    refine (S2.out _).mono ?_
    rintro e w1 ⟨rfl, rfl⟩
    go_wp2_with fail
    refine (M.out _).mono ?_
    rintro e w' ⟨rfl, rfl⟩
    go_wp2_with fail
    go_ret2
    exact ⟨rfl, rfl⟩
set_option maxHeartbeats 800000 in
theorem mul_fit01 (a b : Int) (ba : -9223372036854775808 ≤ a ∧ a ≤ 9223372036854775807) (bb : -9223372036854775808 ≤ b ∧ b ≤ 9223372036854775807) (ha : 0 ≤ a) (hb : b < 0) (h l : Nat) (hh : a.natAbs * b.natAbs / 18446744073709551616 = h) (hl : a.natAbs * b.natAbs % 18446744073709551616 = l) (h0 : h = 0) (hov : l ≤ 9223372036854775808) (w : World) :
    Calls Try.prog 59 #[.int .i64 a, .int .i64 b] w fun e w' => e = .returned (.tuple #[.int .i64 (-(l : Int)), .int .i64 0]) ∧ w' = w := by
  subst h0
  have d1 : decide (a < 0) = false := by simp; omega
  have d2 : decide (b < 0) = true := by simp; omega
  have S1 := Lib.hid (size_any a ba.1 ba.2)
  have S2 := Lib.hid (size_any b bb.1 bb.2)
  have M := Lib.hid (Try.bits_Mul64 a.natAbs b.natAbs (by omega) (by omega))
  rw [hh, hl] at M
  generalize a.natAbs = x at *
  generalize b.natAbs = y at *
  clear hh hl
  clear ba bb
  have e1 : IntKind.i64.wrap (IntKind.u64.wrap (-(l : Int))) = -(l : Int) := by rw [IntKind.wrap_u64, IntKind.wrap_i64]; omega
  have h3 : (l : Int) ≤ 9223372036854775808 := by omega
  clear hov
  go_enter Try.func59, Try.ntmps59
  go_wp2_with fail
  refine (S1.out _).mono ?_
  rintro e w1 ⟨rfl, rfl⟩
  go_wp2_with fail
  refine (S2.out _).mono ?_
  rintro e w1 ⟨rfl, rfl⟩
  go_wp2_with fail
  refine (M.out _).mono ?_
  rintro e w' ⟨rfl, rfl⟩
  go_wp2_with fail
  go_ret2
  exact ⟨rfl, rfl⟩
set_option maxHeartbeats 800000 in
theorem mul_over10 (a b : Int) (ba : -9223372036854775808 ≤ a ∧ a ≤ 9223372036854775807) (bb : -9223372036854775808 ≤ b ∧ b ≤ 9223372036854775807) (ha : a < 0) (hb : 0 ≤ b) (h l : Nat) (hh : a.natAbs * b.natAbs / 18446744073709551616 = h) (hl : a.natAbs * b.natAbs % 18446744073709551616 = l) (hov : 0 < h ∨ 9223372036854775808 < l) (w : World) :
    Calls Try.prog 59 #[.int .i64 a, .int .i64 b] w fun e w' => e = .returned (.tuple #[.int .i64 0, .int .i64 11]) ∧ w' = w := by
  have d1 : decide (a < 0) = true := by simp; omega
  have d2 : decide (b < 0) = false := by simp; omega
  have S1 := Lib.hid (size_any a ba.1 ba.2)
  have S2 := Lib.hid (size_any b bb.1 bb.2)
  have M := Lib.hid (Try.bits_Mul64 a.natAbs b.natAbs (by omega) (by omega))
  rw [hh, hl] at M
  generalize a.natAbs = x at *
  generalize b.natAbs = y at *
  clear hh hl
  clear ba bb
  by_cases h1 : 0 < h
  · have h2 : (0 : Int) < (h : Int) := by omega
    clear hov h1
    go_enter Try.func59, Try.ntmps59
    go_wp2_with fail
    refine (S1.out _).mono ?_
    rintro e w1 ⟨rfl, rfl⟩
    go_wp2_with fail
    refine (S2.out _).mono ?_
    rintro e w1 ⟨rfl, rfl⟩
    go_wp2_with fail
    refine (M.out _).mono ?_
    rintro e w' ⟨rfl, rfl⟩
    go_wp2_with fail
    go_ret2
    exact ⟨rfl, rfl⟩
  · have h2 : h = 0 := by omega
    subst h2
    have h3 : (9223372036854775808 : Int) < (l : Int) := by omega
    clear hov h1
    go_enter Try.func59, Try.ntmps59
    go_wp2_with fail
    refine (S1.out _).mono ?_
    rintro e w1 ⟨rfl, rfl⟩
    go_wp2_with fail
    refine (S2.out _).mono ?_
    rintro e w1 ⟨rfl, rfl⟩
    go_wp2_with fail
    refine (M.out _).mono ?_
    rintro e w' ⟨rfl, rfl⟩
    go_wp2_with fail
    go_ret2
    exact ⟨rfl, rfl⟩
set_option maxHeartbeats 800000 in
theorem mul_fit10 (a b : Int) (ba : -9223372036854775808 ≤ a ∧ a ≤ 9223372036854775807) (bb : -9223372036854775808 ≤ b ∧ b ≤ 9223372036854775807) (ha : a < 0) (hb : 0 ≤ b) (h l : Nat) (hh : a.natAbs * b.natAbs / 18446744073709551616 = h) (hl : a.natAbs * b.natAbs % 18446744073709551616 = l) (h0 : h = 0) (hov : l ≤ 9223372036854775808) (w : World) :
    Calls Try.prog 59 #[.int .i64 a, .int .i64 b] w fun e w' => e = .returned (.tuple #[.int .i64 (-(l : Int)), .int .i64 0]) ∧ w' = w := by
  subst h0
  have d1 : decide (a < 0) = true := by simp; omega
  have d2 : decide (b < 0) = false := by simp; omega
  have S1 := Lib.hid (size_any a ba.1 ba.2)
  have S2 := Lib.hid (size_any b bb.1 bb.2)
  have M := Lib.hid (Try.bits_Mul64 a.natAbs b.natAbs (by omega) (by omega))
  rw [hh, hl] at M
  generalize a.natAbs = x at *
  generalize b.natAbs = y at *
  clear hh hl
  clear ba bb
  have e1 : IntKind.i64.wrap (IntKind.u64.wrap (-(l : Int))) = -(l : Int) := by rw [IntKind.wrap_u64, IntKind.wrap_i64]; omega
  have h3 : (l : Int) ≤ 9223372036854775808 := by omega
  clear hov
  go_enter Try.func59, Try.ntmps59
  go_wp2_with fail
  refine (S1.out _).mono ?_
  rintro e w1 ⟨rfl, rfl⟩
  go_wp2_with fail
  refine (S2.out _).mono ?_
  rintro e w1 ⟨rfl, rfl⟩
  go_wp2_with fail
  refine (M.out _).mono ?_
  rintro e w' ⟨rfl, rfl⟩
  go_wp2_with fail
  go_ret2
  exact ⟨rfl, rfl⟩
set_option maxHeartbeats 800000 in
theorem mul_over11 (a b : Int) (ba : -9223372036854775808 ≤ a ∧ a ≤ 9223372036854775807) (bb : -9223372036854775808 ≤ b ∧ b ≤ 9223372036854775807) (ha : a < 0) (hb : b < 0) (h l : Nat) (hh : a.natAbs * b.natAbs / 18446744073709551616 = h) (hl : a.natAbs * b.natAbs % 18446744073709551616 = l) (hov : 0 < h ∨ 9223372036854775807 < l) (w : World) :
    Calls Try.prog 59 #[.int .i64 a, .int .i64 b] w fun e w' => e = .returned (.tuple #[.int .i64 0, .int .i64 11]) ∧ w' = w := by
  have d1 : decide (a < 0) = true := by simp; omega
  have d2 : decide (b < 0) = true := by simp; omega
  have S1 := Lib.hid (size_any a ba.1 ba.2)
  have S2 := Lib.hid (size_any b bb.1 bb.2)
  have M := Lib.hid (Try.bits_Mul64 a.natAbs b.natAbs (by omega) (by omega))
  rw [hh, hl] at M
  generalize a.natAbs = x at *
  generalize b.natAbs = y at *
  clear hh hl
  clear ba bb
  by_cases h1 : 0 < h
  · have h2 : (0 : Int) < (h : Int) := by omega
    clear hov h1
    go_enter Try.func59, Try.ntmps59
    go_wp2_with fail
    refine (S1.out _).mono ?_
    rintro e w1 ⟨rfl, rfl⟩
    go_wp2_with fail
    refine (S2.out _).mono ?_
    rintro e w1 ⟨rfl, rfl⟩
    go_wp2_with fail
    refine (M.out _).mono ?_
    rintro e w' ⟨rfl, rfl⟩
    go_wp2_with fail
    go_ret2
    exact ⟨rfl, rfl⟩
  · have h2 : h = 0 := by omega
    subst h2
    have h3 : (9223372036854775807 : Int) < (l : Int) := by omega
    clear hov h1
    go_enter Try.func59, Try.ntmps59
    go_wp2_with fail
    refine (S1.out _).mono ?_
    rintro e w1 ⟨rfl, rfl⟩
    go_wp2_with fail
    refine (S2.out _).mono ?_
    rintro e w1 ⟨rfl, rfl⟩
    go_wp2_with fail
    refine (M.out _).mono ?_
    rintro e w' ⟨rfl, rfl⟩
    go_wp2_with fail
    go_ret2
    exact ⟨rfl, rfl⟩
set_option maxHeartbeats 800000 in
theorem mul_fit11 (a b : Int) (ba : -9223372036854775808 ≤ a ∧ a ≤ 9223372036854775807) (bb : -9223372036854775808 ≤ b ∧ b ≤ 9223372036854775807) (ha : a < 0) (hb : b < 0) (h l : Nat) (hh : a.natAbs * b.natAbs / 18446744073709551616 = h) (hl : a.natAbs * b.natAbs % 18446744073709551616 = l) (h0 : h = 0) (hov : l ≤ 9223372036854775807) (w : World) :
    Calls Try.prog 59 #[.int .i64 a, .int .i64 b] w fun e w' => e = .returned (.tuple #[.int .i64 ((l : Int)), .int .i64 0]) ∧ w' = w := by
  subst h0
  have d1 : decide (a < 0) = true := by simp; omega
  have d2 : decide (b < 0) = true := by simp; omega
  have S1 := Lib.hid (size_any a ba.1 ba.2)
  have S2 := Lib.hid (size_any b bb.1 bb.2)
  have M := Lib.hid (Try.bits_Mul64 a.natAbs b.natAbs (by omega) (by omega))
  rw [hh, hl] at M
  generalize a.natAbs = x at *
  generalize b.natAbs = y at *
  clear hh hl
  clear ba bb
  have e1 : IntKind.i64.wrap (l : Int) = (l : Int) := by rw [IntKind.wrap_i64]; omega
  have h3 : (l : Int) ≤ 9223372036854775807 := by omega
  clear hov
  go_enter Try.func59, Try.ntmps59
  go_wp2_with fail
  refine (S1.out _).mono ?_
  rintro e w1 ⟨rfl, rfl⟩
  go_wp2_with fail
  refine (S2.out _).mono ?_
  rintro e w1 ⟨rfl, rfl⟩
  go_wp2_with fail
  refine (M.out _).mono ?_
  rintro e w' ⟨rfl, rfl⟩
  go_wp2_with fail
  go_ret2
  exact ⟨rfl, rfl⟩

/-- The product, if it fits, or 0. -/
def mulNum (a b : Int) : Int := if -9223372036854775808 ≤ a * b ∧ a * b ≤ 9223372036854775807 then a * b else 0
/-- What is wrong, or 0. -/
def mulErr (a b : Int) : Int := if -9223372036854775808 ≤ a * b ∧ a * b ≤ 9223372036854775807 then 0 else 11
theorem mulRes_fit {a b : Int} (h : -9223372036854775808 ≤ a * b ∧ a * b ≤ 9223372036854775807) : mulNum a b = a * b ∧ mulErr a b = 0 := by unfold mulNum mulErr; rw [if_pos h, if_pos h]; exact ⟨rfl, rfl⟩
theorem mulRes_over {a b : Int} (h : ¬ (-9223372036854775808 ≤ a * b ∧ a * b ≤ 9223372036854775807)) : mulNum a b = 0 ∧ mulErr a b = 11 := by unfold mulNum mulErr; rw [if_neg h, if_neg h]; exact ⟨rfl, rfl⟩

theorem mul_any (a b : Int) (ba : -9223372036854775808 ≤ a ∧ a ≤ 9223372036854775807) (bb : -9223372036854775808 ≤ b ∧ b ≤ 9223372036854775807) (w : World) :
    Calls Try.prog 59 #[.int .i64 a, .int .i64 b] w fun e w' => e = .returned (.tuple #[.int .i64 (mulNum a b), .int .i64 (mulErr a b)]) ∧ w' = w := by
  have hd := Nat.div_add_mod (a.natAbs * b.natAbs) 18446744073709551616
  have hm := Nat.mod_lt (a.natAbs * b.natAbs) (show 0 < 18446744073709551616 by omega)
  have hp : (a * b).natAbs = a.natAbs * b.natAbs := Int.natAbs_mul a b
  obtain ⟨h, hh⟩ : ∃ h, a.natAbs * b.natAbs / 18446744073709551616 = h := ⟨_, rfl⟩
  obtain ⟨l, hl⟩ : ∃ l, a.natAbs * b.natAbs % 18446744073709551616 = l := ⟨_, rfl⟩
  rw [hh, hl, ← hp] at hd
  rw [hl] at hm
  by_cases ha : a < 0
  · by_cases hb : b < 0
    · have hs : 0 ≤ a * b := Int.mul_nonneg_of_nonpos_of_nonpos (by omega) (by omega)
      by_cases hf : -9223372036854775808 ≤ a * b ∧ a * b ≤ 9223372036854775807
      · have e : a * b = (l : Int) := by omega
        rw [(mulRes_fit hf).1, (mulRes_fit hf).2, e]
        exact mul_fit11 a b ba bb ha hb h l hh hl (by omega) (by omega) w
      · rw [(mulRes_over hf).1, (mulRes_over hf).2]
        exact mul_over11 a b ba bb ha hb h l hh hl (by omega) w
    · have hs : a * b ≤ 0 := Int.mul_nonpos_of_nonpos_of_nonneg (by omega) (by omega)
      by_cases hf : -9223372036854775808 ≤ a * b ∧ a * b ≤ 9223372036854775807
      · have e : a * b = -(l : Int) := by omega
        rw [(mulRes_fit hf).1, (mulRes_fit hf).2, e]
        exact mul_fit10 a b ba bb ha (by omega) h l hh hl (by omega) (by omega) w
      · rw [(mulRes_over hf).1, (mulRes_over hf).2]
        exact mul_over10 a b ba bb ha (by omega) h l hh hl (by omega) w
  · by_cases hb : b < 0
    · have hs : a * b ≤ 0 := Int.mul_nonpos_of_nonneg_of_nonpos (by omega) (by omega)
      by_cases hf : -9223372036854775808 ≤ a * b ∧ a * b ≤ 9223372036854775807
      · have e : a * b = -(l : Int) := by omega
        rw [(mulRes_fit hf).1, (mulRes_fit hf).2, e]
        exact mul_fit01 a b ba bb (by omega) hb h l hh hl (by omega) (by omega) w
      · rw [(mulRes_over hf).1, (mulRes_over hf).2]
        exact mul_over01 a b ba bb (by omega) hb h l hh hl (by omega) w
    · have hs : 0 ≤ a * b := Int.mul_nonneg (by omega) (by omega)
      by_cases hf : -9223372036854775808 ≤ a * b ∧ a * b ≤ 9223372036854775807
      · have e : a * b = (l : Int) := by omega
        rw [(mulRes_fit hf).1, (mulRes_fit hf).2, e]
        exact mul_fit00 a b ba bb (by omega) (by omega) h l hh hl (by omega) (by omega) w
      · rw [(mulRes_over hf).1, (mulRes_over hf).2]
        exact mul_over00 a b ba bb (by omega) (by omega) h l hh hl (by omega) w
end Go.Proofs.Ytmcilmmnpolieaa
