/- NumSums answers true at every slice of numbers. No condition. -/
import Derived.Test.YtgdgfcogmfhpcaaNumAwake
import Derived.Test.YtgdgfcogmfhpcaaNumMul
import Derived.Test.YtgdgfcogmfhpcaaNumSum
import Derived.Test.YtgdgfcogmfhpcaaSums0
import Derived.WalkLawsBesides
import Derived.WalkSpells
import Derived.Outline
import Derived.Deep.RegionWith
import Derived.Deep.QuietTactic
import Derived.BigQuiet
import Derived.Deep.CutBlock
import Derived.Deep.DeepCutAuto
namespace Go.Proofs.Ytgdgfcogmfhpcaa.numSums
open Go.ChangeShapes Go.WideShapes Go.ChangeAt Go.RowKit Go.Joins

/-! ### the plain law -/
def posTo (zs : List Int) : Nat → Nat
  | 0 => 0
  | k + 1 => posTo zs k + (if zs.getD k 0 < 0 then 0 else (zs.getD k 0).natAbs)
def negTo (zs : List Int) : Nat → Nat
  | 0 => 0
  | k + 1 => negTo zs k + (if zs.getD k 0 < 0 then (zs.getD k 0).natAbs else 0)
def fitNow (H L : Nat) : Bool := decide (H < L + 9223372036854775808) && !(decide (H + 9223372036854775808 < L))
def overTo (zs : List Int) : Nat → Bool
  | 0 => false
  | k + 1 => overTo zs k || !fitNow (posTo zs (k + 1)) (negTo zs (k + 1))
theorem to_le {zs : List Int} (hf : ∀ j, Fit (zs.getD j 0)) : ∀ k, posTo zs k ≤ 9223372036854775808 * k ∧ negTo zs k ≤ 9223372036854775808 * k
  | 0 => ⟨by simp [posTo], by simp [negTo]⟩
  | k + 1 => by
    have h := to_le hf k
    have h1 := hf k
    unfold posTo negTo
    by_cases h0 : zs.getD k 0 < 0
    · rw [if_pos h0, if_pos h0]; omega
    · rw [if_neg h0, if_neg h0]; omega
theorem posTo_succ (zs : List Int) (k : Nat) : posTo zs (k + 1) = posTo zs k + (if zs.getD k 0 < 0 then 0 else (zs.getD k 0).natAbs) := rfl
theorem negTo_succ (zs : List Int) (k : Nat) : negTo zs (k + 1) = negTo zs k + (if zs.getD k 0 < 0 then (zs.getD k 0).natAbs else 0) := rfl
theorem overTo_succ (zs : List Int) (k : Nat) : overTo zs (k + 1) = (overTo zs k || !fitNow (posTo zs (k + 1)) (negTo zs (k + 1))) := rfl
theorem pos_next {zs : List Int} {k : Nat} : (zs.getD k 0 < 0 → posTo zs (k + 1) = posTo zs k ∧ negTo zs (k + 1) = negTo zs k + (zs.getD k 0).natAbs) ∧ (¬ zs.getD k 0 < 0 → posTo zs (k + 1) = posTo zs k + (zs.getD k 0).natAbs ∧ negTo zs (k + 1) = negTo zs k) := by
  rw [posTo_succ, negTo_succ]
  constructor
  · intro h; rw [if_pos h, if_pos h]; exact ⟨rfl, rfl⟩
  · intro h; rw [if_neg h, if_neg h]; exact ⟨rfl, rfl⟩
theorem over_next {zs : List Int} {k : Nat} {H L : Nat} (h1 : posTo zs (k + 1) = H) (h2 : negTo zs (k + 1) = L) : overTo zs (k + 1) = (overTo zs k || !fitNow H L) := by
  rw [overTo_succ, h1, h2]
theorem fit_now {H L : Nat} : fitNow H L = true ↔ -9223372036854775808 ≤ (H : Int) - L ∧ (H : Int) - L ≤ 9223372036854775807 := by
  unfold fitNow
  simp only [Bool.and_eq_true, Bool.not_eq_true', decide_eq_true_eq, decide_eq_false_iff_not]
  omega
theorem sumGo_cons (t x : Int) (l : List Int) : sumGo t (x :: l) = if -9223372036854775808 ≤ t + x ∧ t + x ≤ 9223372036854775807 then sumGo (t + x) l else none := by
  conv => lhs; unfold sumGo
theorem over_step {zs : List Int} {k : Nat} (hk : k < zs.length) : (if overTo zs k = true then none else sumGo ((posTo zs k : Int) - (negTo zs k : Int)) (zs.drop k)) = if overTo zs (k + 1) = true then none else sumGo ((posTo zs (k + 1) : Int) - (negTo zs (k + 1) : Int)) (zs.drop (k + 1)) := by
  rw [overTo_succ]
  cases ho : overTo zs k with
  | true => rw [Bool.true_or, if_pos rfl, if_pos rfl]
  | false =>
    rw [Bool.false_or, if_neg (by decide), drop_step hk, sumGo_cons]
    have e : ((posTo zs (k + 1) : Nat) : Int) - ((negTo zs (k + 1) : Nat) : Int) = ((posTo zs k : Nat) : Int) - ((negTo zs k : Nat) : Int) + zs.getD k 0 := by
      by_cases h0 : zs.getD k 0 < 0
      · rw [(pos_next.1 h0).1, (pos_next.1 h0).2]; omega
      · rw [(pos_next.2 h0).1, (pos_next.2 h0).2]; omega
    rw [← e]
    generalize posTo zs (k + 1) = H
    generalize negTo zs (k + 1) = L
    have hf := fit_now (H := H) (L := L)
    cases hb : fitNow H L with
    | true => rw [if_pos (hf.1 hb), if_neg (by decide)]
    | false => rw [if_neg (fun h => by rw [hf.2 h] at hb; cases hb), if_pos (by decide)]
theorem over_sum {zs : List Int} (k : Nat) (hk : k ≤ zs.length) : sumGo 0 zs = if overTo zs k = true then none else sumGo ((posTo zs k : Int) - (negTo zs k : Int)) (zs.drop k) := by
  induction k with
  | zero =>
    have e1 : overTo zs 0 = false := rfl
    have e2 : posTo zs 0 = 0 := rfl
    have e3 : negTo zs 0 = 0 := rfl
    rw [e1, e2, e3, if_neg (by decide), List.drop_zero]
    rfl
  | succ k ih => rw [ih (by omega)]; exact over_step (by omega)
theorem sum_is {zs : List Int} : (overTo zs zs.length = true → sumNum zs = 0 ∧ sumErr zs = 11) ∧ (overTo zs zs.length = false → sumErr zs = 0 ∧ sumNum zs = (posTo zs zs.length : Int) - (negTo zs zs.length : Int)) := by
  have h := over_sum (zs := zs) zs.length (Nat.le_refl _)
  constructor
  · intro ho
    rw [if_pos ho] at h
    unfold sumNum sumErr; rw [h]; exact ⟨rfl, rfl⟩
  · intro ho
    rw [if_neg (by rw [ho]; decide), List.drop_length] at h
    unfold sumNum sumErr; rw [h]; exact ⟨rfl, rfl⟩
theorem halves {H L : Nat} {n : Int} (h : n = (H : Int) - (L : Int)) (hn : Fit n) : wrap64 (IntKind.u64.wrap ((H : Int) % 18446744073709551616 - (L : Int) % 18446744073709551616)) = n := by
  rw [IntKind.wrap_u64]; unfold wrap64; omega
/-- a product that fits, or not. -/
theorem mul_whole {a c : Int} (ha : Fit a) (hc : Fit c) {bl : Bool} (hb : (decide (a < 0) != decide (c < 0)) = bl) {N : Nat} (hN : a.natAbs * c.natAbs = N) :
    (wholeIs N bl = true → mulErr a c = 0 ∧ mulNum a c = (if bl = true then -(N : Int) else (N : Int))) ∧ (wholeIs N bl = false → mulNum a c = 0 ∧ mulErr a c = 11) := by
  have e : a * c = if bl = true then -(N : Int) else (N : Int) := by
    have h1 : a = (if a < 0 then -(a.natAbs : Int) else (a.natAbs : Int)) := by split <;> omega
    have h2 : c = (if c < 0 then -(c.natAbs : Int) else (c.natAbs : Int)) := by split <;> omega
    rw [← hb, ← hN, Int.natCast_mul]
    by_cases ha0 : a < 0
    · rw [if_pos ha0] at h1
      by_cases hc0 : c < 0
      · rw [if_pos hc0] at h2
        rw [decide_eq_true ha0, decide_eq_true hc0, if_neg (by decide)]
        conv => lhs; rw [h1, h2]
        rw [Int.neg_mul_neg]
      · rw [if_neg hc0] at h2
        rw [decide_eq_true ha0, decide_eq_false hc0, if_pos (by decide)]
        conv => lhs; rw [h1, h2]
        rw [Int.neg_mul]
    · rw [if_neg ha0] at h1
      by_cases hc0 : c < 0
      · rw [if_pos hc0] at h2
        rw [decide_eq_false ha0, decide_eq_true hc0, if_pos (by decide)]
        conv => lhs; rw [h1, h2]
        rw [Int.mul_neg]
      · rw [if_neg hc0] at h2
        rw [decide_eq_false ha0, decide_eq_false hc0, if_neg (by decide)]
        conv => lhs; rw [h1, h2]
  constructor
  · intro hw
    have hfit : -9223372036854775808 ≤ a * c ∧ a * c ≤ 9223372036854775807 := by
      rw [e]
      unfold wholeIs at hw
      cases bl with
      | true => rw [if_pos rfl]; simp at hw; omega
      | false => rw [if_neg (by decide)]; simp at hw; omega
    have := mulRes_fit hfit
    exact ⟨this.2, by rw [this.1, e]⟩
  · intro hw
    refine mulRes_over (fun hfit => ?_)
    rw [e] at hfit
    unfold wholeIs at hw
    cases bl with
    | true => rw [if_pos rfl] at hfit; simp at hw; omega
    | false => rw [if_neg (by decide)] at hfit; simp at hw; omega

/-! ### the walk -/
/-- what the loop knows at its head. -/
def Rel (zs : List Int) (len : Nat) (w : World) (o h l i : Value) (wr : World) : Prop :=
  ∃ (k : Nat), k ≤ len ∧ i = .int .i64 k ∧ o = .bool (overTo zs k) ∧ IsNum wr h (posTo zs k) ∧ IsNum wr l (negTo zs k) ∧ Below w.heap.size w wr
set_option maxRecDepth 100000 in
set_option maxHeartbeats 8000000 in
theorem long (a : Option Addr) (len cap : Nat) (h : 60 < (len : Int)) (w : World) : Calls Try.prog 4 #[.slice a len cap] w (Yes w) := by
  have d0 : decide (60 < (len : Int)) = true := decide_eq_true h
  clear h
  go_enter Try.func4, Try.ntmps4
  go_wp2_with (go_at_call 12; refine (awake_yes _).mono ?_; rintro e w' ⟨rfl, hb⟩)
  go_ret
  exact ⟨rfl, hb⟩
set_option maxRecDepth 100000 in
set_option maxHeartbeats 8000000 in
theorem inside (b off cap : Nat) (zs : List Int) (h2 : zs.length ≤ 60) (hz : ∀ n ∈ zs, Fit n) (w : World) (hb : b < w.heap.size)
    (hc : ∀ j, j < zs.length → w.cell? ⟨b, off + j, none⟩ = some (.int .i64 (zs.getD j 0))) : Calls Try.prog 4 #[.slice (some ⟨b, off, none⟩) zs.length cap] w (Yes w) := by
  have HC := Lib.hid hc
  have SU := Lib.hid (sum_some b off cap zs w (by omega) hc hz)
  have HF : Hid (∀ j, Fit (zs.getD j 0)) := fit_get hz
  have SI := Lib.hid (sum_is (zs := zs))
  have SF := Lib.hid (sumNum_fit zs)
  obtain ⟨n, hn⟩ : ∃ n, sumNum zs = n := ⟨_, rfl⟩
  obtain ⟨er, her⟩ : ∃ n, sumErr zs = n := ⟨_, rfl⟩
  rw [hn, her] at SU SI
  rw [hn] at SF
  obtain ⟨len, hlen⟩ : ∃ n, zs.length = n := ⟨_, rfl⟩
  have HL := Lib.hid hlen
  rw [hlen] at SU SI h2
  rw [hlen]
  have i0 : (len : Int) ≤ 60 := by omega
  have O0 := Lib.hid (of_zero 0 (by omega))
  have OH := Lib.hid (of_zero 9223372036854775808 (by omega))
  clear hc hlen hn her hz
  go_enter Try.func4, Try.ntmps4
  go_wp2_with fail
  refine (SU.out).mono ?_
  rintro e w' ⟨rfl, rfl⟩
  go_wp2_with fail
  refine (O0.out _).mono ?_
  rintro e wa ⟨va, rfl, na, ba⟩
  go_wp2_with fail
  refine (O0.out _).mono ?_
  rintro e wb ⟨vb, rfl, nb, bb⟩
  have na' := na.below bb
  have bel0 := ba.trans (bb.mono ba.size)
  clear na ba bb
  go_wp2_with fail
  go_loopw [5, 6, 7, 8] (fun o h l i wr => Rel zs len w' o h l i wr) (fun _ _ _ i _ => len - (intOf i).toNat)
  case atStart => exact ⟨0, by omega, rfl, rfl, na', nb, bel0⟩
  case round =>
    obtain ⟨k, hk, rfl, rfl, nh, nl, hbe⟩ := hrel
    have HB := Lib.hid hbe
    have NH := Lib.hid nh
    have NL := Lib.hid nl
    have bd := to_le HF.out k
    have hsb : b < wr.heap.size := Nat.lt_of_lt_of_le hb hbe.size
    by_cases hlt : k < len
    · have hcr : wr.cell? ⟨b, off + k, none⟩ = some (.int .i64 (zs.getD k 0)) := by rw [hbe.cell (p := ⟨b, off + k, none⟩) hb]; exact HC.out k (by rw [HL.out]; exact hlt)
      have hx := HF.out k
      have PN := Lib.hid (pos_next (zs := zs) (k := k))
      have bM : (zs.getD k 0).natAbs ≤ 9223372036854775808 := by omega
      have bH : posTo zs k ≤ 553402322211286548480 := by omega
      have bL : negTo zs k ≤ 553402322211286548480 := by omega
      have hlt' : (k : Int) < (len : Int) := by omega
      clear bd nh nl hbe HC HF SI SU
      generalize zs.getD k 0 = x at *
      have SZ := Lib.hid (refSize_any x hx.1 hx.2)
      obtain ⟨M, hM⟩ : ∃ M, x.natAbs = M := ⟨_, rfl⟩
      rw [hM] at SZ PN bM
      have OX := Lib.hid (of_zero M (by omega))
      obtain ⟨ov, hov⟩ : ∃ o, overTo zs k = o := ⟨_, rfl⟩
      rw [hov]
      have HOV := Lib.hid hov
      clear hM hov hx
      generalize posTo zs k = H at *
      generalize negTo zs k = L at *
      by_cases t0 : x < 0
      · by_cases t1 : H < (L + M) + 9223372036854775808
        · by_cases t2 : H + 9223372036854775808 < L + M
          · obtain ⟨e1, e2⟩ := PN.out.1 t0
            have eo := over_next e1 e2
            rw [HOV.out] at eo
            have HE1 := Lib.hid e1
            have HE2 := Lib.hid e2
            have d0 : decide (x < 0) = true := decide_eq_true t0
            have D1 : Hid (decide (H < (L + M) + 9223372036854775808) = true) := decide_eq_true t1
            have D2 : Hid (decide (H + 9223372036854775808 < (L + M)) = true) := decide_eq_true t2
            have HO : Hid (overTo zs (k + 1) = true) := by show _ = _; rw [eo]; unfold fitNow; rw [decide_eq_true t1, decide_eq_true t2]; simp
            have BM1 := Lib.hid (big_mod (n := (L + M)) (by omega))
            have BM2 := Lib.hid (big_mod (n := (L + M) + 9223372036854775808) (by omega))
            have BM3 := Lib.hid (big_mod (n := H + 9223372036854775808) (by omega))
            clear PN e1 e2 eo t0 t1 t2 bH bL bM
            go_wp2_with fail
            refine (SZ.out _).mono ?_
            rintro e w' ⟨rfl, rfl⟩
            go_wp2_with fail
            refine (OX.out _).mono ?_
            rintro e w1 ⟨v1, rfl, n1, b1⟩
            have c1 := (b1.cell (p := ⟨b, off + k, none⟩) hsb).trans hcr
            have NH1 := Lib.hid (NH.out.below b1)
            have NL1 := Lib.hid (NL.out.below b1)
            have N1 := Lib.hid n1
            have B1 := Lib.hid (bel_end HB.out b1)
            clear n1 b1 hcr
            go_wp2_with fail
            refine (plus_any u7 v1 L M _ NL1.out N1.out).mono ?_
            rw [BM1.out]
            rintro e w2 ⟨v2, rfl, n2, b2⟩
            have NH2 := Lib.hid (NH1.out.below b2)
            have NL2 := Lib.hid n2
            have B2 := Lib.hid (bel_end B1.out b2)
            clear n2 b2 NH1 NL1 N1 B1 c1
            go_wp2_with fail
            refine (OH.out _).mono ?_
            rintro e w3 ⟨v3, rfl, n3, b3⟩
            have NH3 := Lib.hid (NH2.out.below b3)
            have NL3 := Lib.hid (NL2.out.below b3)
            have N3 := Lib.hid n3
            have B3 := Lib.hid (bel_end B2.out b3)
            clear n3 b3 NH2 NL2 B2
            go_wp2_with fail
            refine (plus_any v2 v3 (L + M) 9223372036854775808 _ NL3.out N3.out).mono ?_
            rw [BM2.out]
            rintro e w4 ⟨v4, rfl, n4, b4⟩
            have NH4 := Lib.hid (NH3.out.below b4)
            have NL4 := Lib.hid (NL3.out.below b4)
            have NF4 := Lib.hid (N3.out.below b4)
            have N4 := Lib.hid n4
            have B4 := Lib.hid (bel_end B3.out b4)
            clear n4 b4 NH3 NL3 N3 B3
            go_wp2_with fail
            refine (under_any u6 v4 H ((L + M) + 9223372036854775808) _ NH4.out N4.out).mono ?_
            rw [D1.out]
            rintro e w5 ⟨rfl, k5, rfl⟩
            have NH5 := Lib.hid (NH4.out.below (below_drewN k5))
            have NL5 := Lib.hid (NL4.out.below (below_drewN k5))
            have NF5 := Lib.hid (NF4.out.below (below_drewN k5))
            have B5 := Lib.hid (bel_end B4.out (below_drewN k5))
            clear NH4 NL4 NF4 N4 B4
            go_wp2_with fail
            refine (plus_any u6 v3 H 9223372036854775808 _ NH5.out NF5.out).mono ?_
            rw [BM3.out]
            rintro e w6 ⟨v6, rfl, n6, b6⟩
            have NH55 := Lib.hid (NH5.out.below b6)
            have NL55 := Lib.hid (NL5.out.below b6)
            have N6 := Lib.hid n6
            have B55 := Lib.hid (bel_end B5.out b6)
            clear n6 b6 NH5 NL5 NF5 B5
            go_wp2_with fail
            refine (under_any v6 v2 (H + 9223372036854775808) (L + M) _ N6.out NL55.out).mono ?_
            rw [D2.out]
            rintro e w7 ⟨rfl, k7, rfl⟩
            have NH6 := Lib.hid (NH55.out.below (below_drewN k7))
            have NL6 := Lib.hid (NL55.out.below (below_drewN k7))
            have B6 := Lib.hid (bel_end B55.out (below_drewN k7))
            clear NH55 NL55 N6 B55
            go_wp2
            exact ⟨⟨k + 1, by omega, by go_num, by rw [HO.out], by rw [HE1.out]; exact NH6.out, by rw [HE2.out]; exact NL6.out, B6.out⟩, by simp [intOf]; omega⟩
          · obtain ⟨e1, e2⟩ := PN.out.1 t0
            have eo := over_next e1 e2
            rw [HOV.out] at eo
            have HE1 := Lib.hid e1
            have HE2 := Lib.hid e2
            have d0 : decide (x < 0) = true := decide_eq_true t0
            have D1 : Hid (decide (H < (L + M) + 9223372036854775808) = true) := decide_eq_true t1
            have D2 : Hid (decide (H + 9223372036854775808 < (L + M)) = false) := decide_eq_false t2
            have HO : Hid (overTo zs (k + 1) = ov) := by show _ = _; rw [eo]; unfold fitNow; rw [decide_eq_true t1, decide_eq_false t2]; simp
            have BM1 := Lib.hid (big_mod (n := (L + M)) (by omega))
            have BM2 := Lib.hid (big_mod (n := (L + M) + 9223372036854775808) (by omega))
            have BM3 := Lib.hid (big_mod (n := H + 9223372036854775808) (by omega))
            clear PN e1 e2 eo t0 t1 t2 bH bL bM
            go_wp2_with fail
            refine (SZ.out _).mono ?_
            rintro e w' ⟨rfl, rfl⟩
            go_wp2_with fail
            refine (OX.out _).mono ?_
            rintro e w1 ⟨v1, rfl, n1, b1⟩
            have c1 := (b1.cell (p := ⟨b, off + k, none⟩) hsb).trans hcr
            have NH1 := Lib.hid (NH.out.below b1)
            have NL1 := Lib.hid (NL.out.below b1)
            have N1 := Lib.hid n1
            have B1 := Lib.hid (bel_end HB.out b1)
            clear n1 b1 hcr
            go_wp2_with fail
            refine (plus_any u7 v1 L M _ NL1.out N1.out).mono ?_
            rw [BM1.out]
            rintro e w2 ⟨v2, rfl, n2, b2⟩
            have NH2 := Lib.hid (NH1.out.below b2)
            have NL2 := Lib.hid n2
            have B2 := Lib.hid (bel_end B1.out b2)
            clear n2 b2 NH1 NL1 N1 B1 c1
            go_wp2_with fail
            refine (OH.out _).mono ?_
            rintro e w3 ⟨v3, rfl, n3, b3⟩
            have NH3 := Lib.hid (NH2.out.below b3)
            have NL3 := Lib.hid (NL2.out.below b3)
            have N3 := Lib.hid n3
            have B3 := Lib.hid (bel_end B2.out b3)
            clear n3 b3 NH2 NL2 B2
            go_wp2_with fail
            refine (plus_any v2 v3 (L + M) 9223372036854775808 _ NL3.out N3.out).mono ?_
            rw [BM2.out]
            rintro e w4 ⟨v4, rfl, n4, b4⟩
            have NH4 := Lib.hid (NH3.out.below b4)
            have NL4 := Lib.hid (NL3.out.below b4)
            have NF4 := Lib.hid (N3.out.below b4)
            have N4 := Lib.hid n4
            have B4 := Lib.hid (bel_end B3.out b4)
            clear n4 b4 NH3 NL3 N3 B3
            go_wp2_with fail
            refine (under_any u6 v4 H ((L + M) + 9223372036854775808) _ NH4.out N4.out).mono ?_
            rw [D1.out]
            rintro e w5 ⟨rfl, k5, rfl⟩
            have NH5 := Lib.hid (NH4.out.below (below_drewN k5))
            have NL5 := Lib.hid (NL4.out.below (below_drewN k5))
            have NF5 := Lib.hid (NF4.out.below (below_drewN k5))
            have B5 := Lib.hid (bel_end B4.out (below_drewN k5))
            clear NH4 NL4 NF4 N4 B4
            go_wp2_with fail
            refine (plus_any u6 v3 H 9223372036854775808 _ NH5.out NF5.out).mono ?_
            rw [BM3.out]
            rintro e w6 ⟨v6, rfl, n6, b6⟩
            have NH55 := Lib.hid (NH5.out.below b6)
            have NL55 := Lib.hid (NL5.out.below b6)
            have N6 := Lib.hid n6
            have B55 := Lib.hid (bel_end B5.out b6)
            clear n6 b6 NH5 NL5 NF5 B5
            go_wp2_with fail
            refine (under_any v6 v2 (H + 9223372036854775808) (L + M) _ N6.out NL55.out).mono ?_
            rw [D2.out]
            rintro e w7 ⟨rfl, k7, rfl⟩
            have NH6 := Lib.hid (NH55.out.below (below_drewN k7))
            have NL6 := Lib.hid (NL55.out.below (below_drewN k7))
            have B6 := Lib.hid (bel_end B55.out (below_drewN k7))
            clear NH55 NL55 N6 B55
            go_wp2
            exact ⟨⟨k + 1, by omega, by go_num, by rw [HO.out], by rw [HE1.out]; exact NH6.out, by rw [HE2.out]; exact NL6.out, B6.out⟩, by simp [intOf]; omega⟩
        · obtain ⟨e1, e2⟩ := PN.out.1 t0
          have eo := over_next e1 e2
          rw [HOV.out] at eo
          have HE1 := Lib.hid e1
          have HE2 := Lib.hid e2
          have d0 : decide (x < 0) = true := decide_eq_true t0
          have D1 : Hid (decide (H < (L + M) + 9223372036854775808) = false) := decide_eq_false t1
          have HO : Hid (overTo zs (k + 1) = true) := by show _ = _; rw [eo]; unfold fitNow; rw [decide_eq_false t1]; simp
          have BM1 := Lib.hid (big_mod (n := (L + M)) (by omega))
          have BM2 := Lib.hid (big_mod (n := (L + M) + 9223372036854775808) (by omega))
          have BM3 := Lib.hid (big_mod (n := H + 9223372036854775808) (by omega))
          clear PN e1 e2 eo t0 t1 bH bL bM
          go_wp2_with fail
          refine (SZ.out _).mono ?_
          rintro e w' ⟨rfl, rfl⟩
          go_wp2_with fail
          refine (OX.out _).mono ?_
          rintro e w1 ⟨v1, rfl, n1, b1⟩
          have c1 := (b1.cell (p := ⟨b, off + k, none⟩) hsb).trans hcr
          have NH1 := Lib.hid (NH.out.below b1)
          have NL1 := Lib.hid (NL.out.below b1)
          have N1 := Lib.hid n1
          have B1 := Lib.hid (bel_end HB.out b1)
          clear n1 b1 hcr
          go_wp2_with fail
          refine (plus_any u7 v1 L M _ NL1.out N1.out).mono ?_
          rw [BM1.out]
          rintro e w2 ⟨v2, rfl, n2, b2⟩
          have NH2 := Lib.hid (NH1.out.below b2)
          have NL2 := Lib.hid n2
          have B2 := Lib.hid (bel_end B1.out b2)
          clear n2 b2 NH1 NL1 N1 B1 c1
          go_wp2_with fail
          refine (OH.out _).mono ?_
          rintro e w3 ⟨v3, rfl, n3, b3⟩
          have NH3 := Lib.hid (NH2.out.below b3)
          have NL3 := Lib.hid (NL2.out.below b3)
          have N3 := Lib.hid n3
          have B3 := Lib.hid (bel_end B2.out b3)
          clear n3 b3 NH2 NL2 B2
          go_wp2_with fail
          refine (plus_any v2 v3 (L + M) 9223372036854775808 _ NL3.out N3.out).mono ?_
          rw [BM2.out]
          rintro e w4 ⟨v4, rfl, n4, b4⟩
          have NH4 := Lib.hid (NH3.out.below b4)
          have NL4 := Lib.hid (NL3.out.below b4)
          have NF4 := Lib.hid (N3.out.below b4)
          have N4 := Lib.hid n4
          have B4 := Lib.hid (bel_end B3.out b4)
          clear n4 b4 NH3 NL3 N3 B3
          go_wp2_with fail
          refine (under_any u6 v4 H ((L + M) + 9223372036854775808) _ NH4.out N4.out).mono ?_
          rw [D1.out]
          rintro e w5 ⟨rfl, k5, rfl⟩
          have NH6 := Lib.hid (NH4.out.below (below_drewN k5))
          have NL6 := Lib.hid (NL4.out.below (below_drewN k5))
          have B6 := Lib.hid (bel_end B4.out (below_drewN k5))
          clear NH4 NL4 NF4 N4 B4
          go_wp2
          exact ⟨⟨k + 1, by omega, by go_num, by rw [HO.out], by rw [HE1.out]; exact NH6.out, by rw [HE2.out]; exact NL6.out, B6.out⟩, by simp [intOf]; omega⟩
      · by_cases t1 : H + M < L + 9223372036854775808
        · by_cases t2 : H + M + 9223372036854775808 < L
          · obtain ⟨e1, e2⟩ := PN.out.2 t0
            have eo := over_next e1 e2
            rw [HOV.out] at eo
            have HE1 := Lib.hid e1
            have HE2 := Lib.hid e2
            have d0 : decide (x < 0) = false := decide_eq_false t0
            have D1 : Hid (decide ((H + M) < L + 9223372036854775808) = true) := decide_eq_true t1
            have D2 : Hid (decide ((H + M) + 9223372036854775808 < L) = true) := decide_eq_true t2
            have HO : Hid (overTo zs (k + 1) = true) := by show _ = _; rw [eo]; unfold fitNow; rw [decide_eq_true t1, decide_eq_true t2]; simp
            have BM1 := Lib.hid (big_mod (n := (H + M)) (by omega))
            have BM2 := Lib.hid (big_mod (n := L + 9223372036854775808) (by omega))
            have BM3 := Lib.hid (big_mod (n := (H + M) + 9223372036854775808) (by omega))
            clear PN e1 e2 eo t0 t1 t2 bH bL bM
            go_wp2_with fail
            refine (SZ.out _).mono ?_
            rintro e w' ⟨rfl, rfl⟩
            go_wp2_with fail
            refine (OX.out _).mono ?_
            rintro e w1 ⟨v1, rfl, n1, b1⟩
            have c1 := (b1.cell (p := ⟨b, off + k, none⟩) hsb).trans hcr
            have NH1 := Lib.hid (NH.out.below b1)
            have NL1 := Lib.hid (NL.out.below b1)
            have N1 := Lib.hid n1
            have B1 := Lib.hid (bel_end HB.out b1)
            clear n1 b1 hcr
            go_wp2_with fail
            refine (plus_any u6 v1 H M _ NH1.out N1.out).mono ?_
            rw [BM1.out]
            rintro e w2 ⟨v2, rfl, n2, b2⟩
            have NH2 := Lib.hid n2
            have NL2 := Lib.hid (NL1.out.below b2)
            have B2 := Lib.hid (bel_end B1.out b2)
            clear n2 b2 NH1 NL1 N1 B1 c1
            go_wp2_with fail
            refine (OH.out _).mono ?_
            rintro e w3 ⟨v3, rfl, n3, b3⟩
            have NH3 := Lib.hid (NH2.out.below b3)
            have NL3 := Lib.hid (NL2.out.below b3)
            have N3 := Lib.hid n3
            have B3 := Lib.hid (bel_end B2.out b3)
            clear n3 b3 NH2 NL2 B2
            go_wp2_with fail
            refine (plus_any u7 v3 L 9223372036854775808 _ NL3.out N3.out).mono ?_
            rw [BM2.out]
            rintro e w4 ⟨v4, rfl, n4, b4⟩
            have NH4 := Lib.hid (NH3.out.below b4)
            have NL4 := Lib.hid (NL3.out.below b4)
            have NF4 := Lib.hid (N3.out.below b4)
            have N4 := Lib.hid n4
            have B4 := Lib.hid (bel_end B3.out b4)
            clear n4 b4 NH3 NL3 N3 B3
            go_wp2_with fail
            refine (under_any v2 v4 (H + M) (L + 9223372036854775808) _ NH4.out N4.out).mono ?_
            rw [D1.out]
            rintro e w5 ⟨rfl, k5, rfl⟩
            have NH5 := Lib.hid (NH4.out.below (below_drewN k5))
            have NL5 := Lib.hid (NL4.out.below (below_drewN k5))
            have NF5 := Lib.hid (NF4.out.below (below_drewN k5))
            have B5 := Lib.hid (bel_end B4.out (below_drewN k5))
            clear NH4 NL4 NF4 N4 B4
            go_wp2_with fail
            refine (plus_any v2 v3 (H + M) 9223372036854775808 _ NH5.out NF5.out).mono ?_
            rw [BM3.out]
            rintro e w6 ⟨v6, rfl, n6, b6⟩
            have NH55 := Lib.hid (NH5.out.below b6)
            have NL55 := Lib.hid (NL5.out.below b6)
            have N6 := Lib.hid n6
            have B55 := Lib.hid (bel_end B5.out b6)
            clear n6 b6 NH5 NL5 NF5 B5
            go_wp2_with fail
            refine (under_any v6 u7 ((H + M) + 9223372036854775808) L _ N6.out NL55.out).mono ?_
            rw [D2.out]
            rintro e w7 ⟨rfl, k7, rfl⟩
            have NH6 := Lib.hid (NH55.out.below (below_drewN k7))
            have NL6 := Lib.hid (NL55.out.below (below_drewN k7))
            have B6 := Lib.hid (bel_end B55.out (below_drewN k7))
            clear NH55 NL55 N6 B55
            go_wp2
            exact ⟨⟨k + 1, by omega, by go_num, by rw [HO.out], by rw [HE1.out]; exact NH6.out, by rw [HE2.out]; exact NL6.out, B6.out⟩, by simp [intOf]; omega⟩
          · obtain ⟨e1, e2⟩ := PN.out.2 t0
            have eo := over_next e1 e2
            rw [HOV.out] at eo
            have HE1 := Lib.hid e1
            have HE2 := Lib.hid e2
            have d0 : decide (x < 0) = false := decide_eq_false t0
            have D1 : Hid (decide ((H + M) < L + 9223372036854775808) = true) := decide_eq_true t1
            have D2 : Hid (decide ((H + M) + 9223372036854775808 < L) = false) := decide_eq_false t2
            have HO : Hid (overTo zs (k + 1) = ov) := by show _ = _; rw [eo]; unfold fitNow; rw [decide_eq_true t1, decide_eq_false t2]; simp
            have BM1 := Lib.hid (big_mod (n := (H + M)) (by omega))
            have BM2 := Lib.hid (big_mod (n := L + 9223372036854775808) (by omega))
            have BM3 := Lib.hid (big_mod (n := (H + M) + 9223372036854775808) (by omega))
            clear PN e1 e2 eo t0 t1 t2 bH bL bM
            go_wp2_with fail
            refine (SZ.out _).mono ?_
            rintro e w' ⟨rfl, rfl⟩
            go_wp2_with fail
            refine (OX.out _).mono ?_
            rintro e w1 ⟨v1, rfl, n1, b1⟩
            have c1 := (b1.cell (p := ⟨b, off + k, none⟩) hsb).trans hcr
            have NH1 := Lib.hid (NH.out.below b1)
            have NL1 := Lib.hid (NL.out.below b1)
            have N1 := Lib.hid n1
            have B1 := Lib.hid (bel_end HB.out b1)
            clear n1 b1 hcr
            go_wp2_with fail
            refine (plus_any u6 v1 H M _ NH1.out N1.out).mono ?_
            rw [BM1.out]
            rintro e w2 ⟨v2, rfl, n2, b2⟩
            have NH2 := Lib.hid n2
            have NL2 := Lib.hid (NL1.out.below b2)
            have B2 := Lib.hid (bel_end B1.out b2)
            clear n2 b2 NH1 NL1 N1 B1 c1
            go_wp2_with fail
            refine (OH.out _).mono ?_
            rintro e w3 ⟨v3, rfl, n3, b3⟩
            have NH3 := Lib.hid (NH2.out.below b3)
            have NL3 := Lib.hid (NL2.out.below b3)
            have N3 := Lib.hid n3
            have B3 := Lib.hid (bel_end B2.out b3)
            clear n3 b3 NH2 NL2 B2
            go_wp2_with fail
            refine (plus_any u7 v3 L 9223372036854775808 _ NL3.out N3.out).mono ?_
            rw [BM2.out]
            rintro e w4 ⟨v4, rfl, n4, b4⟩
            have NH4 := Lib.hid (NH3.out.below b4)
            have NL4 := Lib.hid (NL3.out.below b4)
            have NF4 := Lib.hid (N3.out.below b4)
            have N4 := Lib.hid n4
            have B4 := Lib.hid (bel_end B3.out b4)
            clear n4 b4 NH3 NL3 N3 B3
            go_wp2_with fail
            refine (under_any v2 v4 (H + M) (L + 9223372036854775808) _ NH4.out N4.out).mono ?_
            rw [D1.out]
            rintro e w5 ⟨rfl, k5, rfl⟩
            have NH5 := Lib.hid (NH4.out.below (below_drewN k5))
            have NL5 := Lib.hid (NL4.out.below (below_drewN k5))
            have NF5 := Lib.hid (NF4.out.below (below_drewN k5))
            have B5 := Lib.hid (bel_end B4.out (below_drewN k5))
            clear NH4 NL4 NF4 N4 B4
            go_wp2_with fail
            refine (plus_any v2 v3 (H + M) 9223372036854775808 _ NH5.out NF5.out).mono ?_
            rw [BM3.out]
            rintro e w6 ⟨v6, rfl, n6, b6⟩
            have NH55 := Lib.hid (NH5.out.below b6)
            have NL55 := Lib.hid (NL5.out.below b6)
            have N6 := Lib.hid n6
            have B55 := Lib.hid (bel_end B5.out b6)
            clear n6 b6 NH5 NL5 NF5 B5
            go_wp2_with fail
            refine (under_any v6 u7 ((H + M) + 9223372036854775808) L _ N6.out NL55.out).mono ?_
            rw [D2.out]
            rintro e w7 ⟨rfl, k7, rfl⟩
            have NH6 := Lib.hid (NH55.out.below (below_drewN k7))
            have NL6 := Lib.hid (NL55.out.below (below_drewN k7))
            have B6 := Lib.hid (bel_end B55.out (below_drewN k7))
            clear NH55 NL55 N6 B55
            go_wp2
            exact ⟨⟨k + 1, by omega, by go_num, by rw [HO.out], by rw [HE1.out]; exact NH6.out, by rw [HE2.out]; exact NL6.out, B6.out⟩, by simp [intOf]; omega⟩
        · obtain ⟨e1, e2⟩ := PN.out.2 t0
          have eo := over_next e1 e2
          rw [HOV.out] at eo
          have HE1 := Lib.hid e1
          have HE2 := Lib.hid e2
          have d0 : decide (x < 0) = false := decide_eq_false t0
          have D1 : Hid (decide ((H + M) < L + 9223372036854775808) = false) := decide_eq_false t1
          have HO : Hid (overTo zs (k + 1) = true) := by show _ = _; rw [eo]; unfold fitNow; rw [decide_eq_false t1]; simp
          have BM1 := Lib.hid (big_mod (n := (H + M)) (by omega))
          have BM2 := Lib.hid (big_mod (n := L + 9223372036854775808) (by omega))
          have BM3 := Lib.hid (big_mod (n := (H + M) + 9223372036854775808) (by omega))
          clear PN e1 e2 eo t0 t1 bH bL bM
          go_wp2_with fail
          refine (SZ.out _).mono ?_
          rintro e w' ⟨rfl, rfl⟩
          go_wp2_with fail
          refine (OX.out _).mono ?_
          rintro e w1 ⟨v1, rfl, n1, b1⟩
          have c1 := (b1.cell (p := ⟨b, off + k, none⟩) hsb).trans hcr
          have NH1 := Lib.hid (NH.out.below b1)
          have NL1 := Lib.hid (NL.out.below b1)
          have N1 := Lib.hid n1
          have B1 := Lib.hid (bel_end HB.out b1)
          clear n1 b1 hcr
          go_wp2_with fail
          refine (plus_any u6 v1 H M _ NH1.out N1.out).mono ?_
          rw [BM1.out]
          rintro e w2 ⟨v2, rfl, n2, b2⟩
          have NH2 := Lib.hid n2
          have NL2 := Lib.hid (NL1.out.below b2)
          have B2 := Lib.hid (bel_end B1.out b2)
          clear n2 b2 NH1 NL1 N1 B1 c1
          go_wp2_with fail
          refine (OH.out _).mono ?_
          rintro e w3 ⟨v3, rfl, n3, b3⟩
          have NH3 := Lib.hid (NH2.out.below b3)
          have NL3 := Lib.hid (NL2.out.below b3)
          have N3 := Lib.hid n3
          have B3 := Lib.hid (bel_end B2.out b3)
          clear n3 b3 NH2 NL2 B2
          go_wp2_with fail
          refine (plus_any u7 v3 L 9223372036854775808 _ NL3.out N3.out).mono ?_
          rw [BM2.out]
          rintro e w4 ⟨v4, rfl, n4, b4⟩
          have NH4 := Lib.hid (NH3.out.below b4)
          have NL4 := Lib.hid (NL3.out.below b4)
          have NF4 := Lib.hid (N3.out.below b4)
          have N4 := Lib.hid n4
          have B4 := Lib.hid (bel_end B3.out b4)
          clear n4 b4 NH3 NL3 N3 B3
          go_wp2_with fail
          refine (under_any v2 v4 (H + M) (L + 9223372036854775808) _ NH4.out N4.out).mono ?_
          rw [D1.out]
          rintro e w5 ⟨rfl, k5, rfl⟩
          have NH6 := Lib.hid (NH4.out.below (below_drewN k5))
          have NL6 := Lib.hid (NL4.out.below (below_drewN k5))
          have B6 := Lib.hid (bel_end B4.out (below_drewN k5))
          clear NH4 NL4 NF4 N4 B4
          go_wp2
          exact ⟨⟨k + 1, by omega, by go_num, by rw [HO.out], by rw [HE1.out]; exact NH6.out, by rw [HE2.out]; exact NL6.out, B6.out⟩, by simp [intOf]; omega⟩
    · obtain rfl : k = len := by omega
      have bH : posTo zs k ≤ 553402322211286548480 := by omega
      have bL : negTo zs k ≤ 553402322211286548480 := by omega
      have CA : Hid (0 < k → wr.cell? ⟨b, off, none⟩ = some (.int .i64 (zs.getD 0 0))) := fun h => by rw [hbe.cell (p := ⟨b, off, none⟩) hb]; exact HC.out 0 (by rw [HL.out]; omega)
      have CB : Hid (1 < k → wr.cell? ⟨b, off + 1, none⟩ = some (.int .i64 (zs.getD 1 0))) := fun h => by rw [hbe.cell (p := ⟨b, off + 1, none⟩) hb]; exact HC.out 1 (by rw [HL.out]; omega)
      have fa := HF.out 0
      have fc := HF.out 1
      clear nh nl hbe HC HF HL hb bd
      generalize zs.getD 0 0 = a at *
      generalize zs.getD 1 0 = c at *
      obtain ⟨ov, hov⟩ : ∃ o, overTo zs k = o := ⟨_, rfl⟩
      rw [hov] at SI ⊢
      have SF2 := SF.out
      have SI2 := SI.out
      clear hov SI SF SU
      generalize posTo zs k = H at *
      generalize negTo zs k = L at *
      cases ov with
      | true =>
        obtain ⟨e1, e2⟩ := SI2.1 rfl
        subst e1 e2
        clear SI2 SF2 bH bL NH NL
        by_cases hs : (k : Int) < 2
        · have d0 : decide ((k : Int) < 2) = true := decide_eq_true hs
          clear hs CA CB
          go_wp2_with (go_at_call 12; refine (awake_yes _).mono ?_; rintro e w' ⟨rfl, hb⟩)
          go_ret
          exact ⟨rfl, bel_end HB.out hb⟩
        · have d0 : decide ((k : Int) < 2) = false := decide_eq_false hs
          have c0 := CA.out (by omega)
          have c1 := CB.out (by omega)
          have j0 : (0 : Int) < (k : Int) := by omega
          have j1 : (1 : Int) < (k : Int) := by omega
          clear hs CA CB
          obtain ⟨mn, hmn⟩ : ∃ z, mulNum a c = z := ⟨_, rfl⟩
          obtain ⟨me, hme⟩ : ∃ z, mulErr a c = z := ⟨_, rfl⟩
          obtain ⟨bl, hbl⟩ : ∃ z, (decide (a < 0) != decide (c < 0)) = z := ⟨_, rfl⟩
          obtain ⟨N, hN⟩ : ∃ z, a.natAbs * c.natAbs = z := ⟨_, rfl⟩
          have MW := Lib.hid (mul_whole fa fc hbl hN)
          have MU := Lib.hid (mul_any a c fa fc)
          rw [hmn, hme] at MU MW
          have SA := Lib.hid (refSize_any a fa.1 fa.2)
          have SC := Lib.hid (refSize_any c fc.1 fc.2)
          have TI := Lib.hid (times_any a.natAbs c.natAbs (by omega) (by omega))
          rw [hN] at TI
          have HN2 : Hid (N ≤ 85070591730234615865843651857942052864) := by show _ ≤ _; rw [← hN]; exact Nat.mul_le_mul (show a.natAbs ≤ 9223372036854775808 by omega) (show c.natAbs ≤ 9223372036854775808 by omega)
          generalize a.natAbs = sa at *
          generalize c.natAbs = sc at *
          have hbl2 : (decide (c < 0) != decide (a < 0)) = bl := by rw [← hbl]; cases decide (a < 0) <;> cases decide (c < 0) <;> rfl
          clear hmn hme hN fa fc
          go_upto_region 24 with fail
          go_cut [11, 12] from 86 to 95 (fun s11 s12 wx => s11 = .int .i64 mn ∧ s12 = .int .i64 me ∧ wx = wr.drew)
          case first =>
            go_region_with (go_at_call 20; refine (MU.out _).mono ?_; rintro e w2 ⟨rfl, rfl⟩)
            all_goals (go_wp2_with fail; go_meet; exact ⟨rfl, rfl, rfl⟩)
          case rest =>
          obtain ⟨rfl, rfl, rfl⟩ := hcut
          clear MU
          go_upto_region 25 with fail
          go_cut [13] from 96 to 104 (fun s13 wx => IsNum wx s13 N ∧ Below wr.heap.size wr wx)
          case first =>
            go_region_with (first
              | (go_at_call 18; with_reducible refine (SA.out _).mono ?_; rintro e w2 ⟨rfl, rfl⟩)
              | (go_at_call 18; with_reducible refine (SC.out _).mono ?_; rintro e w2 ⟨rfl, rfl⟩)
              | (go_at_call 13; refine (TI.out _).mono ?_; rintro e w3 ⟨v3, rfl, n3, b3⟩))
            all_goals (go_wp2_with fail; go_meet; refine ⟨n3, bel_end ?_ b3⟩; repeat (first | with_reducible exact Below.refl _ _ | with_reducible refine bel_drew ?_))
          case rest =>
          obtain ⟨n13, b13⟩ := hcut
          have c0' := (b13.cell (p := ⟨b, off, none⟩) hsb).trans c0
          have c1' := (b13.cell (p := ⟨b, off + 1, none⟩) hsb).trans c1
          have HB2 := Lib.hid (bel_end HB.out b13)
          have N13 := Lib.hid n13
          clear SA SC TI n13 b13 c0 c1
          go_upto_region 26 with fail
          go_cut [14] from 105 to 113 (fun s14 wx => s14 = .bool bl ∧ wx = wc.drew)
          case first =>
            go_region
            all_goals (go_wp2_with fail; go_meet; exact ⟨by first | rfl | (rw [hbl]; done) | (rw [← hbl]; simp; cases decide (a < 0) <;> cases decide (c < 0) <;> rfl), rfl⟩)
          case rest =>
          obtain ⟨rfl, rfl⟩ := hcut
          have N14 := Lib.hid (N13.out.below (bel_drew (Below.refl _ _)))
          have N15 := Lib.hid (fun n => N13.out.below (below_drewN n))
          clear N13 c0' c1' hbl hbl2
          cases hw : wholeIs N bl with
          | false =>
            obtain ⟨f1, f2⟩ := MW.out.2 hw
            subst f1 f2
            clear MW HN2
            go_wp2_with fail
            refine (whole_any _ N bl _ N14.out).mono ?_
            rw [hw]
            rintro e w5 ⟨rfl, k5, rfl⟩
            clear hw
            go_wp2_with (go_at_call 12; refine (awake_yes _).mono ?_; rintro e w' ⟨rfl, hb⟩)
            go_ret
            exact ⟨rfl, bel_end (bel_end HB2.out (below_drewN _)) hb⟩
          | true =>
            obtain ⟨f1, f2⟩ := MW.out.1 hw
            subst f1
            by_cases hz : N = 0
            · subst hz
              have f3 : mn = 0 := by rw [f2]; cases bl <;> rfl
              subst f3
              clear MW HN2 f2
              go_wp2_with fail
              refine (whole_any _ 0 bl _ N14.out).mono ?_
              rw [hw]
              rintro e w5 ⟨rfl, k5, rfl⟩
              clear hw
              go_wp2_with fail
              refine (half_any _ 0 _ (N15.out _)).mono ?_
              rw [show ((0 % 18446744073709551616 : Nat) : Int) = 0 from rfl]
              rintro e w6 ⟨rfl, rfl⟩
              go_wp2_with (go_at_call 12; refine (awake_yes _).mono ?_; rintro e w' ⟨rfl, hb⟩)
              go_ret
              exact ⟨rfl, bel_end (bel_end HB2.out (below_drewN _)) hb⟩
            · have z0 : ((N : Int) == 0) = false := by simp; omega
              cases bl with
              | true =>
                have nle : N ≤ 9223372036854775808 := by unfold wholeIs at hw; simp at hw; omega
                have hm : N % 18446744073709551616 = N := Nat.mod_eq_of_lt (by omega)
                have MI := Lib.hid (minus_neg N (by omega) nle)
                rw [if_pos rfl] at f2
                rw [← f2] at MI
                have g0 : (mn == mn) = true := by simp
                clear MW HN2 f2 nle hz
                go_wp2_with fail
                refine (whole_any _ N true _ N14.out).mono ?_
                rw [hw]
                rintro e w5 ⟨rfl, k5, rfl⟩
                clear hw
                go_wp2_with fail
                refine (half_any _ N _ (N15.out _)).mono ?_
                rw [hm]
                rintro e w6 ⟨rfl, rfl⟩
                go_wp2_with fail
                refine (half_any _ N _ (N15.out _)).mono ?_
                rw [hm]
                rintro e w6 ⟨rfl, rfl⟩
                go_wp2_with fail
                refine (MI.out _).mono ?_
                rintro e w6 ⟨rfl, rfl⟩
                go_wp2_with (go_at_call 12; refine (awake_yes _).mono ?_; rintro e w' ⟨rfl, hb⟩)
                go_ret
                exact ⟨rfl, bel_end (bel_end HB2.out (below_drewN _)) hb⟩
              | false =>
                have nle : N ≤ 9223372036854775807 := by unfold wholeIs at hw; simp at hw; omega
                have hm : N % 18446744073709551616 = N := Nat.mod_eq_of_lt (by omega)
                have MI := Lib.hid (minus_pos N nle)
                rw [if_neg (by decide)] at f2
                subst f2
                have g0 : ((N : Int) == (N : Int)) = true := by simp
                clear MW HN2 nle hz
                go_wp2_with fail
                refine (whole_any _ N false _ N14.out).mono ?_
                rw [hw]
                rintro e w5 ⟨rfl, k5, rfl⟩
                clear hw
                go_wp2_with fail
                refine (half_any _ N _ (N15.out _)).mono ?_
                rw [hm]
                rintro e w6 ⟨rfl, rfl⟩
                go_wp2_with fail
                refine (half_any _ N _ (N15.out _)).mono ?_
                rw [hm]
                rintro e w6 ⟨rfl, rfl⟩
                go_wp2_with fail
                refine (MI.out _).mono ?_
                rintro e w6 ⟨rfl, rfl⟩
                go_wp2_with (go_at_call 12; refine (awake_yes _).mono ?_; rintro e w' ⟨rfl, hb⟩)
                go_ret
                exact ⟨rfl, bel_end (bel_end HB2.out (below_drewN _)) hb⟩
      | false =>
        obtain ⟨e1, e2⟩ := SI2.2 rfl
        have E := halves (H := H) (L := L) e2 SF2
        have rn : (n != n) = false := by simp
        subst e1
        clear SI2 SF2 bH bL e2
        by_cases hs : (k : Int) < 2
        · have d0 : decide ((k : Int) < 2) = true := decide_eq_true hs
          clear hs CA CB
          go_wp2_with fail
          refine (half_any u6 H _ NH.out).mono ?_
          rintro e w2 ⟨rfl, rfl⟩
          go_wp2_with fail
          refine (half_any u7 L _ NL.out).mono ?_
          rintro e w2 ⟨rfl, rfl⟩
          go_wp2_with (go_at_call 12; refine (awake_yes _).mono ?_; rintro e w' ⟨rfl, hb⟩)
          go_ret
          exact ⟨rfl, bel_end HB.out hb⟩
        · have d0 : decide ((k : Int) < 2) = false := decide_eq_false hs
          have c0 := CA.out (by omega)
          have c1 := CB.out (by omega)
          have j0 : (0 : Int) < (k : Int) := by omega
          have j1 : (1 : Int) < (k : Int) := by omega
          clear hs CA CB
          obtain ⟨mn, hmn⟩ : ∃ z, mulNum a c = z := ⟨_, rfl⟩
          obtain ⟨me, hme⟩ : ∃ z, mulErr a c = z := ⟨_, rfl⟩
          obtain ⟨bl, hbl⟩ : ∃ z, (decide (a < 0) != decide (c < 0)) = z := ⟨_, rfl⟩
          obtain ⟨N, hN⟩ : ∃ z, a.natAbs * c.natAbs = z := ⟨_, rfl⟩
          have MW := Lib.hid (mul_whole fa fc hbl hN)
          have MU := Lib.hid (mul_any a c fa fc)
          rw [hmn, hme] at MU MW
          have SA := Lib.hid (refSize_any a fa.1 fa.2)
          have SC := Lib.hid (refSize_any c fc.1 fc.2)
          have TI := Lib.hid (times_any a.natAbs c.natAbs (by omega) (by omega))
          rw [hN] at TI
          have HN2 : Hid (N ≤ 85070591730234615865843651857942052864) := by show _ ≤ _; rw [← hN]; exact Nat.mul_le_mul (show a.natAbs ≤ 9223372036854775808 by omega) (show c.natAbs ≤ 9223372036854775808 by omega)
          generalize a.natAbs = sa at *
          generalize c.natAbs = sc at *
          have hbl2 : (decide (c < 0) != decide (a < 0)) = bl := by rw [← hbl]; cases decide (a < 0) <;> cases decide (c < 0) <;> rfl
          clear hmn hme hN fa fc
          go_wp2_with fail
          refine (half_any u6 H _ NH.out).mono ?_
          rintro e w2 ⟨rfl, rfl⟩
          go_wp2_with fail
          refine (half_any u7 L _ NL.out).mono ?_
          rintro e w2 ⟨rfl, rfl⟩
          go_wp2_with fail
          clear E rn
          go_upto_region 24 with fail
          go_cut [11, 12] from 86 to 95 (fun s11 s12 wx => s11 = .int .i64 mn ∧ s12 = .int .i64 me ∧ wx = wr.drew)
          case first =>
            go_region_with (go_at_call 20; refine (MU.out _).mono ?_; rintro e w2 ⟨rfl, rfl⟩)
            all_goals (go_wp2_with fail; go_meet; exact ⟨rfl, rfl, rfl⟩)
          case rest =>
          obtain ⟨rfl, rfl, rfl⟩ := hcut
          clear MU
          go_upto_region 25 with fail
          go_cut [13] from 96 to 104 (fun s13 wx => IsNum wx s13 N ∧ Below wr.heap.size wr wx)
          case first =>
            go_region_with (first
              | (go_at_call 18; with_reducible refine (SA.out _).mono ?_; rintro e w2 ⟨rfl, rfl⟩)
              | (go_at_call 18; with_reducible refine (SC.out _).mono ?_; rintro e w2 ⟨rfl, rfl⟩)
              | (go_at_call 13; refine (TI.out _).mono ?_; rintro e w3 ⟨v3, rfl, n3, b3⟩))
            all_goals (go_wp2_with fail; go_meet; refine ⟨n3, bel_end ?_ b3⟩; repeat (first | with_reducible exact Below.refl _ _ | with_reducible refine bel_drew ?_))
          case rest =>
          obtain ⟨n13, b13⟩ := hcut
          have c0' := (b13.cell (p := ⟨b, off, none⟩) hsb).trans c0
          have c1' := (b13.cell (p := ⟨b, off + 1, none⟩) hsb).trans c1
          have HB2 := Lib.hid (bel_end HB.out b13)
          have N13 := Lib.hid n13
          clear SA SC TI n13 b13 c0 c1
          go_upto_region 26 with fail
          go_cut [14] from 105 to 113 (fun s14 wx => s14 = .bool bl ∧ wx = wc.drew)
          case first =>
            go_region
            all_goals (go_wp2_with fail; go_meet; exact ⟨by first | rfl | (rw [hbl]; done) | (rw [← hbl]; simp; cases decide (a < 0) <;> cases decide (c < 0) <;> rfl), rfl⟩)
          case rest =>
          obtain ⟨rfl, rfl⟩ := hcut
          have N14 := Lib.hid (N13.out.below (bel_drew (Below.refl _ _)))
          have N15 := Lib.hid (fun n => N13.out.below (below_drewN n))
          clear N13 c0' c1' hbl hbl2
          cases hw : wholeIs N bl with
          | false =>
            obtain ⟨f1, f2⟩ := MW.out.2 hw
            subst f1 f2
            clear MW HN2
            go_wp2_with fail
            refine (whole_any _ N bl _ N14.out).mono ?_
            rw [hw]
            rintro e w5 ⟨rfl, k5, rfl⟩
            clear hw
            go_wp2_with (go_at_call 12; refine (awake_yes _).mono ?_; rintro e w' ⟨rfl, hb⟩)
            go_ret
            exact ⟨rfl, bel_end (bel_end HB2.out (below_drewN _)) hb⟩
          | true =>
            obtain ⟨f1, f2⟩ := MW.out.1 hw
            subst f1
            by_cases hz : N = 0
            · subst hz
              have f3 : mn = 0 := by rw [f2]; cases bl <;> rfl
              subst f3
              clear MW HN2 f2
              go_wp2_with fail
              refine (whole_any _ 0 bl _ N14.out).mono ?_
              rw [hw]
              rintro e w5 ⟨rfl, k5, rfl⟩
              clear hw
              go_wp2_with fail
              refine (half_any _ 0 _ (N15.out _)).mono ?_
              rw [show ((0 % 18446744073709551616 : Nat) : Int) = 0 from rfl]
              rintro e w6 ⟨rfl, rfl⟩
              go_wp2_with (go_at_call 12; refine (awake_yes _).mono ?_; rintro e w' ⟨rfl, hb⟩)
              go_ret
              exact ⟨rfl, bel_end (bel_end HB2.out (below_drewN _)) hb⟩
            · have z0 : ((N : Int) == 0) = false := by simp; omega
              cases bl with
              | true =>
                have nle : N ≤ 9223372036854775808 := by unfold wholeIs at hw; simp at hw; omega
                have hm : N % 18446744073709551616 = N := Nat.mod_eq_of_lt (by omega)
                have MI := Lib.hid (minus_neg N (by omega) nle)
                rw [if_pos rfl] at f2
                rw [← f2] at MI
                have g0 : (mn == mn) = true := by simp
                clear MW HN2 f2 nle hz
                go_wp2_with fail
                refine (whole_any _ N true _ N14.out).mono ?_
                rw [hw]
                rintro e w5 ⟨rfl, k5, rfl⟩
                clear hw
                go_wp2_with fail
                refine (half_any _ N _ (N15.out _)).mono ?_
                rw [hm]
                rintro e w6 ⟨rfl, rfl⟩
                go_wp2_with fail
                refine (half_any _ N _ (N15.out _)).mono ?_
                rw [hm]
                rintro e w6 ⟨rfl, rfl⟩
                go_wp2_with fail
                refine (MI.out _).mono ?_
                rintro e w6 ⟨rfl, rfl⟩
                go_wp2_with (go_at_call 12; refine (awake_yes _).mono ?_; rintro e w' ⟨rfl, hb⟩)
                go_ret
                exact ⟨rfl, bel_end (bel_end HB2.out (below_drewN _)) hb⟩
              | false =>
                have nle : N ≤ 9223372036854775807 := by unfold wholeIs at hw; simp at hw; omega
                have hm : N % 18446744073709551616 = N := Nat.mod_eq_of_lt (by omega)
                have MI := Lib.hid (minus_pos N nle)
                rw [if_neg (by decide)] at f2
                subst f2
                have g0 : ((N : Int) == (N : Int)) = true := by simp
                clear MW HN2 nle hz
                go_wp2_with fail
                refine (whole_any _ N false _ N14.out).mono ?_
                rw [hw]
                rintro e w5 ⟨rfl, k5, rfl⟩
                clear hw
                go_wp2_with fail
                refine (half_any _ N _ (N15.out _)).mono ?_
                rw [hm]
                rintro e w6 ⟨rfl, rfl⟩
                go_wp2_with fail
                refine (half_any _ N _ (N15.out _)).mono ?_
                rw [hm]
                rintro e w6 ⟨rfl, rfl⟩
                go_wp2_with fail
                refine (MI.out _).mono ?_
                rintro e w6 ⟨rfl, rfl⟩
                go_wp2_with (go_at_call 12; refine (awake_yes _).mono ?_; rintro e w' ⟨rfl, hb⟩)
                go_ret
                exact ⟨rfl, bel_end (bel_end HB2.out (below_drewN _)) hb⟩
set_option maxRecDepth 100000 in
set_option maxHeartbeats 8000000 in
theorem empty (a : Option Addr) (cap : Nat) (w : World) : Calls Try.prog 4 #[.slice a 0 cap] w (Yes w) := by
  have O0 := Lib.hid (of_zero 0 (by omega))
  have SU := Lib.hid (sum_empty a cap)
  have e0 : wrap64 (IntKind.u64.wrap 0) = 0 := by rw [IntKind.wrap_u64]; unfold wrap64; omega
  go_enter Try.func4, Try.ntmps4
  go_wp2_with fail
  refine (SU.out _).mono ?_
  rintro e w' ⟨rfl, rfl⟩
  go_wp2_with fail
  refine (O0.out _).mono ?_
  rintro e wa ⟨va, rfl, na, ba⟩
  go_wp2_with fail
  refine (O0.out _).mono ?_
  rintro e wb ⟨vb, rfl, nb, bb⟩
  have NA := Lib.hid (na.below bb)
  have NB := Lib.hid nb
  have HB := Lib.hid (ba.trans (bb.mono ba.size))
  clear na nb ba bb
  go_wp2_with fail
  refine wp_loop_rounds 1 ?_
  rw [rounds_succ]
  go_wp2_with fail
  refine (half_any va 0 _ NA.out).mono ?_
  rw [show ((0 % 18446744073709551616 : Nat) : Int) = 0 from rfl]
  rintro e w2 ⟨rfl, rfl⟩
  go_wp2_with fail
  refine (half_any vb 0 _ NB.out).mono ?_
  rw [show ((0 % 18446744073709551616 : Nat) : Int) = 0 from rfl]
  rintro e w2 ⟨rfl, rfl⟩
  go_wp2_with (go_at_call 12; refine (awake_yes _).mono ?_; rintro e w' ⟨rfl, hb⟩)
  go_ret
  exact ⟨rfl, bel_end HB.out hb⟩
theorem walk (v : Value) (zs : List Int) (w : World) (hv : IntRow w v zs) (hf : ∀ n ∈ zs, Fit n) (_ : zs.length ≤ maxLen) : Calls Try.prog 4 #[v] w (Yes w) := by
  rcases hv with ⟨a, cap, rfl, rfl⟩ | ⟨b, off, cap, rfl, hb, _, hc⟩
  · exact empty a cap w
  · by_cases h : 60 < (zs.length : Int)
    · exact long (some ⟨b, off, none⟩) zs.length cap h w
    · exact inside b off cap zs (by omega) hf w hb hc

set_option maxRecDepth 100000 in
theorem lifted (os : Os) (started : os.Started) (H : Type) (enc : TypeId × Value → H) :
    ReturnsInHanded {} Try.checked os 4 .any (Rows.numSumsSpec.pre6 enc Try.prog Try.f4 Rows.numSumsRow.domain false) (Rows.numSumsSpec.post enc Try.prog Try.f4 false true false false) := by
  refine returnsInHanded_of_change (C := Try.checked) own started (by kernel_rfl) Try.func4
    (ChangeSpec.witness6 (enc := enc) (C := Try.checked) false ⟨#[], #[.slice none 0 0], []⟩ 8 (by kernel_rfl) (by kernel_rfl) (by kernel_rfl) (by kernel_rfl)) ?_
  intro W base args ds gs before hval0 hW hcnd _
  have hval : ∀ (j : Nat) t v, Try.f4.params[j]? = some t → args[j]? = some v → Value.okWide Try.prog W .any base t v := hval0
  have hW' := hW
  obtain ⟨p, q, hA0, hV, _, hfz, hnd⟩ := hW'
  have hA : DataW.TrodAll enc Try.prog W 0 (fun _ => true) true Try.f4.params.toList args.toList ds p := hA0
  rw [Try.params4] at hA hval
  obtain ⟨v0, d0, rfl, _, h0⟩ := trodAll_one hA
  obtain ⟨xs, hxs, fxs, lxs⟩ := open_introw Try.underlying27 Try.underlying3 (by kernel_rfl) (hval 0 27 v0 rfl rfl) h0
  refine (walk v0 xs W hxs fxs lxs).mono fun e W' h => ?_
  exact law_post (f := Try.f4) rfl rfl Try.underlying4 (by kernel_rfl) (fun ds hd => by
    match ds, hd with
    | [_], _ => rfl) hW h

theorem over : Rows.numSumsRow.holds Try.pinned (OpenSpec.ofChange Rows.numSumsSpec) :=
  OpenClaim.holds_of_wide 4 Try.f4 rfl rfl rfl rfl rfl rfl rfl ⟨rfl, rfl, rfl, rfl, rfl⟩ rfl rfl rfl rfl rfl (by kernel_rfl) Try.func4 (by kernel_rfl)
    (of_decide_eq_true (by kernel_rfl)) (by unfold Func.isWrapper; first | (rw [if_pos (by decide +kernel)]; kernel_rfl) | (rw [if_neg (by decide +kernel)]; exact ⟨rfl, rfl⟩))
    (fun os started H enc _ => lifted os started H enc)

/-- THE STATEMENT. -/
theorem proved : Rows.NumSumsSaid := over
end Go.Proofs.Ytgdgfcogmfhpcaa.numSums
