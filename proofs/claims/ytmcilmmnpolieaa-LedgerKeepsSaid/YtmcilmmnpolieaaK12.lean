/- What num.Sum answers of any slice of ints. No condition but that they are numbers of 64 bits, and the slice is not longer than Go's. What ratio.Sum answers of any slice of ints. No condition but that they are numbers of 64 bits, and the slice is not longer than Go's. Each theorem's premises are its conditions. -/
import Derived.Test.YtmcilmmnpolieaaK10
import Derived.WalkLawsBesides
import Derived.WalkSpells
import Derived.Outline
import Derived.BigGuardPart
/- What num.Sum answers of any slice of ints. No condition but that they are numbers of 64 bits, and the slice is not longer than Go's. -/
namespace Go.Proofs.Ytmcilmmnpolieaa
open Go.RowKit

set_option maxHeartbeats 1000000 in
theorem sum_some (b off cap : Nat) (zs : List Int) (w : World) (hmax : zs.length ≤ 9223372036854775807)
    (hc : ∀ j, j < zs.length → w.cell? ⟨b, off + j, none⟩ = some (.int .i64 (zs.getD j 0))) (hr : ∀ n ∈ zs, Fit n) :
    Calls Try.prog 71 #[.slice (some ⟨b, off, none⟩) zs.length cap] w fun e w' => e = .returned (.tuple #[.int .i64 (sumNum zs), .int .i64 (sumErr zs)]) ∧ w' = w := by
  have HR : Hid (∀ j, Fit (zs.getD j 0)) := fit_get hr
  have HC := Lib.hid hc
  obtain ⟨len, hlen⟩ : ∃ n, zs.length = n := ⟨_, rfl⟩
  have HL := Lib.hid hlen
  rw [hlen]
  rw [hlen] at hmax
  clear hr hc hlen
  go_enter Try.func71, Try.ntmps71
  go_wp2
  go_loop [4, 9] (fun t i => ∃ (k : Nat) (T : Int), k ≤ len ∧ i = .int .i64 k ∧ t = .int .i64 T ∧ -9223372036854775808 ≤ T ∧ T ≤ 9223372036854775807 ∧ sumGo 0 zs = sumGo T (zs.drop k)) (fun _ i => len - (intOf i).toNat)
  case atStart => exact ⟨0, 0, by omega, rfl, rfl, by omega, by omega, rfl⟩
  case round =>
    obtain ⟨k, T, hk, rfl, rfl, hT0, hT1, hd⟩ := hrel
    have HD := Lib.hid hd
    clear hd
    by_cases hlt : k < len
    · have hcell := HC.out k (by rw [HL.out]; exact hlt)
      have hrk := HR.out k
      have HS := Lib.hid (drop_step (zs := zs) (k := k) (by rw [HL.out]; exact hlt))
      generalize zs.getD k 0 = x at *
      obtain ⟨hx0, hx1⟩ := hrk
      have hlt' : (k : Int) < (len : Int) := by omega
      by_cases h1 : 0 < x
      · by_cases h2 : 9223372036854775807 - x < T
        · have hv : Hid (sumGo 0 zs = none) := by show _ = _; rw [HD.out, HS.out]; unfold sumGo; rw [if_neg (by omega)]
          go_wp2
          go_ret2
          exact ⟨by unfold sumNum sumErr; rw [hv.out]; rfl, rfl⟩
        · have h2' : T ≤ 9223372036854775807 - x := by omega
          have hv : Hid (sumGo 0 zs = sumGo (T + x) (zs.drop (k + 1))) := by show _ = _; rw [HD.out, HS.out]; conv => lhs; unfold sumGo; rw [if_pos (by omega)]
          clear h2
          go_wp2
          exact ⟨⟨k + 1, T + x, by omega, by go_num, rfl, by omega, by omega, hv.out⟩, by simp [intOf]; omega⟩
      · by_cases h0 : x < 0
        · by_cases h2 : T < -9223372036854775808 - x
          · have hv : Hid (sumGo 0 zs = none) := by show _ = _; rw [HD.out, HS.out]; unfold sumGo; rw [if_neg (by omega)]
            go_wp2
            go_ret2
            exact ⟨by unfold sumNum sumErr; rw [hv.out]; rfl, rfl⟩
          · have h2' : -9223372036854775808 - x ≤ T := by omega
            have hv : Hid (sumGo 0 zs = sumGo (T + x) (zs.drop (k + 1))) := by show _ = _; rw [HD.out, HS.out]; conv => lhs; unfold sumGo; rw [if_pos (by omega)]
            clear h2
            go_wp2
            exact ⟨⟨k + 1, T + x, by omega, by go_num, rfl, by omega, by omega, hv.out⟩, by simp [intOf]; omega⟩
        · have hv : Hid (sumGo 0 zs = sumGo (T + x) (zs.drop (k + 1))) := by show _ = _; rw [HD.out, HS.out]; conv => lhs; unfold sumGo; rw [if_pos (by omega)]
          have h3 : x = 0 := by omega
          subst h3
          clear h0 h1
          go_wp2
          exact ⟨⟨k + 1, T, by omega, by go_num, by simp, by omega, by omega, by have := hv.out; simpa using this⟩, by simp [intOf]; omega⟩
    · have hv : Hid (sumGo 0 zs = some T) := by show _ = _; rw [HD.out, List.drop_eq_nil_of_le (by rw [HL.out]; omega)]; rfl
      have hge : (len : Int) ≤ (k : Int) := by omega
      go_wp2
      go_ret2
      exact ⟨by unfold sumNum sumErr; rw [hv.out]; rfl, rfl⟩

theorem sum_empty (a0 : Option Addr) (cap : Nat) (w : World) :
    Calls Try.prog 71 #[.slice a0 0 cap] w fun e w' => e = .returned (.tuple #[.int .i64 0, .int .i64 0]) ∧ w' = w := by
  go_enter Try.func71, Try.ntmps71
  go_wp2
  refine wp_loop_rounds 1 ?_
  rw [rounds_succ]
  go_wp2
  go_ret2
  exact ⟨rfl, rfl⟩

theorem sum_any (v : Value) (xs : List Int) (w : World) (h : IntRow w v xs) (hf : ∀ n ∈ xs, Fit n) (hl : xs.length ≤ 9223372036854775807) :
    Calls Try.prog 71 #[v] w fun e w' => e = .returned (.tuple #[.int .i64 (sumNum xs), .int .i64 (sumErr xs)]) ∧ w' = w := by
  rcases h with ⟨a, cap, rfl, rfl⟩ | ⟨b, off, cap, rfl, _, _, hc⟩
  · exact sum_empty a cap w
  · exact sum_some b off cap xs w hl hc hf
end Go.Proofs.Ytmcilmmnpolieaa
/- What ratio.Sum answers of any slice of ints. No condition but that they are numbers of 64 bits, and the slice is not longer than Go's. -/
namespace Go.Proofs.Ytmcilmmnpolieaa
open Go.RowKit

/-- is one of them below 0? -/
def someNeg (zs : List Int) : Bool := zs.any fun x => decide (x < 0)
theorem someNeg_of {zs : List Int} {k : Nat} (h : k < zs.length) (hx : zs.getD k 0 < 0) : someNeg zs = true := by
  unfold someNeg
  rw [List.any_eq_true]
  refine ⟨zs.getD k 0, ?_, by simpa using hx⟩
  have : zs.getD k 0 = zs[k] := by simp [List.getD, h]
  rw [this]; exact List.getElem_mem h
theorem someNeg_not {zs : List Int} (h : ∀ j, j < zs.length → ¬ zs.getD j 0 < 0) : someNeg zs = false := by
  unfold someNeg
  rw [List.any_eq_false]
  intro x hx
  obtain ⟨j, hj, rfl⟩ := List.mem_iff_getElem.1 hx
  have h1 := h j hj
  have : zs.getD j 0 = zs[j] := by simp [List.getD, hj]
  rw [this] at h1
  simpa using h1
/-- what ratio.Sum hands back. -/
def rsumNum (zs : List Int) : Int := if someNeg zs = true then 0 else sumNum zs
def rsumErr (zs : List Int) : Int := if someNeg zs = true then 10 else sumErr zs

theorem neg_any (x : Int) (w : World) : Calls Try.prog 70 #[.int .i64 x] w fun e w' => e = .returned (.bool (decide (x < 0))) ∧ w = w' := by
  go_enter Try.func70, Try.ntmps70
  go_wp2
  go_ret
  exact ⟨rfl, rfl⟩

set_option maxHeartbeats 1000000 in
theorem index_some (b off cap : Nat) (zs : List Int) (w : World) (hmax : zs.length ≤ 9223372036854775807)
    (hc : ∀ j, j < zs.length → w.cell? ⟨b, off + j, none⟩ = some (.int .i64 (zs.getD j 0))) :
    Calls Try.prog 80 #[.slice (some ⟨b, off, none⟩) zs.length cap, .func (.func 70) #[] #[]] w fun e w' => (∃ n : Int, e = .returned (.int .i64 n) ∧ decide (0 ≤ n) = someNeg zs) ∧ w = w' := by
  have HC := Lib.hid hc
  obtain ⟨len, hlen⟩ : ∃ n, zs.length = n := ⟨_, rfl⟩
  have HL := Lib.hid hlen
  rw [hlen]
  rw [hlen] at hmax
  clear hc hlen
  go_enter Try.func80, Try.ntmps80
  go_wp2
  go_loop [8] (fun i => ∃ k : Nat, k ≤ len ∧ i = .int .i64 k ∧ ∀ j, j < k → 0 ≤ zs.getD j 0) (fun i => len - (intOf i).toNat)
  case atStart => exact ⟨0, by omega, rfl, fun j hj => by omega⟩
  case round =>
    obtain ⟨k, hk, rfl, hd⟩ := hrel
    have HD := Lib.hid hd
    clear hd
    by_cases hlt : k < len
    · have hcell := HC.out k (by rw [HL.out]; exact hlt)
      have HS : Hid (zs.getD k 0 < 0 → someNeg zs = true) := fun h => someNeg_of (by rw [HL.out]; exact hlt) h
      have HN : Hid (¬ zs.getD k 0 < 0 → ∀ j, j < k + 1 → 0 ≤ zs.getD j 0) := fun h j hj => by
        by_cases e : j = k
        · subst e; omega
        · exact HD.out j (by omega)
      clear HD
      generalize zs.getD k 0 = x at *
      have hlt' : (k : Int) < (len : Int) := by omega
      by_cases h1 : x < 0
      · have e1 : Hid (someNeg zs = true) := HS.out h1
        clear HS HN
        have d1 : decide (x < 0) = true := by simp; exact h1
        go_wp2_with (go_at_call 70; refine (neg_any _ _).mono ?_; rw [d1]; rintro e w' ⟨rfl, rfl⟩)
        go_ret
        exact ⟨⟨_, rfl, by rw [e1.out]; simp⟩, rfl⟩
      · have e1 := Lib.hid (HN.out h1)
        clear HS HN
        have d1 : decide (x < 0) = false := by simp; omega
        go_wp2_with (go_at_call 70; refine (neg_any _ _).mono ?_; rw [d1]; rintro e w' ⟨rfl, rfl⟩)
        exact ⟨⟨k + 1, by omega, by go_num, e1.out⟩, by simp [intOf]; omega⟩
    · have hge : (len : Int) ≤ (k : Int) := by omega
      have e1 : Hid (someNeg zs = false) := someNeg_not (fun j hj => by have := HD.out j (by rw [HL.out] at hj; omega); omega)
      go_wp2
      go_ret
      exact ⟨⟨-1, rfl, by rw [e1.out]; simp⟩, rfl⟩
theorem index_empty (a0 : Option Addr) (cap : Nat) (w : World) :
    Calls Try.prog 80 #[.slice a0 0 cap, .func (.func 70) #[] #[]] w fun e w' => (∃ n : Int, e = .returned (.int .i64 n) ∧ decide (0 ≤ n) = someNeg []) ∧ w = w' := by
  go_enter Try.func80, Try.ntmps80
  go_wp2
  refine wp_loop_rounds 1 ?_
  rw [rounds_succ]
  go_wp2
  go_ret
  exact ⟨⟨-1, rfl, by decide⟩, rfl⟩
theorem index_any (v : Value) (xs : List Int) (w : World) (h : IntRow w v xs) (hl : xs.length ≤ 9223372036854775807) :
    Calls Try.prog 80 #[v, .func (.func 70) #[] #[]] w fun e w' => (∃ n : Int, e = .returned (.int .i64 n) ∧ decide (0 ≤ n) = someNeg xs) ∧ w = w' := by
  rcases h with ⟨a, cap, rfl, rfl⟩ | ⟨b, off, cap, rfl, _, _, hc⟩
  · exact index_empty a cap w
  · exact index_some b off cap xs w hl hc
theorem contains_any (v : Value) (xs : List Int) (w : World) (h : IntRow w v xs) (hl : xs.length ≤ 9223372036854775807) :
    Calls Try.prog 69 #[v, .func (.func 70) #[] #[]] w fun e w' => e = .returned (.bool (someNeg xs)) ∧ w = w' := by
  have I := Lib.hid (index_any v xs w h hl)
  clear h hl
  go_enter Try.func69, Try.ntmps69
  go_wp2_with (go_at_call 80; refine (I.out).mono ?_; rintro e w' ⟨⟨n, rfl, hn⟩, rfl⟩)
  go_ret
  exact ⟨rfl, rfl⟩
theorem rsum_any (v : Value) (xs : List Int) (w : World) (h : IntRow w v xs) (hf : ∀ n ∈ xs, Fit n) (hl : xs.length ≤ 9223372036854775807) :
    Calls Try.prog 54 #[v] w fun e w' => e = .returned (.tuple #[.int .i64 (rsumNum xs), .int .i64 (rsumErr xs)]) ∧ w = w' := by
  have C := Lib.hid (contains_any v xs w h hl)
  have S := Lib.hid (sum_any v xs w h hf hl)
  unfold rsumNum rsumErr
  clear h hf hl
  cases hs : someNeg xs with
  | true =>
    rw [if_pos rfl, if_pos rfl]
    rw [hs] at C
    clear hs S
    go_enter Try.func54, Try.ntmps54
    go_wp2_with (go_at_call 69; refine (C.out).mono ?_; rintro e w' ⟨rfl, rfl⟩)
    go_ret2
    exact ⟨rfl, rfl⟩
  | false =>
    rw [if_neg (by decide), if_neg (by decide)]
    rw [hs] at C
    clear hs
    go_enter Try.func54, Try.ntmps54
    go_wp2_with (first | (go_at_call 69; refine (C.out).mono ?_; rintro e w' ⟨rfl, rfl⟩) | (go_at_call 71; refine (S.out).mono ?_; rintro e w' ⟨rfl, rfl⟩))
    go_ret2
    exact ⟨rfl, rfl⟩
end Go.Proofs.Ytmcilmmnpolieaa
