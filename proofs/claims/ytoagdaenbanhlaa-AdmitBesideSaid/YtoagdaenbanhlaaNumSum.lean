/- What num.Sum answers of any slice of ints. No condition but that they are numbers of 64 bits, and the slice is not longer than Go's. -/
import Derived.Test.YtoagdaenbanhlaaSlice
import Derived.WalkLawsBesides
import Derived.WalkSpells
import Derived.Outline
import Derived.BigGuardPart
namespace Go.Proofs.Ytoagdaenbanhlaa
open Go.RowKit

set_option maxHeartbeats 1000000 in
theorem sum_some (b off cap : Nat) (zs : List Int) (w : World) (hmax : zs.length ≤ 9223372036854775807)
    (hc : ∀ j, j < zs.length → w.cell? ⟨b, off + j, none⟩ = some (.int .i64 (zs.getD j 0))) (hr : ∀ n ∈ zs, Fit n) :
    Calls Try.prog 40 #[.slice (some ⟨b, off, none⟩) zs.length cap] w fun e w' => e = .returned (.tuple #[.int .i64 (sumNum zs), .int .i64 (sumErr zs)]) ∧ w' = w := by
  have HR : Hid (∀ j, Fit (zs.getD j 0)) := fit_get hr
  have HC := Lib.hid hc
  obtain ⟨len, hlen⟩ : ∃ n, zs.length = n := ⟨_, rfl⟩
  have HL := Lib.hid hlen
  rw [hlen]
  rw [hlen] at hmax
  clear hr hc hlen
  go_enter Try.func40, Try.ntmps40
  go_wp2
  go_loop [4, 9] (fun t i => ∃ (k : Nat) (T : Int), k ≤ len ∧ i = .int .i64 k ∧ t = .int .i64 T ∧ -9223372036854775808 ≤ T ∧ T ≤ 9223372036854775807 ∧ sumGo 0 zs = sumGo T (zs.drop k)) (fun _ i => len - (intOf i).toNat)
  case atStart => exact ⟨0, 0, by omega, rfl, rfl, by omega, by omega, rfl⟩
  case round =>
    obtain ⟨k, T, hk, rfl, rfl, hT0, hT1, hd⟩ := hrel
    have HD := Lib.hid hd
    clear hd
    by_cases hlt : k < len
    · have hcell := HC.out k (by rw [HL.out]; exact hlt)
      have hrk := HR.out k
      have HS := Lib.hid (drop_step (zs := zs) (k := k) (by rw [HL.out]; exact hlt))
      generalize zs.getD k 0 = x at *
      obtain ⟨hx0, hx1⟩ := hrk
      have hlt' : (k : Int) < (len : Int) := by omega
      by_cases h1 : 0 < x
      · by_cases h2 : 9223372036854775807 - x < T
        · have hv : Hid (sumGo 0 zs = none) := by show _ = _; rw [HD.out, HS.out]; unfold sumGo; rw [if_neg (by omega)]
          go_wp2
          go_ret2
          exact ⟨by unfold sumNum sumErr; rw [hv.out]; rfl, rfl⟩
        · have h2' : T ≤ 9223372036854775807 - x := by omega
          have hv : Hid (sumGo 0 zs = sumGo (T + x) (zs.drop (k + 1))) := by show _ = _; rw [HD.out, HS.out]; conv => lhs; unfold sumGo; rw [if_pos (by omega)]
          clear h2
          go_wp2
          exact ⟨⟨k + 1, T + x, by omega, by go_num, rfl, by omega, by omega, hv.out⟩, by simp [intOf]; omega⟩
      · by_cases h0 : x < 0
        · by_cases h2 : T < -9223372036854775808 - x
          · have hv : Hid (sumGo 0 zs = none) := by show _ = _; rw [HD.out, HS.out]; unfold sumGo; rw [if_neg (by omega)]
            go_wp2
            go_ret2
            exact ⟨by unfold sumNum sumErr; rw [hv.out]; rfl, rfl⟩
          · have h2' : -9223372036854775808 - x ≤ T := by omega
            have hv : Hid (sumGo 0 zs = sumGo (T + x) (zs.drop (k + 1))) := by show _ = _; rw [HD.out, HS.out]; conv => lhs; unfold sumGo; rw [if_pos (by omega)]
            clear h2
            go_wp2
            exact ⟨⟨k + 1, T + x, by omega, by go_num, rfl, by omega, by omega, hv.out⟩, by simp [intOf]; omega⟩
        · have hv : Hid (sumGo 0 zs = sumGo (T + x) (zs.drop (k + 1))) := by show _ = _; rw [HD.out, HS.out]; conv => lhs; unfold sumGo; rw [if_pos (by omega)]
          have h3 : x = 0 := by omega
          subst h3
          clear h0 h1
          go_wp2
          exact ⟨⟨k + 1, T, by omega, by go_num, by simp, by omega, by omega, by have := hv.out; simpa using this⟩, by simp [intOf]; omega⟩
    · have hv : Hid (sumGo 0 zs = some T) := by show _ = _; rw [HD.out, List.drop_eq_nil_of_le (by rw [HL.out]; omega)]; rfl
      have hge : (len : Int) ≤ (k : Int) := by omega
      go_wp2
      go_ret2
      exact ⟨by unfold sumNum sumErr; rw [hv.out]; rfl, rfl⟩

theorem sum_empty (a0 : Option Addr) (cap : Nat) (w : World) :
    Calls Try.prog 40 #[.slice a0 0 cap] w fun e w' => e = .returned (.tuple #[.int .i64 0, .int .i64 0]) ∧ w' = w := by
  go_enter Try.func40, Try.ntmps40
  go_wp2
  refine wp_loop_rounds 1 ?_
  rw [rounds_succ]
  go_wp2
  go_ret2
  exact ⟨rfl, rfl⟩

theorem sum_any (v : Value) (xs : List Int) (w : World) (h : IntRow w v xs) (hf : ∀ n ∈ xs, Fit n) (hl : xs.length ≤ 9223372036854775807) :
    Calls Try.prog 40 #[v] w fun e w' => e = .returned (.tuple #[.int .i64 (sumNum xs), .int .i64 (sumErr xs)]) ∧ w' = w := by
  rcases h with ⟨a, cap, rfl, rfl⟩ | ⟨b, off, cap, rfl, _, _, hc⟩
  · exact sum_empty a cap w
  · exact sum_some b off cap xs w hl hc hf
end Go.Proofs.Ytoagdaenbanhlaa
