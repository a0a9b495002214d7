/- What num's Add of wide numbers answers. Each theorem's premises are its conditions. -/
import Derived.Test.YtgdgfcogmfhpcaaNumDiv
import Derived.Laws.Externs
import Derived.WalkLawsBesides
import Derived.WalkSpells
import Derived.Outline
namespace Go.Proofs.Ytgdgfcogmfhpcaa
open Go.RowKit

/-- math/bits.Add64, which the model stands in for. -/
theorem add64_run (x y c : Nat) (hc : c ≤ 1) (w : World) : (callFunc 37 #[.int .u64 x, .int .u64 y, .int .u64 c]).run Try.prog w =
    .ok (.value (.tuple #[.int .u64 (((x + y + c) % 18446744073709551616 : Nat) : Int), .int .u64 (((x + y + c) / 18446744073709551616 : Nat) : Int)])) w := by
  rw [run_callFunc_extern Try.func37 (by kernel_rfl) (by kernel_rfl) (by kernel_rfl) (e := add64Entry) (by kernel_rfl), run_add64 x y c (by omega) (by omega) (by omega) (by omega)]
  simp only [Result.andThen]
  congr 5 <;> omega

theorem add64_zero (x y : Nat) (w : World) : (callFunc 37 #[.int .u64 x, .int .u64 y, .int .u64 0]).run Try.prog w =
    .ok (.value (.tuple #[.int .u64 (((x + y) % 18446744073709551616 : Nat) : Int), .int .u64 (((x + y) / 18446744073709551616 : Nat) : Int)])) w :=
  add64_run x y 0 (by omega) w
theorem parts_plain {B h l k m lo cr hi ov : Nat} (e1 : cr * B + lo = l + m) (e2 : ov * B + hi = h + k + cr) : (h * B + l) + (k * B + m) = ov * (B * B) + hi * B + lo := by
  have e3 : (ov * B + hi) * B = (h + k + cr) * B := by rw [e2]
  rw [Nat.add_mul, Nat.add_mul, Nat.add_mul, Nat.mul_assoc] at e3
  generalize ov * (B * B) = x at *
  generalize hi * B = y at *
  generalize h * B = z at *
  generalize k * B = u at *
  generalize cr * B = v at *
  omega
theorem add_parts {h l k m lo cr hi ov : Nat} (h1 : (l + m) % 18446744073709551616 = lo) (h2 : (l + m) / 18446744073709551616 = cr) (h3 : (h + k + cr) % 18446744073709551616 = hi) (h4 : (h + k + cr) / 18446744073709551616 = ov) :
    (h * 18446744073709551616 + l) + (k * 18446744073709551616 + m) = ov * (18446744073709551616 * 18446744073709551616) + hi * 18446744073709551616 + lo ∧ hi < 18446744073709551616 ∧ lo < 18446744073709551616 := by
  subst h1 h2 h3 h4
  exact ⟨parts_plain (Nat.div_add_mod' _ _) (Nat.div_add_mod' _ _), Nat.mod_lt _ (by omega), Nat.mod_lt _ (by omega)⟩

set_option maxHeartbeats 1000000 in
theorem add_all (h l k m : Nat) (hl : l < 18446744073709551616) (hm : m < 18446744073709551616) :
    ∃ hi lo ov : Nat, (h * 18446744073709551616 + l) + (k * 18446744073709551616 + m) = ov * (18446744073709551616 * 18446744073709551616) + hi * 18446744073709551616 + lo ∧ hi < 18446744073709551616 ∧ lo < 18446744073709551616 ∧
    ∀ w, Calls Try.prog 26 #[.agg #[.int .u64 h, .int .u64 l], .agg #[.int .u64 k, .int .u64 m]] w
      (Gives (if ov = 0 then .tuple #[.agg #[.int .u64 hi, .int .u64 lo], .int .i64 0] else .tuple #[.agg #[.int .u64 0, .int .u64 0], .int .i64 11]) w) := by
  have L := Lib.hid (add64_zero l m)
  obtain ⟨lo, hlo⟩ : ∃ x, (l + m) % 18446744073709551616 = x := ⟨_, rfl⟩
  obtain ⟨cr, hcr⟩ : ∃ x, (l + m) / 18446744073709551616 = x := ⟨_, rfl⟩
  have H := Lib.hid (add64_run h k cr (by omega))
  obtain ⟨hi, hhi⟩ : ∃ x, (h + k + cr) % 18446744073709551616 = x := ⟨_, rfl⟩
  obtain ⟨ov, hov⟩ : ∃ x, (h + k + cr) / 18446744073709551616 = x := ⟨_, rfl⟩
  obtain ⟨a1, a2, a3⟩ := add_parts hlo hcr hhi hov
  refine ⟨hi, lo, ov, a1, a2, a3, fun w => ?_⟩
  rw [hlo, hcr] at L
  rw [hhi, hov] at H
  clear hlo hcr hhi hov a1 a2 a3 hl hm
  by_cases h0 : ov = 0
  · subst h0
    rw [if_pos rfl]
    go_enter Try.func26, Try.ntmps26
    go_wp2_with (first | simp only [L.out] | simp only [H.out])
    exact bodyPost_ret (v := .tuple #[.agg #[.int .u64 hi, .int .u64 lo], .int .i64 0]) (by simp [results, Try.results26, go_sem]) rfl ⟨rfl, by
      repeat (with_reducible refine bel_alloc ?_)
      with_reducible exact Below.refl _ _⟩
  · have h1 : (0 : Int) < (ov : Int) := by omega
    rw [if_neg h0]
    clear h0
    go_enter Try.func26, Try.ntmps26
    go_wp2_with (first | simp only [L.out] | simp only [H.out])
    exact bodyPost_ret (v := .tuple #[.agg #[.int .u64 0, .int .u64 0], .int .i64 11]) (by simp [results, Try.results26, go_sem]) rfl ⟨rfl, by
      repeat (with_reducible refine bel_alloc ?_)
      with_reducible exact Below.refl _ _⟩
end Go.Proofs.Ytgdgfcogmfhpcaa
