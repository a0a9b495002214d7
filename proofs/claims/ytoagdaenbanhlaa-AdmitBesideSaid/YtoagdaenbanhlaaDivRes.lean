/- What num.Div answers at any three numbers of 64 bits, in one function of them. -/
import Derived.Test.YtoagdaenbanhlaaNumDiv2
namespace Go.Proofs.Ytoagdaenbanhlaa
open Go.RowKit

/-- The quotient, or 0. -/
def divNum (a b c : Int) (up : Bool) : Int :=
  if a < 0 ∨ b < 0 ∨ c < 0 then 0 else if c = 0 then 0 else if 9223372036854775807 < quot up (a.toNat * b.toNat) c.toNat then 0 else ((quot up (a.toNat * b.toNat) c.toNat : Nat) : Int)
/-- What is wrong, or 0. -/
def divErr (a b c : Int) (up : Bool) : Int :=
  if a < 0 ∨ b < 0 ∨ c < 0 then 10 else if c = 0 then 12 else if 9223372036854775807 < quot up (a.toNat * b.toNat) c.toNat then 11 else 0

theorem divRes_range {a b c : Int} {up : Bool} (h : a < 0 ∨ b < 0 ∨ c < 0) : divNum a b c up = 0 ∧ divErr a b c up = 10 := by
  unfold divNum divErr; rw [if_pos h, if_pos h]; exact ⟨rfl, rfl⟩
theorem divRes_zero {a b : Int} {up : Bool} (ha : 0 ≤ a) (hb : 0 ≤ b) : divNum a b 0 up = 0 ∧ divErr a b 0 up = 12 := by
  unfold divNum divErr; constructor <;> rw [if_neg (by omega), if_pos rfl]
theorem divRes_over {a b c : Int} {up : Bool} (ha : 0 ≤ a) (hb : 0 ≤ b) (hc : 1 ≤ c) (h : 9223372036854775807 < quot up (a.toNat * b.toNat) c.toNat) : divNum a b c up = 0 ∧ divErr a b c up = 11 := by
  unfold divNum divErr; constructor <;> rw [if_neg (by omega), if_neg (by omega), if_pos h]
theorem divRes_ok {a b c : Int} {up : Bool} (ha : 0 ≤ a) (hb : 0 ≤ b) (hc : 1 ≤ c) (h : quot up (a.toNat * b.toNat) c.toNat ≤ 9223372036854775807) : divNum a b c up = ((quot up (a.toNat * b.toNat) c.toNat : Nat) : Int) ∧ divErr a b c up = 0 := by
  unfold divNum divErr; constructor <;> rw [if_neg (by omega), if_neg (by omega), if_neg (by omega)]

theorem div_any (a b c : Int) (up : Bool) (ha' : a ≤ 9223372036854775807) (hb' : b ≤ 9223372036854775807) (hc' : c ≤ 9223372036854775807) (w : World) :
    Calls Try.prog 43 #[.int .i64 a, .int .i64 b, .int .i64 c, .bool up] w (Gives (.tuple #[.int .i64 (divNum a b c up), .int .i64 (divErr a b c up)]) w) := by
  by_cases h : a < 0 ∨ b < 0 ∨ c < 0
  · obtain ⟨e1, e2⟩ := divRes_range (up := up) h
    rw [e1, e2]; exact div_range a b c up h ha' hb' w
  · by_cases h0 : c = 0
    · subst h0
      obtain ⟨e1, e2⟩ := divRes_zero (a := a) (b := b) (up := up) (by omega) (by omega)
      rw [e1, e2]; exact div_zero a b up (by omega) (by omega) ha' hb' w
    · rcases Nat.lt_or_ge 9223372036854775807 (quot up (a.toNat * b.toNat) c.toNat) with h1 | h1
      · obtain ⟨e1, e2⟩ := divRes_over (a := a) (b := b) (c := c) (up := up) (by omega) (by omega) (by omega) h1
        rw [e1, e2]; exact div_over a b c up (by omega) (by omega) (by omega) ha' hb' hc' h1 w
      · obtain ⟨e1, e2⟩ := divRes_ok (a := a) (b := b) (c := c) (up := up) (by omega) (by omega) (by omega) h1
        rw [e1, e2]; exact div_ok a b c up (by omega) (by omega) (by omega) ha' hb' hc' h1 w

/-! ### what the quotient is -/
theorem quot_up_le {n c : Nat} (hc : 0 < c) : n ≤ quot true n c * c ∧ quot true n c * c < n + c := by
  have h := Nat.div_add_mod' n c
  have hm := Nat.mod_lt n hc
  unfold quot
  generalize n / c = q at *
  generalize n % c = r at *
  by_cases h1 : 0 < r
  · rw [if_pos ⟨rfl, h1⟩, Nat.add_mul]; omega
  · rw [if_neg (fun h2 => h1 h2.2)]; omega
theorem quot_down_le {n c : Nat} (hc : 0 < c) : quot false n c * c ≤ n ∧ n < quot false n c * c + c := by
  have h := Nat.div_add_mod' n c
  have hm := Nat.mod_lt n hc
  rw [quot_low]
  generalize n / c = q at *
  generalize n % c = r at *
  omega
/-- the quotient is more than k, rounded up, just if k times what it is divided by is less. -/
theorem quot_up_gt {n c k : Nat} (hc : 0 < c) : k < quot true n c ↔ k * c < n := by
  have h := quot_up_le (n := n) hc
  constructor
  · intro h1
    have : (k + 1) * c ≤ quot true n c * c := Nat.mul_le_mul_right _ h1
    rw [Nat.add_mul] at this; omega
  · intro h1
    apply Classical.byContradiction; intro h2
    have : quot true n c * c ≤ k * c := Nat.mul_le_mul_right _ (by omega)
    omega
theorem quot_down_gt {n c k : Nat} (hc : 0 < c) : k < quot false n c ↔ k * c + c ≤ n := by
  have h := quot_down_le (n := n) hc
  constructor
  · intro h1
    have : (k + 1) * c ≤ quot false n c * c := Nat.mul_le_mul_right _ h1
    rw [Nat.add_mul] at this; omega
  · intro h1
    apply Classical.byContradiction; intro h2
    have : quot false n c * c ≤ k * c := Nat.mul_le_mul_right _ (by omega)
    omega

/-- a cell of a world that has grown. -/
theorem bcell {W w1 : World} (hb : Below W.heap.size W w1) : ∀ b o, b < W.heap.size → w1.cell? ⟨b, o, none⟩ = W.cell? ⟨b, o, none⟩ := fun b o h => hb.cell (p := ⟨b, o, none⟩) h

end Go.Proofs.Ytoagdaenbanhlaa
