/- Numbers as digits to the base 65536: sums, carries, order. Plain; no condition. -/
namespace Go.Proofs.Ytgdgfcogmfhpcaa.Dig
def V (f : Nat → Nat) : Nat → Nat
  | 0 => 0
  | k + 1 => V f k + f k * 65536 ^ k
theorem V_congr {f g : Nat → Nat} : ∀ k, (∀ i, i < k → f i = g i) → V f k = V g k
  | 0, _ => rfl
  | k + 1, h => by
    show V f k + f k * 65536 ^ k = V g k + g k * 65536 ^ k
    rw [V_congr k (fun i hi => h i (by omega)), h k (by omega)]
theorem V_add (f g : Nat → Nat) : ∀ k, V (fun i => f i + g i) k = V f k + V g k
  | 0 => rfl
  | k + 1 => by
    show V (fun i => f i + g i) k + (f k + g k) * 65536 ^ k = (V f k + f k * 65536 ^ k) + (V g k + g k * 65536 ^ k)
    rw [V_add f g k, Nat.add_mul]; omega
theorem V_lt {f : Nat → Nat} : ∀ k, (∀ i, i < k → f i < 65536) → V f k < 65536 ^ k
  | 0, _ => by simp [V]
  | k + 1, h => by
    have h1 := V_lt k (fun i hi => h i (by omega))
    have h2 : (f k + 1) * 65536 ^ k ≤ 65536 * 65536 ^ k := Nat.mul_le_mul_right _ (h k (by omega))
    show V f k + f k * 65536 ^ k < 65536 ^ (k + 1)
    rw [Nat.add_mul] at h2
    rw [Nat.pow_succ]; omega
theorem V_zero : ∀ k, V (fun _ => 0) k = 0
  | 0 => rfl
  | k + 1 => by show V (fun _ => 0) k + 0 * 65536 ^ k = 0; rw [V_zero k]; omega
/-- zeros above. -/
theorem V_more {f : Nat → Nat} {n : Nat} : ∀ k, n ≤ k → (∀ i, n ≤ i → i < k → f i = 0) → V f k = V f n
  | 0, hk, _ => by obtain rfl : n = 0 := by omega
                   rfl
  | k + 1, hk, h => by
    by_cases e : n = k + 1
    · rw [e]
    · show V f k + f k * 65536 ^ k = V f n
      rw [V_more k (by omega) (fun i a b => h i a (by omega)), h k (by omega) (by omega)]; omega
/-- one cell more. -/
theorem V_upd {f : Nat → Nat} (j a : Nat) : ∀ k, j < k → V (fun i => if i = j then f i + a else f i) k = V f k + a * 65536 ^ j
  | 0, h => by omega
  | k + 1, h => by
    show V (fun i => if i = j then f i + a else f i) k + (if k = j then f k + a else f k) * 65536 ^ k = V f k + f k * 65536 ^ k + a * 65536 ^ j
    by_cases e : k = j
    · subst e
      rw [if_pos rfl, V_congr (g := f) k (fun i hi => if_neg (by omega)), Nat.add_mul]; omega
    · rw [if_neg e, V_upd j a k (by omega)]; omega
/-! ### what is carried -/
def ov (g : Nat → Nat) : Nat → Nat
  | 0 => 0
  | k + 1 => (ov g k + g k) / 65536
def dg (g : Nat → Nat) (k : Nat) : Nat := (ov g k + g k) % 65536
theorem dg_lt (g : Nat → Nat) (k : Nat) : dg g k < 65536 := Nat.mod_lt _ (by omega)
theorem carried (g : Nat → Nat) : ∀ k, V (dg g) k + ov g k * 65536 ^ k = V g k
  | 0 => rfl
  | k + 1 => by
    have h := carried g k
    have hd := Nat.div_add_mod (ov g k + g k) 65536
    show V (dg g) k + (ov g k + g k) % 65536 * 65536 ^ k + (ov g k + g k) / 65536 * 65536 ^ (k + 1) = V g k + g k * 65536 ^ k
    rw [← h, Nat.pow_succ]
    generalize 65536 ^ k = p at *
    have e : (ov g k + g k) * p = ((ov g k + g k) / 65536) * (p * 65536) + (ov g k + g k) % 65536 * p := by
      have : (ov g k + g k) * p = (65536 * ((ov g k + g k) / 65536) + (ov g k + g k) % 65536) * p := by rw [hd]
      rw [this, Nat.add_mul, Nat.mul_comm p 65536, ← Nat.mul_assoc, Nat.mul_comm 65536 ((ov g k + g k) / 65536)]
    rw [Nat.add_mul] at e
    omega
theorem carried_mod (g : Nat → Nat) (k : Nat) : V (dg g) k = V g k % 65536 ^ k := by
  rw [← carried g k, Nat.add_mul_mod_self_right, Nat.mod_eq_of_lt (V_lt k (fun i _ => dg_lt g i))]
/-- what is carried on is small. -/
theorem ov_le {g : Nat → Nat} {m : Nat} (h : ∀ i, g i ≤ m) : ∀ k, ov g k ≤ m
  | 0 => Nat.zero_le _
  | k + 1 => by
    have h1 := ov_le h k
    have h2 := h k
    show (ov g k + g k) / 65536 ≤ m
    omega
/-! ### the digits of a number -/
def dgt (n i : Nat) : Nat := n / 65536 ^ i % 65536
theorem dgt_lt (n i : Nat) : dgt n i < 65536 := Nat.mod_lt _ (by omega)
theorem V_dgt (n : Nat) : ∀ k, V (dgt n) k = n % 65536 ^ k
  | 0 => by simp [V, Nat.mod_one]
  | k + 1 => by
    show V (dgt n) k + n / 65536 ^ k % 65536 * 65536 ^ k = n % 65536 ^ (k + 1)
    rw [V_dgt n k, Nat.pow_succ, Nat.mod_mul, Nat.mul_comm]
/-! ### which is less -/
theorem V_lt_of {f g : Nat → Nat} {i : Nat} (hf : ∀ j, j < i → f j < 65536) (hi : f i < g i) : ∀ k, i < k → (∀ j, i < j → j < k → f j = g j) → V f k < V g k
  | 0, h, _ => by omega
  | k + 1, h, he => by
    show V f k + f k * 65536 ^ k < V g k + g k * 65536 ^ k
    by_cases e : i = k
    · subst e
      have h1 := V_lt i hf
      have h2 : (f i + 1) * 65536 ^ i ≤ g i * 65536 ^ i := Nat.mul_le_mul_right _ hi
      rw [Nat.add_mul] at h2; omega
    · have h1 := V_lt_of hf hi k (by omega) (fun j a b => he j a (by omega))
      rw [he k (by omega) (by omega)]; omega
/-! ### two halves -/
def two (high low i : Nat) : Nat := if i < 4 then dgt low i else dgt high (i - 4)
theorem V_shift (f : Nat → Nat) (n : Nat) : ∀ k, V f (n + k) = V f n + V (fun i => f (n + i)) k * 65536 ^ n
  | 0 => by show V f n = V f n + 0 * 65536 ^ n; omega
  | k + 1 => by
    show V f (n + k) + f (n + k) * 65536 ^ (n + k) = V f n + (V (fun i => f (n + i)) k + f (n + k) * 65536 ^ k) * 65536 ^ n
    rw [V_shift f n k, Nat.add_mul, Nat.mul_assoc, ← Nat.pow_add, Nat.add_comm k n]; omega
theorem V_two (high low : Nat) (hh : high < 18446744073709551616) (hl : low < 18446744073709551616) : V (two high low) 8 = high * 18446744073709551616 + low := by
  have h1 : V (two high low) 4 = low := by
    rw [V_congr (f := two high low) (g := dgt low) 4 (fun i hi => if_pos hi), V_dgt]; exact Nat.mod_eq_of_lt hl
  have h2 : V (fun i => two high low (4 + i)) 4 = high := by
    rw [V_congr (f := fun i => two high low (4 + i)) (g := dgt high) 4 (fun i _ => by show (if 4 + i < 4 then _ else _) = _; rw [if_neg (by omega)]; congr 1; omega), V_dgt]; exact Nat.mod_eq_of_lt hh
  have h := V_shift (two high low) 4 4
  rw [h1, h2] at h
  rw [show (8 : Nat) = 4 + 4 from rfl, h]
  omega
end Go.Proofs.Ytgdgfcogmfhpcaa.Dig
