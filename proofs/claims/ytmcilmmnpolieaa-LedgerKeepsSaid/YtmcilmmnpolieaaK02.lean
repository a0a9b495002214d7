/- The stable sort's parts over arrays: exchanging two runs, rotating, merging two sorted runs, and sorted blocks: plain Lean, no program. Each theorem's premises are its conditions. -/
import Derived.Sort.LotA
/- The stable sort's parts over arrays: exchanging two runs, rotating, merging two sorted runs, and sorted blocks: plain Lean, no program. Each theorem's premises are its conditions. -/
namespace Go.Proofs.Ytmcilmmnpolieaa
open Go.Sort
variable {α : Type} [Inhabited α]

/-! ### two runs exchanged -/
def swapTo (d : Array α) (a b : Nat) : Nat → Array α
  | 0 => d
  | k + 1 => swp (swapTo d a b k) (a + k) (b + k)
theorem swapTo_size (d : Array α) (a b : Nat) : ∀ k, (swapTo d a b k).size = d.size
  | 0 => rfl
  | k + 1 => by rw [swapTo, size_swp, swapTo_size d a b k]
theorem swapTo_get (d : Array α) (a b n : Nat) (h : a + n ≤ b) (hb : b + n ≤ d.size) : ∀ k, k ≤ n → ∀ x, (swapTo d a b k)[x]! = if a ≤ x ∧ x < a + k then d[x - a + b]! else if b ≤ x ∧ x < b + k then d[x - b + a]! else d[x]! := by
  intro k
  induction k with
  | zero =>
    intro _ x
    rw [if_neg (by omega), if_neg (by omega)]
    rfl
  | succ k ih =>
    intro hk x
    have hs := swapTo_size d a b k
    rw [swapTo]
    by_cases h1 : x = a + k
    · subst h1
      rw [swp_left _ _ _ (by omega) (by omega), ih (by omega) (b + k), if_neg (by omega), if_neg (by omega), if_pos (by omega)]
      congr 1; omega
    · by_cases h2 : x = b + k
      · subst h2
        rw [swp_right _ _ _ (by omega), ih (by omega) (a + k), if_neg (by omega), if_neg (by omega), if_neg (by omega), if_pos (by omega)]
        congr 1; omega
      · rw [swp_other _ _ _ _ h1 h2, ih (by omega) x]
        by_cases h3 : a ≤ x ∧ x < a + k
        · rw [if_pos h3, if_pos (by omega)]
        · rw [if_neg h3]
          by_cases h4 : b ≤ x ∧ x < b + k
          · rw [if_pos h4, if_neg (by omega), if_pos (by omega)]
          · rw [if_neg h4, if_neg (by omega), if_neg (by omega)]
theorem swapTo_perm (d : Array α) (a b n lo hi : Nat) (hl : lo ≤ a) (h : a + n ≤ b) (hh : b + n ≤ hi) (hb : hi ≤ d.size) : ∀ k, k ≤ n → PermIn lo hi d (swapTo d a b k)
  | 0, _ => permIn_refl d lo hi
  | k + 1, hk => permIn_trans d (swapTo d a b k) _ lo hi (swapTo_perm d a b n lo hi hl h hh hb k (by omega)) (swp_permIn _ lo hi (a + k) (b + k) (by omega) (by omega) (by omega) (by omega) (by rw [swapTo_size]; exact hb))

/-! ### rotating -/
def rotf (d : Array α) (a m b x : Nat) : α := if a ≤ x ∧ x < a + (b - m) then d[x - a + m]! else if a + (b - m) ≤ x ∧ x < b then d[x - (b - m)]! else d[x]!
theorem rot_left {e : Array α} {m i j : Nat} (hi : i ≤ m) (hj : 0 < j) (hij : j < i) (hb : m + j ≤ e.size) (x : Nat) : rotf (swapTo e (m - i) m j) (m - (i - j)) m (m + j) x = rotf e (m - i) m (m + j) x := by
  have g := swapTo_get e (m - i) m j (by omega) hb j (Nat.le_refl _)
  unfold rotf
  rw [show m + j - m = j by omega]
  by_cases h1 : m - (i - j) ≤ x ∧ x < m - (i - j) + j
  · rw [if_pos h1, g, if_neg (by omega), if_pos (by omega)]
    by_cases h2 : m - i ≤ x ∧ x < m - i + j
    · exfalso; omega
    · rw [if_neg h2, if_pos (by omega)]
      congr 1; omega
  · rw [if_neg h1]
    by_cases h3 : m - (i - j) + j ≤ x ∧ x < m + j
    · rw [if_pos h3, g, if_neg (by omega), if_neg (by omega), if_neg (by omega), if_pos (by omega)]
    · rw [if_neg h3, g]
      by_cases h4 : m - i ≤ x ∧ x < m - i + j
      · rw [if_pos h4, if_pos h4]
      · rw [if_neg h4, if_neg h4, if_neg (by omega), if_neg (by omega)]
theorem rot_right {e : Array α} {m i j : Nat} (hi : i ≤ m) (h0 : 0 < i) (hij : i < j) (hb : m + j ≤ e.size) (x : Nat) : rotf (swapTo e (m - i) (m + j - i) i) (m - i) m (m + (j - i)) x = rotf e (m - i) m (m + j) x := by
  have g := swapTo_get e (m - i) (m + j - i) i (by omega) (by omega) i (Nat.le_refl _)
  unfold rotf
  rw [show m + (j - i) - m = j - i by omega, show m + j - m = j by omega]
  by_cases h1 : m - i ≤ x ∧ x < m - i + (j - i)
  · rw [if_pos h1, g, if_neg (by omega), if_neg (by omega), if_pos (by omega)]
  · rw [if_neg h1]
    by_cases h2 : m - i + (j - i) ≤ x ∧ x < m + (j - i)
    · rw [if_pos h2, g, if_pos (by omega), if_pos (by omega)]
      congr 1; omega
    · rw [if_neg h2, g]
      by_cases h3 : m + j - i ≤ x ∧ x < m + j - i + i
      · rw [if_neg (by omega), if_pos h3, if_neg (by omega), if_pos (by omega)]
        congr 1; omega
      · rw [if_neg (by omega), if_neg h3, if_neg (by omega), if_neg (by omega)]
theorem rot_last {e : Array α} {m i : Nat} (hi : i ≤ m) (hb : m + i ≤ e.size) (x : Nat) : (swapTo e (m - i) m i)[x]! = rotf e (m - i) m (m + i) x := by
  rw [swapTo_get e (m - i) m i (by omega) hb i (Nat.le_refl _)]
  unfold rotf
  rw [show m + i - m = i by omega]
  by_cases h1 : m - i ≤ x ∧ x < m - i + i
  · rw [if_pos h1, if_pos h1]
  · rw [if_neg h1, if_neg h1]
    by_cases h2 : m ≤ x ∧ x < m + i
    · rw [if_pos h2, if_pos (by omega)]
      congr 1; omega
    · rw [if_neg h2, if_neg (by omega)]
/-- d' is d with [a, m) and [m, b) exchanged. -/
def Rotated (a m b : Nat) (d d' : Array α) : Prop := PermIn a b d d' ∧ ∀ x, d'[x]! = rotf d a m b x

/-! ### merging -/
section
variable (lt : α → α → Bool)
def Merged (a b : Nat) (d d' : Array α) : Prop := PermIn a b d d' ∧ SortedIn lt a b d'
variable {lt}
theorem sort_le (hS : SWO lt) {d : Array α} {a b i j : Nat} (h : SortedIn lt a b d) (hi : a ≤ i) (hij : i ≤ j) (hj : j < b) : lt d[j]! d[i]! = false := by
  by_cases e : i = j
  · subst e; exact hS.irrefl _
  · exact h i j hi (by omega) hj
/-- a first one goes to its place among those behind it. -/
def shiftRight (d : Array α) (a : Nat) : Nat → Array α
  | 0 => d
  | k + 1 => swp (shiftRight d a k) (a + k) (a + k + 1)
theorem shiftRight_size (d : Array α) (a : Nat) : ∀ k, (shiftRight d a k).size = d.size
  | 0 => rfl
  | k + 1 => by rw [shiftRight, size_swp, shiftRight_size d a k]
theorem shiftRight_get (d : Array α) (a : Nat) : ∀ k, a + k < d.size → ∀ x, (shiftRight d a k)[x]! = if a ≤ x ∧ x < a + k then d[x + 1]! else if x = a + k then d[a]! else d[x]! := by
  intro k
  induction k with
  | zero =>
    intro _ x
    rw [if_neg (by omega)]
    by_cases e : x = a
    · rw [if_pos (by omega), e]; rfl
    · rw [if_neg (by omega)]; rfl
  | succ k ih =>
    intro hk x
    have hs := shiftRight_size d a k
    rw [shiftRight]
    by_cases h1 : x = a + k
    · subst h1
      rw [swp_left _ _ _ (by omega) (by omega), ih (by omega), if_neg (by omega), if_neg (by omega), if_pos (by omega)]
    · by_cases h2 : x = a + k + 1
      · subst h2
        rw [swp_right _ _ _ (by omega), ih (by omega), if_neg (by omega), if_pos rfl, if_neg (by omega), if_pos (by omega)]
      · rw [swp_other _ _ _ _ h1 h2, ih (by omega)]
        by_cases h3 : a ≤ x ∧ x < a + k
        · rw [if_pos h3, if_pos (by omega)]
        · rw [if_neg h3, if_neg h1, if_neg (by omega), if_neg (by omega)]
theorem shiftRight_perm (d : Array α) (a b : Nat) (hb : b ≤ d.size) : ∀ k, a + k < b → PermIn a b d (shiftRight d a k)
  | 0, _ => permIn_refl d a b
  | k + 1, hk => permIn_trans d (shiftRight d a k) _ a b (shiftRight_perm d a b hb k (by omega)) (swp_permIn _ a b (a + k) (a + k + 1) (by omega) (by omega) (by omega) (by omega) (by rw [shiftRight_size]; exact hb))
theorem merge_first (hS : SWO lt) {d : Array α} {a b i : Nat} (hb : b ≤ d.size) (h2 : SortedIn lt (a + 1) b d) (hi : a + 1 ≤ i) (hib : i ≤ b) (hl : ∀ c, a + 1 ≤ c → c < i → lt d[c]! d[a]! = true) (hr : ∀ c, i ≤ c → c < b → lt d[c]! d[a]! = false) :
    Merged lt a b d (shiftRight d a (i - 1 - a)) := by
  refine ⟨shiftRight_perm d a b hb _ (by omega), fun x y hx hxy hy => ?_⟩
  have g := shiftRight_get d a (i - 1 - a) (by omega)
  have asym : ∀ u v, lt u v = true → lt v u = false := fun u v h => by
    cases e : lt v u with
    | false => rfl
    | true => have := hS.trans _ _ _ h e; rw [hS.irrefl] at this; cases this
  rw [g, g, show a + (i - 1 - a) = i - 1 by omega]
  by_cases hx1 : x < i - 1
  · rw [if_pos (c := a ≤ x ∧ x < i - 1) ⟨hx, hx1⟩]
    by_cases hy1 : y < i - 1
    · rw [if_pos (by omega)]; exact h2 _ _ (by omega) (by omega) (by omega)
    · rw [if_neg (by omega)]
      by_cases hy2 : y = i - 1
      · rw [if_pos hy2]; exact asym _ _ (hl (x + 1) (by omega) (by omega))
      · rw [if_neg hy2]; exact h2 _ _ (by omega) (by omega) hy
  · rw [if_neg (by omega)]
    by_cases hx2 : x = i - 1
    · rw [if_pos hx2, if_neg (by omega), if_neg (by omega)]; exact hr y (by omega) hy
    · rw [if_neg hx2, if_neg (by omega), if_neg (by omega)]; exact h2 _ _ (by omega) hxy hy
/-- a last one goes to its place among those ahead of it. -/
def shiftLeft (d : Array α) (m : Nat) : Nat → Array α
  | 0 => d
  | k + 1 => swp (shiftLeft d m k) (m - k) (m - k - 1)
theorem shiftLeft_size (d : Array α) (m : Nat) : ∀ k, (shiftLeft d m k).size = d.size
  | 0 => rfl
  | k + 1 => by rw [shiftLeft, size_swp, shiftLeft_size d m k]
theorem shiftLeft_get (d : Array α) (m : Nat) (hm : m < d.size) : ∀ k, k ≤ m → ∀ x, (shiftLeft d m k)[x]! = if m - k < x ∧ x ≤ m then d[x - 1]! else if x = m - k then d[m]! else d[x]! := by
  intro k
  induction k with
  | zero =>
    intro _ x
    rw [if_neg (by omega)]
    by_cases e : x = m
    · rw [if_pos (by omega), e]; rfl
    · rw [if_neg (by omega)]; rfl
  | succ k ih =>
    intro hk x
    have hs := shiftLeft_size d m k
    rw [shiftLeft]
    by_cases h1 : x = m - k
    · subst h1
      rw [swp_left _ _ _ (by omega) (by omega), ih (by omega), if_neg (by omega), if_neg (by omega), if_pos (by omega)]
    · by_cases h2 : x = m - k - 1
      · subst h2
        rw [swp_right _ _ _ (by omega), ih (by omega), if_neg (by omega), if_pos rfl, if_neg (by omega), if_pos (by omega)]
      · rw [swp_other _ _ _ _ h1 h2, ih (by omega)]
        by_cases h3 : m - k < x ∧ x ≤ m
        · rw [if_pos h3, if_pos (by omega)]
        · rw [if_neg h3, if_neg h1, if_neg (by omega), if_neg (by omega)]
theorem shiftLeft_perm (d : Array α) (a m : Nat) (hm : m < d.size) : ∀ k, a + k ≤ m → PermIn a (m + 1) d (shiftLeft d m k)
  | 0, _ => permIn_refl d a (m + 1)
  | k + 1, hk => permIn_trans d (shiftLeft d m k) _ a (m + 1) (shiftLeft_perm d a m hm k (by omega)) (swp_permIn _ a (m + 1) (m - k) (m - k - 1) (by omega) (by omega) (by omega) (by omega) (by rw [shiftLeft_size]; omega))
theorem merge_last (hS : SWO lt) {d : Array α} {a m i : Nat} (hm : m < d.size) (h1 : SortedIn lt a m d) (hi : a ≤ i) (him : i ≤ m) (hl : ∀ c, a ≤ c → c < i → lt d[m]! d[c]! = false) (hr : ∀ c, i ≤ c → c < m → lt d[m]! d[c]! = true) :
    Merged lt a (m + 1) d (shiftLeft d m (m - i)) := by
  refine ⟨shiftLeft_perm d a m hm _ (by omega), fun x y hx hxy hy => ?_⟩
  have g := shiftLeft_get d m hm (m - i) (by omega)
  have asym : ∀ u v, lt u v = true → lt v u = false := fun u v h => by
    cases e : lt v u with
    | false => rfl
    | true => have := hS.trans _ _ _ h e; rw [hS.irrefl] at this; cases this
  rw [g, g, show m - (m - i) = i by omega]
  by_cases hx1 : x < i
  · rw [if_neg (c := i < x ∧ x ≤ m) (by omega), if_neg (c := x = i) (by omega)]
    by_cases hy1 : y < i
    · rw [if_neg (by omega), if_neg (by omega)]; exact h1 _ _ hx hxy (by omega)
    · by_cases hy2 : y = i
      · rw [if_neg (by omega), if_pos hy2]; exact hl x hx hx1
      · rw [if_pos (by omega)]; exact h1 _ _ hx (by omega) (by omega)
  · by_cases hx2 : x = i
    · rw [if_neg (c := i < x ∧ x ≤ m) (by omega), if_pos hx2, if_pos (by omega)]; exact asym _ _ (hr (y - 1) (by omega) (by omega))
    · rw [if_pos (c := i < x ∧ x ≤ m) (by omega), if_pos (by omega)]; exact h1 _ _ (by omega) (by omega) (by omega)
/-- two halves, each sorted, no one of the second less than one of the first. -/
theorem sorted_join {d : Array α} {a m b : Nat} (h1 : SortedIn lt a m d) (h2 : SortedIn lt m b d) (h : ∀ x y, a ≤ x → x < m → m ≤ y → y < b → lt d[y]! d[x]! = false) : SortedIn lt a b d := by
  intro x y hx hxy hy
  by_cases h3 : y < m
  · exact h1 x y hx hxy h3
  · by_cases h4 : m ≤ x
    · exact h2 x y h4 hxy hy
    · exact h x y hx (by omega) (by omega) hy
/-- behind the rotation: d' holds A1 B1 A2 B2; M is where B1 ends. -/
structure Parted (lt : α → α → Bool) (a s M e b : Nat) (d : Array α) : Prop where
  a1 : SortedIn lt a s d
  b1 : SortedIn lt s M d
  a2 : SortedIn lt M e d
  b2 : SortedIn lt e b d
  low : ∀ x y, a ≤ x → x < M → M ≤ y → y < b → lt d[y]! d[x]! = false
theorem parted_of (hS : SWO lt) {d d' : Array α} {a m b s : Nat} (h1 : SortedIn lt a m d) (h2 : SortedIn lt m b d) (hr : Rotated s m ((a + b) / 2 + m - s) d d')
    (k1 : a ≤ s) (k2 : s ≤ m) (k3 : s ≤ (a + b) / 2) (k4 : (a + b) / 2 + m - s ≤ b) (k5 : m ≤ (a + b) / 2 + m - s)
    (hl : ∀ c, a ≤ c → (a + b) / 2 + m ≤ c + b → c < s → lt d[(a + b) / 2 + m - 1 - c]! d[c]! = false)
    (hg : ∀ c, s ≤ c → c < m → c < (a + b) / 2 → lt d[(a + b) / 2 + m - 1 - c]! d[c]! = true)
    (hst : s = a ∨ (a + b) / 2 + m - s = b ∨ (a < s ∧ (a + b) / 2 + m < s + b)) :
    Parted lt a s ((a + b) / 2) ((a + b) / 2 + m - s) b d' := by
  obtain ⟨_, g⟩ := hr
  generalize hM : (a + b) / 2 = M at *
  have g0 : ∀ x, x < s → d'[x]! = d[x]! := fun x hx => by rw [g]; unfold rotf; rw [if_neg (by omega), if_neg (by omega)]
  have g1 : ∀ x, s ≤ x → x < M → d'[x]! = d[x - s + m]! := fun x h h' => by rw [g]; unfold rotf; rw [if_pos (by omega)]
  have g2 : ∀ x, M ≤ x → x < M + m - s → d'[x]! = d[x - (M - s)]! := fun x h h' => by
    rw [g]; unfold rotf; rw [if_neg (by omega), if_pos (by omega)]; congr 1; omega
  have g3 : ∀ x, M + m - s ≤ x → d'[x]! = d[x]! := fun x h => by rw [g]; unfold rotf; rw [if_neg (by omega), if_neg (by omega)]
  have asym : ∀ u v, lt u v = true → lt v u = false := fun u v h => by
    cases e : lt v u with
    | false => rfl
    | true => have := hS.trans _ _ _ h e; rw [hS.irrefl] at this; cases this
  refine ⟨fun x y hx hxy hy => ?_, fun x y hx hxy hy => ?_, fun x y hx hxy hy => ?_, fun x y hx hxy hy => ?_, fun x y hx hxM hy hyb => ?_⟩
  · rw [g0 x (by omega), g0 y hy]; exact h1 _ _ hx hxy (by omega)
  · rw [g1 x hx (by omega), g1 y (by omega) hy]; exact h2 _ _ (by omega) (by omega) (by omega)
  · rw [g2 x hx (by omega), g2 y (by omega) hy]; exact h1 _ _ (by omega) (by omega) (by omega)
  · rw [g3 x hx, g3 y (by omega)]; exact h2 _ _ (by omega) hxy hy
  · by_cases hxs : x < s
    · rw [g0 x hxs]
      by_cases hye : y < M + m - s
      · rw [g2 y hy hye]; exact sort_le hS h1 hx (by omega) (by omega)
      · rw [g3 y (by omega)]
        -- the last of A1 is no more than the first of B2
        rcases hst with h | h | ⟨hs1, hs2⟩
        · omega
        · omega
        · have e1 := hl (s - 1) (by omega) (by omega) (by omega)
          rw [show M + m - 1 - (s - 1) = M + m - s by omega] at e1
          have e2 := sort_le hS h1 (i := x) (j := s - 1) hx (by omega) (by omega)
          have e3 := sort_le hS h2 (i := M + m - s) (j := y) (by omega) (by omega) hyb
          exact hS.ntrans _ _ _ e3 (hS.ntrans _ _ _ e1 e2)
    · rw [g1 x (by omega) hxM]
      by_cases hye : y < M + m - s
      · rw [g2 y hy hye]
        -- the last of B1 is less than the first of A2
        have e1 := asym _ _ (hg s (Nat.le_refl _) (by omega) (by omega))
        have e2 := sort_le hS h2 (i := x - s + m) (j := M + m - 1 - s) (by omega) (by omega) (by omega)
        have e3 := sort_le hS h1 (i := s) (j := y - (M - s)) (by omega) (by omega) (by omega)
        exact hS.ntrans _ _ _ e3 (hS.ntrans _ _ _ e1 e2)
      · rw [g3 y (by omega)]; exact sort_le hS h2 (by omega) (by omega) hyb
/-- both halves merged: all is. -/
theorem merged_of {d d1 d2 d3 : Array α} {a s M e b : Nat} (hb : b ≤ d.size) (hM : a ≤ M) (hMb : M ≤ b) (h0 : PermIn a b d d1) (hp : Parted lt a s M e b d1) (h1 : PermIn a M d1 d2) (o1 : SortedIn lt a M d2) (h2 : PermIn M b d2 d3) (o2 : SortedIn lt M b d3) : Merged lt a b d d3 := by
  have z1 : d1.size = d.size := h0.1
  have z2 : d2.size = d1.size := h1.1
  refine ⟨permIn_trans _ _ _ a b h0 (permIn_trans _ _ _ a b (permIn_mono d1 d2 a M a b (Nat.le_refl _) hMb (by omega) h1) (permIn_mono d2 d3 M b a b hM (Nat.le_refl _) (by omega) h2)), ?_⟩
  refine sorted_join (m := M) (fun x y hx hxy hy => ?_) o2 (fun x y hx hxM hy hyb => ?_)
  · rw [h2.2.1 x (.inl (by omega)), h2.2.1 y (.inl hy)]; exact o1 x y hx hxy hy
  · rw [h2.2.1 x (.inl hxM)]
    -- y's element is one of d2's (so of d1's) behind M; x's one of d1's ahead of it
    refine permIn_all d2 d3 M b (fun v => lt v d2[x]! = false) (by omega) h2 (fun y' hy' hyb' => ?_) y hy hyb
    rw [h1.2.1 y' (.inr hy')]
    exact permIn_all d1 d2 a M (fun v => lt d1[y']! v = false) (by omega) h1 (fun x' hx' hxM' => hp.low x' y' hx' hxM' hy' hyb') x hx hxM

/-! ### sorted blocks -/
/-- each block of bs is sorted, as far as n. -/
def Blocks (lt : α → α → Bool) (bs n : Nat) (d : Array α) : Prop := ∀ i j, i < j → j < n → i / bs = j / bs → lt d[j]! d[i]! = false
theorem first_step {d d' : Array α} {a b k : Nat} (ha : a = 20 * k) (hb : b = a + 20) (h : Blocks lt 20 a d) (hp : PermIn a b d d') (hs : SortedIn lt a b d') : Blocks lt 20 b d' := by
  intro i j hij hj he
  by_cases h1 : j < a
  · rw [hp.2.1 i (.inl (by omega)), hp.2.1 j (.inl h1)]; exact h i j hij h1 he
  · exact hs i j (by omega) hij hj
theorem first_end {d d' : Array α} {a n k : Nat} (ha : a = 20 * k) (hn : n < a + 20) (h : Blocks lt 20 a d) (hp : PermIn a n d d') (hs : SortedIn lt a n d') : Blocks lt 20 n d' := by
  intro i j hij hj he
  by_cases h1 : j < a
  · rw [hp.2.1 i (.inl (by omega)), hp.2.1 j (.inl h1)]; exact h i j hij h1 he
  · exact hs i j (by omega) hij hj
/-- the blocks ahead of a are merged in pairs, those behind it are not yet. -/
def Half (lt : α → α → Bool) (bs n a : Nat) (d : Array α) : Prop := Blocks lt (2 * bs) a d ∧ ∀ i j, i < j → j < n → a ≤ i → i / bs = j / bs → lt d[j]! d[i]! = false
theorem half_start {bs n : Nat} {d : Array α} (h : Blocks lt bs n d) : Half lt bs n 0 d := ⟨fun i j _ hj => by omega, fun i j hij hj _ he => h i j hij hj he⟩
theorem half_run1 {bs n a k : Nat} {d : Array α} (hbs : bs = 20 ∨ bs = 40) (ha : a = 2 * bs * k) (hn : a + bs ≤ n) (h : Half lt bs n a d) : SortedIn lt a (a + bs) d := fun i j hi hij hj => h.2 i j hij (by omega) hi (by rcases hbs with rfl | rfl <;> omega)
theorem half_run2 {bs n a b k : Nat} {d : Array α} (hbs : bs = 20 ∨ bs = 40) (ha : a = 2 * bs * k) (hb : b ≤ a + 2 * bs) (hn : b ≤ n) (h : Half lt bs n a d) : SortedIn lt (a + bs) b d := fun i j hi hij hj => h.2 i j hij (by omega) (by omega) (by rcases hbs with rfl | rfl <;> omega)
theorem half_step {bs n a b k : Nat} {d d' : Array α} (hbs : bs = 20 ∨ bs = 40) (ha : a = 2 * bs * k) (hb : b = a + 2 * bs) (h : Half lt bs n a d) (hm : Merged lt a b d d') : Half lt bs n b d' := by
  obtain ⟨hp, hs⟩ := hm
  refine ⟨fun i j hij hj he => ?_, fun i j hij hj hi he => ?_⟩
  · by_cases h1 : j < a
    · rw [hp.2.1 i (.inl (by omega)), hp.2.1 j (.inl h1)]; exact h.1 i j hij h1 he
    · exact hs i j (by rcases hbs with rfl | rfl <;> omega) hij hj
  · rw [hp.2.1 i (.inr hi), hp.2.1 j (.inr (by omega))]; exact h.2 i j hij hj (by omega) he
theorem half_end {bs n a k : Nat} {d d' : Array α} (hbs : bs = 20 ∨ bs = 40) (ha : a = 2 * bs * k) (hn : n < a + 2 * bs) (h : Half lt bs n a d) (hm : Merged lt a n d d') : Blocks lt (2 * bs) n d' := by
  obtain ⟨hp, hs⟩ := hm
  intro i j hij hj he
  by_cases h1 : j < a
  · rw [hp.2.1 i (.inl (by omega)), hp.2.1 j (.inl h1)]; exact h.1 i j hij h1 he
  · exact hs i j (by rcases hbs with rfl | rfl <;> omega) hij hj
theorem half_rest {bs n a k : Nat} {d : Array α} (hbs : bs = 20 ∨ bs = 40) (ha : a = 2 * bs * k) (hn : n ≤ a + bs) (h : Half lt bs n a d) : Blocks lt (2 * bs) n d := by
  intro i j hij hj he
  by_cases h1 : j < a
  · exact h.1 i j hij h1 he
  · exact h.2 i j hij hj (by rcases hbs with rfl | rfl <;> omega) (by rcases hbs with rfl | rfl <;> omega)
theorem blocks_all {bs n : Nat} {d : Array α} (hn : n ≤ bs) (h : Blocks lt bs n d) : SortedIn lt 0 n d := fun i j _ hij hj => h i j hij hj (by rw [Nat.div_eq_of_lt (by omega), Nat.div_eq_of_lt (by omega)])
end
end Go.Proofs.Ytmcilmmnpolieaa
