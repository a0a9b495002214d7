/- The greatest of all pairs is what trace's one walk finds; the widest pair: plain numbers, no program. Each theorem's premises are its conditions. -/
import Derived.Test.YtfpifaccjfgfkaaTraceAllLaw
namespace Go.Proofs.Ytfpifaccjfgfkaa

theorem mem_vd {ts : List VC} {c : VC} (h : c ∈ ts) : ∃ j, j < ts.length ∧ c = ts.getD j default := by
  obtain ⟨j, hj, rfl⟩ := List.mem_iff_getElem.1 h
  exact ⟨j, hj, (get_vd hj).symm⟩
theorem vd_mem {ts : List VC} {j : Nat} (hj : j < ts.length) : ts.getD j default ∈ ts := by rw [get_vd hj]; exact List.getElem_mem hj
/-- what is said of a pair: both are the server's, the second begins no earlier. -/
def PairOk (s : Int) (ys : List VC) (i k : Nat) : Prop := (ys.getD i default).1.sv = s ∧ (ys.getD k default).1.sv = s ∧ (ys.getD i default).1.fr ≤ (ys.getD k default).1.fr
/-- what lies in the window from one's From to another's To. -/
def winV (s : Int) (ys : List VC) (i k : Nat) : Int := sumOf (fun c => inWin (ys.getD i default).1.fr (ys.getD k default).1.to c.1) (ofServer s ys)
def pairV (q t s : Int) (ys : List VC) (i k : Nat) : Int := t * winV s ys i k - q * ((ys.getD k default).1.to - (ys.getD i default).1.fr)
/-- X is the greatest of all pairs; 0 where there is none. -/
def Best (q t s : Int) (ys : List VC) (X : Int) : Prop :=
  (∀ i k, i < ys.length → k < ys.length → PairOk s ys i k → pairV q t s ys i k ≤ X) ∧ ((∃ i k, i < ys.length ∧ k < ys.length ∧ PairOk s ys i k ∧ X = pairV q t s ys i k) ∨ ((∀ i, i < ys.length → (ys.getD i default).1.sv ≠ s) ∧ X = 0))
theorem best_one {q t s : Int} {ys : List VC} {X Y : Int} (hx : Best q t s ys X) (hy : Best q t s ys Y) : X = Y := by
  obtain ⟨a1, a2⟩ := hx
  obtain ⟨b1, b2⟩ := hy
  rcases a2 with ⟨i, k, hi, hk, hp, rfl⟩ | ⟨hn, rfl⟩
  · rcases b2 with ⟨i', k', hi', hk', hp', rfl⟩ | ⟨hn, _⟩
    · exact Int.le_antisymm (b1 i k hi hk hp) (a1 i' k' hi' hk' hp')
    · exact absurd hp.1 (hn i hi)
  · rcases b2 with ⟨i', k', hi', hk', hp', rfl⟩ | ⟨_, rfl⟩
    · exact absurd hp'.1 (hn i' hi')
    · rfl
theorem sum_congr {f g : VC → Int} : ∀ l : List VC, (∀ c ∈ l, f c = g c) → sumOf f l = sumOf g l
  | [], _ => rfl
  | c :: l, h => by rw [sumOf, sumOf, h c (List.mem_cons_self ..), sum_congr l (fun x hx => h x (List.mem_cons_of_mem _ hx))]
theorem sum_zero {f : VC → Int} : ∀ l : List VC, (∀ c ∈ l, f c = 0) → sumOf f l = 0
  | [], _ => rfl
  | c :: l, h => by rw [sumOf, h c (List.mem_cons_self ..), sum_zero l (fun x hx => h x (List.mem_cons_of_mem _ hx))]; rfl
theorem sum_nonneg' (f : VC → Int) (h : ∀ x, 0 ≤ f x) : ∀ l : List VC, 0 ≤ sumOf f l
  | [] => Int.le_refl _
  | c :: l => by rw [sumOf]; have := h c; have := sum_nonneg' f h l; omega
theorem way_pos (c : VC) : c.1.fr < c.1.to := by obtain ⟨_, _, _, _, _, _, _, h, _⟩ := c.2; exact h
theorem win_own {ts : List VC} (hc : Chain ts) {k : Nat} (hk : k < ts.length) : sumOf (fun c => inWin (ts.getD k default).1.fr (ts.getD k default).1.to c.1) ts = (ts.getD k default).1.n := by
  have split : ts = ts.take k ++ ([ts.getD k default] ++ ts.drop (k + 1)) := by
    rw [get_vd hk]
    simp
  have h1 : sumOf (fun c => inWin (ts.getD k default).1.fr (ts.getD k default).1.to c.1) (ts.take k) = 0 := sum_zero _ fun c hm => by
    obtain ⟨j, hj, rfl⟩ := List.mem_iff_getElem.1 hm
    have hj' : j < k := by rw [List.length_take] at hj; omega
    rw [List.getElem_take, ← get_vd (by omega)]
    have := hc j k hj' hk
    have := way_pos (ts.getD j default)
    refine in_not fun h => ?_
    obtain ⟨z1, z2⟩ := h
    omega
  have h2 : sumOf (fun c => inWin (ts.getD k default).1.fr (ts.getD k default).1.to c.1) (ts.drop (k + 1)) = 0 := sum_zero _ fun c hm => by
    obtain ⟨j, hj, rfl⟩ := List.mem_iff_getElem.1 hm
    have hj' : k + 1 + j < ts.length := by rw [List.length_drop] at hj; omega
    rw [List.getElem_drop, ← get_vd hj']
    have := hc k (k + 1 + j) (by omega) hj'
    have := way_pos (ts.getD (k + 1 + j) default)
    refine in_not fun h => ?_
    obtain ⟨z1, z2⟩ := h
    omega
  have h3 : inWin (ts.getD k default).1.fr (ts.getD k default).1.to (ts.getD k default).1 = (ts.getD k default).1.n := in_ins ⟨Int.le_refl _, Int.le_refl _⟩
  generalize ts.getD k default = x at *
  rw [split, sumOf_app, sumOf_app, h1, h2]
  show 0 + (inWin x.1.fr x.1.to x.1 + 0 + 0) = _
  rw [h3]
  omega
theorem win_next {ts : List VC} (hc : Chain ts) {a k : Nat} (ha : a ≤ k) (hk : k + 1 < ts.length) :
    sumOf (fun c => inWin (ts.getD a default).1.fr (ts.getD (k + 1) default).1.to c.1) ts = sumOf (fun c => inWin (ts.getD a default).1.fr (ts.getD k default).1.to c.1) ts + (ts.getD (k + 1) default).1.n := by
  rw [← win_own hc hk, ← sumOf_add]
  refine sum_congr _ fun c hm => ?_
  obtain ⟨j, hj, rfl⟩ := mem_vd hm
  have p1 := way_pos (ts.getD j default)
  have p2 := way_pos (ts.getD (k + 1) default)
  have p3 := way_pos (ts.getD a default)
  have p4 := way_pos (ts.getD k default)
  have c1 := hc k (k + 1) (by omega) hk
  have c2 : (ts.getD a default).1.fr ≤ (ts.getD k default).1.fr := by
    by_cases e : a = k
    · rw [e]; exact Int.le_refl _
    · have := hc a k (by omega) (by omega)
      omega
  by_cases h1 : j = k + 1
  · subst h1
    unfold inWin
    rw [if_neg (by omega), if_pos (by omega), if_neg (by omega)]
    omega
  · by_cases h2 : j ≤ k
    · have c3 : (ts.getD j default).1.to ≤ (ts.getD k default).1.to := by
        by_cases e : j = k
        · rw [e]; exact Int.le_refl _
        · have := hc j k (by omega) (by omega)
          omega
      unfold inWin
      by_cases h3 : (ts.getD j default).1.fr < (ts.getD a default).1.fr
      · rw [if_pos (by omega), if_pos (by omega), if_pos (by omega)]; rfl
      · rw [if_neg (by omega), if_neg (by omega), if_pos (by omega)]; omega
    · have c3 := hc (k + 1) j (by omega) hj
      unfold inWin
      rw [if_pos (by omega), if_pos (by omega), if_pos (by omega)]; rfl
/-- the sum of the pair of the sorted ones. -/
def runV (q t : Int) (ts : List VC) (a k : Nat) : Int := t * sumOf (fun c => inWin (ts.getD a default).1.fr (ts.getD k default).1.to c.1) ts - q * ((ts.getD k default).1.to - (ts.getD a default).1.fr)
theorem run_own {q t : Int} {ts : List VC} (hc : Chain ts) {k : Nat} (hk : k < ts.length) : runV q t ts k k = ownOf q t (ts.getD k default).1 := by
  unfold runV ownOf
  rw [win_own hc hk]
theorem run_next {q t : Int} {ts : List VC} (hc : Chain ts) {a k : Nat} (ha : a ≤ k) (hk : k + 1 < ts.length) :
    runV q t ts a (k + 1) = runV q t ts a k + ownOf q t (ts.getD (k + 1) default).1 - q * ((ts.getD (k + 1) default).1.fr - (ts.getD k default).1.to) := by
  unfold runV ownOf
  rw [win_next hc ha hk, Int.mul_add]
  generalize t * sumOf (fun c => inWin (ts.getD a default).1.fr (ts.getD k default).1.to c.1) ts = x
  generalize t * (ts.getD (k + 1) default).1.n = y
  generalize (ts.getD (k + 1) default).1.to = T1
  generalize (ts.getD (k + 1) default).1.fr = F1
  generalize (ts.getD k default).1.to = T0
  generalize (ts.getD a default).1.fr = F0
  have e : q * (T1 - F0) = q * (T1 - F1) + q * (F1 - T0) + q * (T0 - F0) := by rw [← Int.mul_add, ← Int.mul_add]; congr 1; omega
  rw [e]
  generalize q * (T1 - F1) = z1
  generalize q * (F1 - T0) = z2
  generalize q * (T0 - F0) = z3
  omega
theorem exc_met (q t : Int) (ts : List VC) (hc : Chain ts) : ∀ k, k < ts.length →
    (∃ a, a ≤ k ∧ (excAt q t ts (k + 1)).2 = runV q t ts a k) ∧ ∃ a b, a ≤ b ∧ b ≤ k ∧ (excAt q t ts (k + 1)).1 = runV q t ts a b := by
  intro k
  induction k with
  | zero =>
    intro hk
    have e : excAt q t ts 1 = (ownOf q t (ts.getD 0 default).1, ownOf q t (ts.getD 0 default).1) := by simp [excAt]
    rw [e]
    exact ⟨⟨0, Nat.le_refl _, (run_own hc hk).symm⟩, 0, 0, Nat.le_refl _, Nat.le_refl _, (run_own hc hk).symm⟩
  | succ k ih =>
    intro hk
    obtain ⟨⟨a, ha, e1⟩, a', b', hab, hb, e2⟩ := ih (by omega)
    have r2 : ∃ x, x ≤ k + 1 ∧ (excAt q t ts (k + 1 + 1)).2 = runV q t ts x (k + 1) := by
      rw [excAt]
      simp only [Nat.add_one_ne_zero, if_false, Nat.add_sub_cancel]
      rw [e1, ← run_next hc ha hk, ← run_own hc hk]
      by_cases hm : runV q t ts a (k + 1) ≤ runV q t ts (k + 1) (k + 1)
      · exact ⟨k + 1, Nat.le_refl _, by omega⟩
      · exact ⟨a, by omega, by omega⟩
    refine ⟨r2, ?_⟩
    obtain ⟨x, hx, e3⟩ := r2
    have e4 : (excAt q t ts (k + 1 + 1)).1 = max (excAt q t ts (k + 1)).1 (excAt q t ts (k + 1 + 1)).2 := by
      rw [excAt]
      simp only [Nat.add_one_ne_zero, if_false]
    rw [e4, e3, e2]
    by_cases hm : runV q t ts a' b' ≤ runV q t ts x (k + 1)
    · exact ⟨x, k + 1, hx, Nat.le_refl _, by omega⟩
    · exact ⟨a', b', hab, by omega, by omega⟩
/-- the server's charges, sorted: each stands at a place of the unsorted. -/
theorem perm_at {ys ts : List VC} {s : Int} (hp : ts.Perm (ofServer s ys)) {j : Nat} (hj : j < ts.length) : ∃ i, i < ys.length ∧ ys.getD i default = ts.getD j default ∧ (ys.getD i default).1.sv = s := by
  have h1 := (hp.mem_iff).1 (vd_mem hj)
  unfold ofServer at h1
  rw [List.mem_filter] at h1
  obtain ⟨i, hi, e⟩ := mem_vd h1.1
  exact ⟨i, hi, e.symm, by rw [← e]; simpa using h1.2⟩
theorem at_perm {ys ts : List VC} {s : Int} (hp : ts.Perm (ofServer s ys)) {i : Nat} (hi : i < ys.length) (hs : (ys.getD i default).1.sv = s) : ∃ j, j < ts.length ∧ ys.getD i default = ts.getD j default := by
  have h1 : ys.getD i default ∈ ofServer s ys := by
    unfold ofServer
    rw [List.mem_filter]
    exact ⟨vd_mem hi, by simpa using hs⟩
  exact mem_vd ((hp.mem_iff).2 h1)
theorem best_exc {q t s : Int} {ys ts : List VC} (hq : 0 ≤ q) (hc : Calm (ys.map (·.1))) (hp : ts.Perm (ofServer s ys)) (hu : Ups ts) : Best q t s ys (excAt q t ts ts.length).1 := by
  have ch := chain_of hc hp hu
  have win : ∀ f e : Int, sumOf (fun c => inWin f e c.1) (ofServer s ys) = sumOf (fun c => inWin f e c.1) ts := fun f e => (sumOf_perm hp).symm
  refine ⟨fun i k hi hk ⟨h1, h2, h3⟩ => ?_, ?_⟩
  · obtain ⟨a, ha, ea⟩ := at_perm hp hi h1
    obtain ⟨b, hb, eb⟩ := at_perm hp hk h2
    unfold pairV winV
    rw [ea, eb] at h3 ⊢
    have hins : Ins (ts.getD a default).1.fr (ts.getD b default).1.to (ts.getD a default) := by
      refine ⟨Int.le_refl _, ?_⟩
      rcases Nat.lt_trichotomy a b with h | h | h
      · have := ch a b h hb
        have := way_pos (ts.getD b default)
        omega
      · rw [h]; exact Int.le_refl _
      · have := ch b a h ha
        have := way_pos (ts.getD b default)
        omega
    obtain ⟨_, g, _⟩ := exc_law q t ts hq ch (ts.getD a default).1.fr (ts.getD b default).1.to ts.length (Nat.le_refl _)
    have := g ⟨a, ha, hins⟩
    have hp' : pre (ts.getD a default).1.fr (ts.getD b default).1.to ts ts.length = sumOf (fun c => inWin (ts.getD a default).1.fr (ts.getD b default).1.to c.1) ts := by unfold pre; rw [List.take_length]
    rw [hp'] at this
    rw [win]
    exact this
  · by_cases h0 : ts = []
    · right
      subst h0
      refine ⟨fun i hi hs => ?_, rfl⟩
      obtain ⟨j, hj, _⟩ := at_perm hp hi hs
      simp at hj
    · left
      have hl : 0 < ts.length := List.length_pos_iff.2 h0
      obtain ⟨_, a, b, hab, hb, e⟩ := exc_met q t ts ch (ts.length - 1) (by omega)
      rw [show ts.length - 1 + 1 = ts.length by omega] at e
      obtain ⟨i, hi, ei, si⟩ := perm_at hp (j := a) (by omega)
      obtain ⟨k, hk, ek, sk⟩ := perm_at hp (j := b) (by omega)
      refine ⟨i, k, hi, hk, ⟨si, sk, ?_⟩, ?_⟩
      · rw [ei, ek]
        by_cases hx : a = b
        · rw [hx]; exact Int.le_refl _
        · have := ch a b (by omega) (by omega)
          have := way_pos (ts.getD a default)
          omega
      · unfold pairV winV
        rw [ei, ek, win]
        exact e
/-- X is the widest of all pairs of the server; 0 where none is wider. -/
def Widest (s : Int) (ys : List VC) (X : Int) : Prop :=
  0 ≤ X ∧ (∀ i k, i < ys.length → k < ys.length → (ys.getD i default).1.sv = s → (ys.getD k default).1.sv = s → (ys.getD k default).1.to - (ys.getD i default).1.fr ≤ X) ∧
  (X = 0 ∨ ∃ i k, i < ys.length ∧ k < ys.length ∧ (ys.getD i default).1.sv = s ∧ (ys.getD k default).1.sv = s ∧ X = (ys.getD k default).1.to - (ys.getD i default).1.fr)
theorem widest_one {s : Int} {ys : List VC} {X Y : Int} (hx : Widest s ys X) (hy : Widest s ys Y) : X = Y := by
  obtain ⟨a0, a1, a2⟩ := hx
  obtain ⟨b0, b1, b2⟩ := hy
  apply Int.le_antisymm
  · rcases a2 with rfl | ⟨i, k, hi, hk, h1, h2, rfl⟩
    · exact b0
    · exact b1 i k hi hk h1 h2
  · rcases b2 with rfl | ⟨i, k, hi, hk, h1, h2, rfl⟩
    · exact a0
    · exact a1 i k hi hk h1 h2
theorem widest_span {s : Int} {ys ts : List VC} (hc : Calm (ys.map (·.1))) (hp : ts.Perm (ofServer s ys)) (hu : Ups ts) : Widest s ys (if 0 < ts.length then spanOf ts else 0) := by
  have ch := chain_of hc hp hu
  by_cases h0 : 0 < ts.length
  · rw [if_pos h0]
    have first : ∀ a, a < ts.length → (ts.getD 0 default).1.fr ≤ (ts.getD a default).1.fr := fun a ha => by
      by_cases e : a = 0
      · rw [e]; exact Int.le_refl _
      · have := ch 0 a (by omega) ha
        have := way_pos (ts.getD 0 default)
        omega
    have last : ∀ a, a < ts.length → (ts.getD a default).1.to ≤ (ts.getD (ts.length - 1) default).1.to := fun a ha => by
      by_cases e : a = ts.length - 1
      · rw [e]; exact Int.le_refl _
      · have := ch a (ts.length - 1) (by omega) (by omega)
        have := way_pos (ts.getD (ts.length - 1) default)
        omega
    refine ⟨?_, fun i k hi hk h1 h2 => ?_, .inr ?_⟩
    · unfold spanOf
      have := first (ts.length - 1) (by omega)
      have := way_pos (ts.getD (ts.length - 1) default)
      omega
    · obtain ⟨a, ha, ea⟩ := at_perm hp hi h1
      obtain ⟨b, hb, eb⟩ := at_perm hp hk h2
      rw [ea, eb]
      unfold spanOf
      have := first a ha
      have := last b hb
      omega
    · obtain ⟨i, hi, ei, si⟩ := perm_at hp (j := 0) (by omega)
      obtain ⟨k, hk, ek, sk⟩ := perm_at hp (j := ts.length - 1) (by omega)
      exact ⟨i, k, hi, hk, si, sk, by rw [ei, ek]; rfl⟩
  · rw [if_neg h0]
    refine ⟨Int.le_refl _, fun i k hi hk h1 _ => ?_, .inl rfl⟩
    obtain ⟨j, hj, _⟩ := at_perm hp hi h1
    omega
/-- what lies in a pair's window is no more than the window. -/
theorem win_bound {s : Int} {ys : List VC} (hc : Calm (ys.map (·.1))) {i k : Nat} (hp : PairOk s ys i k) : 0 ≤ winV s ys i k ∧ winV s ys i k ≤ (ys.getD k default).1.to - (ys.getD i default).1.fr := by
  obtain ⟨_, _, h3⟩ := hp
  have hw := way_pos (ys.getD k default)
  unfold winV
  refine ⟨sum_nonneg' _ (fun c => (inWin_bound _ _ c).1) _, ?_⟩
  exact Int.le_trans (sumOf_mem _ (fun c _ => in_at _ _ c)) (at_way (by omega) hc)
end Go.Proofs.Ytfpifaccjfgfkaa
