/- By how much a server's charges are above its part: plain numbers, no program. Each theorem's premises are its conditions. -/
import Derived.Test.YtfpifaccjfgfkaaTraceCheck
import Derived.Test.YtfpifaccjfgfkaaTraceWins
namespace Go.Proofs.Ytfpifaccjfgfkaa

/-- no two of them clash. -/
def Calm (cs : List Chg) : Prop := cs.Pairwise fun a b => ¬ Clash a b
/-- one ends ahead of the next. -/
def Chain (ts : List VC) : Prop := ∀ i j, i < j → j < ts.length → (ts.getD i default).1.to ≤ (ts.getD j default).1.fr
theorem clash_symm {a b : Chg} (h : Clash a b) : Clash b a := by
  obtain ⟨h1, h2⟩ := h
  refine ⟨h1.imp Eq.symm Eq.symm, ?_⟩
  unfold bothOf at *
  omega
theorem calm_symm {a b : Chg} (h : ¬ Clash a b) : ¬ Clash b a := fun k => h (clash_symm k)
theorem get_vd {ts : List VC} {k : Nat} (hk : k < ts.length) : ts.getD k default = ts[k] := by simp [List.getD, hk]
theorem chain_of {ys ts : List VC} {s : Int} (hc : Calm (ys.map (·.1))) (hp : ts.Perm (ofServer s ys)) (hu : Ups ts) : Chain ts := by
  have h1 : ys.Pairwise fun a b => ¬ Clash a.1 b.1 := List.pairwise_map.1 hc
  have h2 : (ofServer s ys).Pairwise fun a b => ¬ Clash a.1 b.1 := h1.filter _
  have h3 : ts.Pairwise fun a b => ¬ Clash a.1 b.1 := (hp.pairwise_iff (fun h => calm_symm h)).2 h2
  have hs : ∀ c ∈ ts, c.1.sv = s := fun c h => by
    have := (hp.mem_iff).1 h
    unfold ofServer at this
    rw [List.mem_filter] at this
    simpa using this.2
  intro i j hij hj
  rw [get_vd hj, get_vd (Nat.lt_trans hij hj)]
  have hi := Nat.lt_trans hij hj
  have n1 := List.pairwise_iff_getElem.1 h3 i j hi hj hij
  have s1 := hs _ (List.getElem_mem hi)
  have s2 := hs _ (List.getElem_mem hj)
  have u := hu i j hi hj hij
  obtain ⟨_, _, _, _, _, _, _, a1, _, _, _⟩ := ts[i].2
  obtain ⟨_, _, _, _, _, _, _, b1, _, _, _⟩ := ts[j].2
  by_cases h : ts[i].1.to ≤ ts[j].1.fr
  · exact h
  · exact absurd ⟨.inl (s1.trans s2.symm), by unfold bothOf; omega⟩ n1
def ownOf (q t : Int) (c : Chg) : Int := t * c.n - q * (c.to - c.fr)
/-- the greatest sum, and the greatest one that ends here. -/
def excAt (q t : Int) (ts : List VC) : Nat → Int × Int
  | 0 => (0, 0)
  | k + 1 => let c := (ts.getD k default).1
    if k = 0 then (ownOf q t c, ownOf q t c)
    else
      let r := max (ownOf q t c) ((excAt q t ts k).2 + ownOf q t c - q * (c.fr - (ts.getD (k - 1) default).1.to))
      (max (excAt q t ts k).1 r, r)
def spanOf (ts : List VC) : Int := (ts.getD (ts.length - 1) default).1.to - (ts.getD 0 default).1.fr
theorem mul_bound {a b M : Int} (h1 : 0 ≤ a) (h2 : a ≤ 1073741824) (h3 : 0 ≤ b) (h4 : b ≤ M) : 0 ≤ a * b ∧ a * b ≤ 1073741824 * M :=
  ⟨Int.mul_nonneg h1 h3, Int.le_trans (Int.mul_le_mul_of_nonneg_right h2 h3) (Int.mul_le_mul_of_nonneg_left h4 (by omega))⟩
theorem exc_bound (q t : Int) (ts : List VC) (hq : 1 ≤ q) (hqt : q ≤ t) (ht : t ≤ 1073741824) (hc : Chain ts) (hs : spanOf ts ≤ 2147483648) : ∀ k, k < ts.length →
    -(q * ((ts.getD k default).1.to - (ts.getD k default).1.fr)) ≤ (excAt q t ts (k + 1)).2 ∧ (excAt q t ts (k + 1)).2 ≤ t * ((ts.getD k default).1.to - (ts.getD 0 default).1.fr) ∧
    -2305843009213693952 ≤ (excAt q t ts (k + 1)).1 ∧ (excAt q t ts (k + 1)).1 ≤ 2305843009213693952 := by
  have hlast : ∀ k, k < ts.length → (ts.getD k default).1.to - (ts.getD 0 default).1.fr ≤ 2147483648 := fun k hk => by
    unfold spanOf at hs
    obtain ⟨_, _, _, _, _, _, _, a1, _, _, _⟩ := (ts.getD (ts.length - 1) default).2
    by_cases h : k = ts.length - 1
    · rw [h]; exact hs
    · have := hc k (ts.length - 1) (by omega) (by omega)
      omega
  intro k
  induction k with
  | zero =>
    intro hk
    have h0 := hlast 0 hk
    obtain ⟨_, _, _, _, _, _, _, a1, _, a2, a3⟩ := (ts.getD 0 default).2
    simp only [excAt, if_pos]
    unfold ownOf
    generalize (ts.getD 0 default).1.to = T at *
    generalize (ts.getD 0 default).1.fr = F at *
    generalize (ts.getD 0 default).1.n = N at *
    have m1 := mul_bound (a := t) (b := N) (M := 2147483648) (by omega) ht a2 (by omega)
    have m2 := mul_bound (a := q) (b := T - F) (M := 2147483648) (by omega) (by omega) (by omega) (by omega)
    have m3 : t * N ≤ t * (T - F) := Int.mul_le_mul_of_nonneg_left a3 (by omega)
    generalize t * N = x at *
    generalize q * (T - F) = y at *
    generalize t * (T - F) = z at *
    omega
  | succ k ih =>
    intro hk
    obtain ⟨i1, i2, i3, i4⟩ := ih (by omega)
    have h0 := hlast (k + 1) hk
    have hk1 := hlast k (by omega)
    have hch := hc k (k + 1) (by omega) hk
    have hf : (ts.getD 0 default).1.fr ≤ (ts.getD k default).1.fr := by
      by_cases e : k = 0
      · rw [e]; exact Int.le_refl _
      · have := hc 0 k (by omega) (by omega)
        obtain ⟨_, _, _, _, _, _, _, b1, _, _, _⟩ := (ts.getD 0 default).2
        omega
    obtain ⟨_, _, _, _, _, _, _, a1, _, a2, a3⟩ := (ts.getD (k + 1) default).2
    obtain ⟨_, _, _, _, _, _, _, b1, _, _, _⟩ := (ts.getD k default).2
    rw [excAt]
    simp only [Nat.add_one_ne_zero, if_false, Nat.add_sub_cancel]
    unfold ownOf
    generalize excAt q t ts (k + 1) = e at *
    obtain ⟨B, R⟩ := e
    simp only at *
    generalize (ts.getD (k + 1) default).1.to = T at *
    generalize (ts.getD (k + 1) default).1.fr = F at *
    generalize (ts.getD (k + 1) default).1.n = N at *
    generalize (ts.getD k default).1.to = T0 at *
    generalize (ts.getD k default).1.fr = F0 at *
    generalize (ts.getD 0 default).1.fr = G at *
    have m1 := mul_bound (a := t) (b := N) (M := 2147483648) (by omega) ht a2 (by omega)
    have m2 := mul_bound (a := q) (b := T - F) (M := 2147483648) (by omega) (by omega) (by omega) (by omega)
    have m4 := mul_bound (a := q) (b := F - T0) (M := 2147483648) (by omega) (by omega) (by omega) (by omega)
    have m5 := mul_bound (a := q) (b := T0 - F0) (M := 2147483648) (by omega) (by omega) (by omega) (by omega)
    have m3 : t * N ≤ t * (T - F) := Int.mul_le_mul_of_nonneg_left a3 (by omega)
    have m6 := mul_bound (a := t) (b := T - G) (M := 2147483648) (by omega) ht (by omega) (by omega)
    have m7 := mul_bound (a := t) (b := F - G) (M := 2147483648) (by omega) ht (by omega) (by omega)
    have m8 := mul_bound (a := t) (b := F - T0) (M := 2147483648) (by omega) ht (by omega) (by omega)
    have e1 : t * (T - G) = t * (T - F) + t * (F - G) := by rw [← Int.mul_add]; congr 1; omega
    have e2 : t * (T - G) = t * (T - F) + t * (F - T0) + t * (T0 - G) := by rw [← Int.mul_add, ← Int.mul_add]; congr 1; omega
    generalize t * N = x at *
    generalize q * (T - F) = y at *
    generalize t * (T - F) = z at *
    generalize t * (T - G) = z1 at *
    generalize t * (F - G) = z2 at *
    generalize t * (F - T0) = z3 at *
    generalize t * (T0 - G) = z4 at *
    generalize q * (F - T0) = z5 at *
    generalize q * (T0 - F0) = z6 at *
    omega
end Go.Proofs.Ytfpifaccjfgfkaa
