/- Sums of charges in a window, none of which clash: plain numbers, no program. Each theorem's premises are its conditions. -/
import Derived.Test.YtfpifaccjfgfkaaTraceMade
namespace Go.Proofs.Ytfpifaccjfgfkaa

theorem sumOf_mem {f g : VC → Int} : ∀ l : List VC, (∀ c ∈ l, f c ≤ g c) → sumOf f l ≤ sumOf g l
  | [], _ => Int.le_refl _
  | c :: l, h => by
    rw [sumOf, sumOf]
    have := h c (List.mem_cons_self ..)
    have := sumOf_mem l (fun x hx => h x (List.mem_cons_of_mem _ hx))
    omega
theorem sumOf_perm {f : VC → Int} {l m : List VC} (h : l.Perm m) : sumOf f l = sumOf f m := by
  induction h with
  | nil => rfl
  | cons x _ ih => rw [sumOf, sumOf, ih]
  | swap x y l => rw [sumOf, sumOf, sumOf, sumOf]; omega
  | trans _ _ i1 i2 => exact i1.trans i2
/-- does it cover a point? -/
def at1 (P : VC → Bool) (p : Int) (c : VC) : Int := if P c = true ∧ c.1.fr ≤ p ∧ p < c.1.to then 1 else 0
theorem at1_zero (P : VC → Bool) (p : Int) : ∀ l : List VC, (∀ c ∈ l, ¬ (P c = true ∧ c.1.fr ≤ p ∧ p < c.1.to)) → sumOf (at1 P p) l = 0
  | [], _ => rfl
  | c :: l, h => by
    rw [sumOf, at1_zero P p l (fun x hx => h x (List.mem_cons_of_mem _ hx))]
    unfold at1
    rw [if_neg (h c (List.mem_cons_self ..))]
    rfl
theorem at1_one (P : VC → Bool) (hP : ∀ a b : VC, P a = true → P b = true → a.1.sv = b.1.sv ∨ a.1.wk = b.1.wk) (p : Int) : ∀ l : List VC, l.Pairwise (fun a b => ¬ Clash a.1 b.1) → sumOf (at1 P p) l ≤ 1
  | [], _ => by simp [sumOf]
  | c :: l, h => by
    obtain ⟨h1, h2⟩ := List.pairwise_cons.1 h
    rw [sumOf]
    by_cases hc : P c = true ∧ c.1.fr ≤ p ∧ p < c.1.to
    · rw [at1_zero P p l (fun x hx hq => h1 x hx ⟨hP c x hc.1 hq.1, by unfold bothOf; omega⟩)]
      unfold at1
      rw [if_pos hc]
      omega
    · have := at1_one P hP p l h2
      have e : at1 P p c = 0 := by unfold at1; rw [if_neg hc]
      omega
def way1 (P : VC → Bool) (f t : Int) (c : VC) : Int := if P c = true then bothOf c.1.fr c.1.to f t else 0
theorem way_step (P : VC → Bool) (f : Int) (k : Nat) (c : VC) : way1 P f (f + ((k + 1 : Nat) : Int)) c ≤ way1 P f (f + (k : Int)) c + at1 P (f + k) c := by
  unfold way1 at1
  by_cases hp : P c = true
  · rw [if_pos hp, if_pos hp]
    by_cases hc : c.1.fr ≤ f + k ∧ f + k < c.1.to
    · rw [if_pos ⟨hp, hc⟩]
      unfold bothOf
      omega
    · rw [if_neg (fun h => hc h.2)]
      unfold bothOf
      omega
  · rw [if_neg hp, if_neg hp, if_neg (fun h => hp h.1)]
    omega
theorem way_sum (P : VC → Bool) (hP : ∀ a b : VC, P a = true → P b = true → a.1.sv = b.1.sv ∨ a.1.wk = b.1.wk) (f : Int) (l : List VC) (hl : l.Pairwise (fun a b => ¬ Clash a.1 b.1)) : ∀ k : Nat, sumOf (way1 P f (f + (k : Int))) l ≤ k
  | 0 => by
    have : ∀ c ∈ l, way1 P f (f + ((0 : Nat) : Int)) c ≤ (fun _ => 0) c := fun c _ => by
      unfold way1 bothOf
      dsimp only
      split <;> omega
    have h1 := sumOf_mem l this
    have h2 : ∀ m : List VC, sumOf (fun _ => 0) m = 0 := fun m => by
      induction m with
      | nil => rfl
      | cons c m ih => rw [sumOf, ih]; rfl
    rw [h2] at h1
    exact h1
  | k + 1 => by
    have h1 := sumOf_mem l (fun c _ => way_step P f k c)
    rw [sumOf_add] at h1
    have h2 := way_sum P hP f l hl k
    have h3 := at1_one P hP (f + k) l hl
    have e : ((k + 1 : Nat) : Int) = (k : Int) + 1 := by omega
    omega
theorem way_le (P : VC → Bool) (hP : ∀ a b : VC, P a = true → P b = true → a.1.sv = b.1.sv ∨ a.1.wk = b.1.wk) (f t : Int) (h : f ≤ t) (l : List VC) (hl : l.Pairwise (fun a b => ¬ Clash a.1 b.1)) : sumOf (way1 P f t) l ≤ t - f := by
  have := way_sum P hP f l hl (t - f).toNat
  have e : f + ((t - f).toNat : Int) = t := by omega
  rw [e] at this
  omega
theorem at_way {s f t : Int} (h : f ≤ t) {ys : List VC} (hc : Calm (ys.map (·.1))) : sumOf (fun c => atWin f t c.1) (ofServer s ys) ≤ t - f := by
  have h1 : ys.Pairwise fun a b => ¬ Clash a.1 b.1 := List.pairwise_map.1 hc
  have h2 : (ofServer s ys).Pairwise fun a b => ¬ Clash a.1 b.1 := h1.filter _
  refine Int.le_trans (sumOf_mem (g := way1 (fun c => decide (c.1.sv = s)) f t) _ ?_) (way_le _ (fun a b ha hb => .inl (by simp at ha hb; rw [ha, hb])) f t h _ h2)
  intro c hm
  unfold ofServer at hm
  rw [List.mem_filter] at hm
  unfold way1 atWin
  rw [if_pos hm.2]
  omega
theorem busy_way {k f t : Int} (h : f ≤ t) {ys : List VC} (hc : Calm (ys.map (·.1))) : sumOf (fun c => busyWin k f t c.1) ys ≤ t - f := by
  have h1 : ys.Pairwise fun a b => ¬ Clash a.1 b.1 := List.pairwise_map.1 hc
  refine Int.le_trans (sumOf_mem (g := way1 (fun c => decide (c.1.wk = k)) f t) _ ?_) (way_le _ (fun a b ha hb => .inr (by simp at ha hb; rw [ha, hb])) f t h _ h1)
  intro c _
  unfold way1 busyWin
  dsimp only
  by_cases hk : c.1.wk = k
  · rw [if_pos hk, if_pos (decide_eq_true hk)]; exact Int.le_refl _
  · rw [if_neg hk, if_neg (by simpa using hk)]; exact Int.le_refl _
theorem in_at (f t : Int) (c : VC) : inWin f t c.1 ≤ atWin f t c.1 := by
  obtain ⟨x, hx⟩ := c
  obtain ⟨_, _, _, _, _, _, x1, x2, x3, x4, x5⟩ := hx
  unfold inWin atWin bothOf
  dsimp only
  split <;> omega
theorem of_reverse (s : Int) (ys : List VC) : ofServer s ys.reverse = (ofServer s ys).reverse := by unfold ofServer; rw [List.filter_reverse]
theorem sum_reverse (f : VC → Int) (l : List VC) : sumOf f l.reverse = sumOf f l := sumOf_perm (List.reverse_perm l)
end Go.Proofs.Ytfpifaccjfgfkaa
