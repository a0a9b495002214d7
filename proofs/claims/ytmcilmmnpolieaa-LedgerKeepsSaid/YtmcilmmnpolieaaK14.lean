/- A slice of servers' params, as a list: how it comes in, and that it stays; what servers ask for, in plain words. What the reference of layer 9 answers: Up, Right, Asks, Load, Bound, Rule, Test. Each theorem's premises are its conditions. -/
import Derived.Test.YtmcilmmnpolieaaK11
import Derived.Test.YtmcilmmnpolieaaK13
import Derived.WalkLawsBesides
import Derived.WalkSpells
import Derived.Outline
/- A slice of servers' params, as a list: how it comes in, and that it stays; what servers ask for, in plain words. Each theorem's premises are its conditions. -/
namespace Go.Proofs.Ytmcilmmnpolieaa
open Go.ChangeShapes Go.WideShapes Go.ChangeAt Go.RowKit Go.Deep

/-- params: Q, D, T. -/
abbrev P3 := Int × Int × Int
def pval (p : P3) : Value := .agg #[.int .i64 p.1, .int .i64 p.2.1, .int .i64 p.2.2]
/-- params lie there. -/
def ParamAt (w : World) (b o : Nat) (p : P3) : Prop := w.cell? ⟨b, o, none⟩ = some (.int .i64 p.1) ∧ w.cell? ⟨b, o + 1, none⟩ = some (.int .i64 p.2.1) ∧ w.cell? ⟨b, o + 2, none⟩ = some (.int .i64 p.2.2)
theorem ParamAt.below {w w' : World} {b o : Nat} {p : P3} (h : ParamAt w b o p) (hb : b < w.heap.size) (k : Below w.heap.size w w') : ParamAt w' b o p :=
  ⟨(k.cell (p := ⟨b, o, none⟩) hb).trans h.1, (k.cell (p := ⟨b, o + 1, none⟩) hb).trans h.2.1, (k.cell (p := ⟨b, o + 2, none⟩) hb).trans h.2.2⟩
def p0 : P3 := (0, 0, 0)
/-- v is a slice of the params ps. -/
def ParamRow (w : World) (v : Value) (ps : List P3) : Prop :=
  (∃ a cap, v = .slice a 0 cap ∧ ps = []) ∨ ∃ b off cap, v = .slice (some ⟨b, off, none⟩) ps.length cap ∧ b < w.heap.size ∧ 0 < ps.length ∧ ∀ j, j < ps.length → ParamAt w b (off + j * 3) (ps.getD j p0)
theorem ParamRow.below {w w' : World} {v : Value} {ps : List P3} (h : ParamRow w v ps) (hb : Below w.heap.size w w') : ParamRow w' v ps := by
  rcases h with h | ⟨b, off, cap, rfl, hlt, h0, hc⟩
  · exact .inl h
  · exact .inr ⟨b, off, cap, rfl, Nat.lt_of_lt_of_le hlt hb.size, h0, fun j hj => (hc j hj).below hlt hb⟩
/-- each of the numbers has 64 bits. -/
def Fit3 (p : P3) : Prop := Fit p.1 ∧ Fit p.2.1 ∧ Fit p.2.2

section
variable {H : Type} {enc : TypeId × Value → H} {P : Program} {w : World} {base : Nat} {spare : Nat → Bool} {held : Bool}
theorem open_params {r : Reach} {b0 : Nat} {t e : TypeId} {fs : Array Field} {v : Value} {d : DataW H} {p : List MemPlace} (ht : P.underlying t = some (.slice e)) (he : P.underlying e = some (.struct fs)) (ce : P.cellsOf e = 3)
    (hfs : ∀ j, j < 3 → ∃ f, fs[j]? = some f ∧ f.offset = j ∧ P.cellsOf f.type = 1 ∧ P.underlying f.type = some (.int .i64))
    (hv : Value.okWide P w r b0 t v) (h : DataW.Trod enc P w base spare held t v d p) : ∃ ps, ParamRow w v ps ∧ (∀ p ∈ ps, Fit3 p) ∧ ps.length ≤ maxLen := by
  obtain ⟨a, len, cap, rfl, hl, h0 | ⟨b, off, Z, rfl, hb, hZ⟩⟩ := open_rows ht he ce (by omega) hfs hv h
  · subst h0
    exact ⟨[], .inl ⟨_, _, rfl, rfl⟩, (by intro p hp; cases hp), Nat.zero_le _⟩
  · by_cases h0 : len = 0
    · subst h0
      exact ⟨[], .inl ⟨_, _, rfl, rfl⟩, (by intro p hp; cases hp), Nat.zero_le _⟩
    refine ⟨(List.range len).map fun i => (Z i 0, Z i 1, Z i 2), .inr ⟨b, off, cap, by simp, hb, by simp; omega, fun j hj => ?_⟩, fun p hp => ?_, by simpa using hl⟩
    · have hj' : j < len := by simpa using hj
      have e : ((List.range len).map fun i => ((Z i 0, Z i 1, Z i 2) : P3)).getD j p0 = (Z j 0, Z j 1, Z j 2) := by simp [List.getD, hj']
      rw [e]
      exact ⟨(hZ j hj' 0 (by omega)).1, by have := (hZ j hj' 1 (by omega)).1; rwa [← Nat.add_assoc] at this, by have := (hZ j hj' 2 (by omega)).1; rwa [← Nat.add_assoc] at this⟩
    · obtain ⟨i, hi, rfl⟩ := List.mem_map.1 hp
      have hi' : i < len := List.mem_range.1 hi
      exact ⟨(hZ i hi' 0 (by omega)).2, (hZ i hi' 1 (by omega)).2, (hZ i hi' 2 (by omega)).2⟩
end

/-! ### what servers ask for -/
def May (p : P3) : Prop := ParamsMay p.1 p.2.1 p.2.2
instance (p : P3) : Decidable (May p) := by unfold May ParamsMay; exact inferInstance
def askOf (hard : Bool) (p : P3) : Nat := quot true (p.1.toNat * 1048576) (if hard then p.2.1.toNat else p.2.2.toNat)
theorem askOf_le (hard : Bool) {p : P3} (h : May p) : askOf hard p ≤ 1048576 := by
  obtain ⟨h1, h2, h3, h4⟩ := h
  unfold askOf
  cases hard
  · exact quot_fit true (by simp; omega) (by simp only [Bool.false_eq_true, if_false]; rw [Nat.mul_comm]; exact Nat.mul_le_mul_left _ (by omega))
  · exact quot_fit true (by simp; omega) (by simp only [if_true]; rw [Nat.mul_comm]; exact Nat.mul_le_mul_left _ (by omega))
theorem askOf_soft_le {p : P3} (h : May p) : askOf false p ≤ askOf true p := by
  obtain ⟨h1, h2, h3, h4⟩ := h
  exact quot_anti true (by simp; omega) (by simp; omega)
/-- may all be? -/
def allMay (ps : List P3) : Bool := ps.all fun p => decide (May p)
/-- the sum and the greatest of what the first ones ask for. -/
def sumGo2 (hard : Bool) : Nat × Nat → List P3 → Nat × Nat
  | s, [] => s
  | s, p :: l => sumGo2 hard (s.1 + askOf hard p, max s.2 (askOf hard p)) l
def asked (hard : Bool) (ps : List P3) : Nat × Nat := sumGo2 hard (0, 0) ps
theorem sumGo2_le (hard : Bool) : ∀ (l : List P3) (s : Nat × Nat), allMay l = true → s.2 ≤ 1048576 → (sumGo2 hard s l).1 ≤ s.1 + l.length * 1048576 ∧ (sumGo2 hard s l).2 ≤ 1048576 ∧ s.1 ≤ (sumGo2 hard s l).1
  | [], s, _, h => ⟨by simp [sumGo2], h, Nat.le_refl _⟩
  | p :: l, s, ha, h => by
    simp only [allMay, List.all_cons, Bool.and_eq_true, decide_eq_true_eq] at ha
    have h1 := askOf_le hard ha.1
    have := sumGo2_le hard l (s.1 + askOf hard p, max s.2 (askOf hard p)) ha.2 (by simp only [Nat.max_le]; exact ⟨h, h1⟩)
    simp only [List.length_cons]
    unfold sumGo2
    refine ⟨?_, this.2.1, ?_⟩
    · have := this.1; simp only at this; omega
    · have := this.2.2; simp only at this; omega
theorem drop_p {zs : List P3} {k : Nat} (hk : k < zs.length) : zs.drop k = zs.getD k p0 :: zs.drop (k + 1) := by
  rw [List.drop_eq_getElem_cons hk]
  simp [List.getD, hk]
theorem allMay_at {ps : List P3} (h : allMay ps = true) {k : Nat} (hk : k < ps.length) : May (ps.getD k p0) := by
  unfold allMay at h
  rw [List.all_eq_true] at h
  have e : ps.getD k p0 = ps[k] := by simp [List.getD, hk]
  rw [e]
  simpa using h _ (List.getElem_mem hk)
/-- the first one that may not be. -/
theorem allMay_not {ps : List P3} {k : Nat} (hk : k < ps.length) (h : ¬ May (ps.getD k p0)) : allMay ps = false := by
  cases e : allMay ps with
  | false => rfl
  | true => exact absurd (allMay_at e hk) h
theorem allMay_upto : ∀ {ps : List P3}, (∀ k, k < ps.length → May (ps.getD k p0)) → allMay ps = true := by
  intro ps h
  unfold allMay
  rw [List.all_eq_true]
  intro p hp
  obtain ⟨k, hk, rfl⟩ := List.mem_iff_getElem.1 hp
  have := h k hk
  have e : ps.getD k p0 = ps[k] := by simp [List.getD, hk]
  rw [e] at this
  simpa using this
end Go.Proofs.Ytmcilmmnpolieaa
/- What the reference of layer 9 answers: Up, Right, Asks, Load, Bound, Rule, Test. Each theorem's premises are its conditions. -/
namespace Go.Proofs.Ytmcilmmnpolieaa
open Go.RowKit

theorem quot_cases (n c : Nat) : quot true n c = if n / c * c < n then n / c + 1 else n / c := by
  have h := Nat.div_add_mod' n c
  unfold quot
  by_cases e : 0 < n % c
  · rw [if_pos ⟨rfl, e⟩, if_pos (by omega)]
  · rw [if_neg (fun h => e h.2), if_neg (by omega)]

set_option maxHeartbeats 400000 in
theorem ref_up (q t : Nat) (hq : q ≤ 1073741824) (ht : 1 ≤ t) (ht' : t ≤ 1073741824) (w : World) :
    Calls Try.prog 87 #[.int .i64 q, .int .i64 t] w fun e w' => e = .returned (.int .i64 ((quot true (q * 1048576) t : Nat) : Int)) ∧ w' = w := by
  have hQ := Lib.hid (quot_cases (q * 1048576) t)
  obtain ⟨N, hN⟩ : ∃ N, q * 1048576 = N := ⟨_, rfl⟩
  have hN' : (q : Int) * 1048576 = (N : Int) := by omega
  rw [hN] at hQ
  have hNb : N ≤ 1125899906842624 := by omega
  have h1 : N / t * t ≤ N := Nat.div_mul_le_self N t
  obtain ⟨p, hp⟩ : ∃ p, N / t = p := ⟨_, rfl⟩
  have h2 : (N : Int).tdiv (t : Int) = (p : Int) := by rw [Int.tdiv_eq_ediv_of_nonneg (by omega)]; exact_mod_cast hp
  have h3 : p ≤ N := by rw [← hp]; exact Nat.div_le_self N t
  rw [hp] at hQ h1
  obtain ⟨M, hM⟩ : ∃ M, p * t = M := ⟨_, rfl⟩
  have hM' : (p : Int) * (t : Int) = (M : Int) := by exact_mod_cast hM
  rw [hM] at hQ h1
  have e0 : ((t : Int) == 0) = false := by simp; omega
  have e1 : (t == 0) = false := by simp; omega
  have t0 : ¬ (t : Int) = 0 := by omega
  rw [hN]
  clear hN hp hM
  by_cases h : M < N
  · have hR : Hid (quot true N t = p + 1) := by show _ = _; rw [hQ.out, if_pos h]
    clear hQ
    have d1 : decide ((M : Int) < (N : Int)) = true := decide_eq_true (by omega)
    go_enter Try.func87, Try.ntmps87
    go_wp2
    go_ret
    exact ⟨by rw [hR.out]; rfl, rfl⟩
  · have hR : Hid (quot true N t = p) := by show _ = _; rw [hQ.out, if_neg h]
    clear hQ
    have d1 : decide ((M : Int) < (N : Int)) = false := decide_eq_false (by omega)
    go_enter Try.func87, Try.ntmps87
    go_wp2
    go_ret
    exact ⟨by rw [hR.out]; rfl, rfl⟩

def agg3 (q d t : Int) : Value := .agg #[.int .i64 q, .int .i64 d, .int .i64 t]
set_option maxHeartbeats 400000 in
theorem right_ok (q d t : Int) (h : ParamsMay q d t) (w : World) :
    Calls Try.prog 82 #[.agg #[.int .i64 q, .int .i64 d, .int .i64 t]] w (Gives (.bool true) w) := by
  obtain ⟨h1, h2, h3, h4⟩ := h
  go_enter Try.func82, Try.ntmps82
  go_wp2
  go_ret
  exact ⟨rfl, bel_alloc (Below.refl _ _)⟩
set_option maxHeartbeats 400000 in
theorem right_bad (q d t : Int) (h : ¬ ParamsMay q d t) (w : World) :
    Calls Try.prog 82 #[.agg #[.int .i64 q, .int .i64 d, .int .i64 t]] w (Gives (.bool false) w) := by
  unfold ParamsMay at h
  by_cases h1 : 1 ≤ q
  · by_cases h2 : q ≤ d
    · by_cases h3 : d ≤ t
      · have d1 : decide (t ≤ 1073741824) = false := decide_eq_false (by omega)
        clear h
        go_enter Try.func82, Try.ntmps82
        go_wp2
        go_ret
        exact ⟨rfl, bel_alloc (Below.refl _ _)⟩
      · have h4 : t < d := by omega
        clear h h3
        go_enter Try.func82, Try.ntmps82
        go_wp2
        go_ret
        exact ⟨rfl, bel_alloc (Below.refl _ _)⟩
    · have h4 : d < q := by omega
      clear h h2
      go_enter Try.func82, Try.ntmps82
      go_wp2
      go_ret
      exact ⟨rfl, bel_alloc (Below.refl _ _)⟩
  · have h4 : q < 1 := by omega
    clear h h1
    go_enter Try.func82, Try.ntmps82
    go_wp2
    go_ret
    exact ⟨rfl, bel_alloc (Below.refl _ _)⟩
theorem right_any (p : P3) (w : World) : Calls Try.prog 82 #[.agg #[.int .i64 p.1, .int .i64 p.2.1, .int .i64 p.2.2]] w (Gives (.bool (decide (May p))) w) := by
  by_cases h : May p
  · rw [decide_eq_true h]; exact right_ok _ _ _ h w
  · rw [decide_eq_false h]; exact right_bad _ _ _ h w

set_option maxHeartbeats 400000 in
theorem asks_any (hard : Bool) (p : P3) (h : May p) (w : World) :
    Calls Try.prog 83 #[.bool hard, .agg #[.int .i64 p.1, .int .i64 p.2.1, .int .i64 p.2.2]] w (Gives (.int .i64 ((askOf hard p : Nat) : Int)) w) := by
  obtain ⟨q, d, t⟩ := p
  obtain ⟨h1, h2, h3, h4⟩ := h
  simp only at h1 h2 h3 h4
  obtain ⟨q, rfl⟩ := Int.eq_ofNat_of_zero_le (show 0 ≤ q by omega)
  obtain ⟨d, rfl⟩ := Int.eq_ofNat_of_zero_le (show 0 ≤ d by omega)
  obtain ⟨t, rfl⟩ := Int.eq_ofNat_of_zero_le (show 0 ≤ t by omega)
  cases hard with
  | true =>
    have U := Lib.hid (ref_up q d (by omega) (by omega) (by omega))
    have e : askOf true ((q : Int), (d : Int), (t : Int)) = quot true (q * 1048576) d := by simp [askOf]
    rw [e]
    generalize quot true (q * 1048576) d = r at *
    clear h1 h2 h3 h4 e
    go_enter Try.func83, Try.ntmps83
    go_wp2_with (go_at_call 87; refine (U.out _).mono ?_; rintro e w' ⟨rfl, rfl⟩)
    go_ret
    exact ⟨rfl, bel_alloc (Below.refl _ _)⟩
  | false =>
    have U := Lib.hid (ref_up q t (by omega) (by omega) (by omega))
    have e : askOf false ((q : Int), (d : Int), (t : Int)) = quot true (q * 1048576) t := by simp [askOf]
    rw [e]
    generalize quot true (q * 1048576) t = r at *
    clear h1 h2 h3 h4 e
    go_enter Try.func83, Try.ntmps83
    go_wp2_with (go_at_call 87; refine (U.out _).mono ?_; rintro e w' ⟨rfl, rfl⟩)
    go_ret
    exact ⟨rfl, bel_alloc (Below.refl _ _)⟩

/-! ### rules -/
def RuleMay (cap workers : Int) : Prop := 0 ≤ cap ∧ cap ≤ 1048576 ∧ 1 ≤ workers ∧ workers ≤ 16
instance (c k : Int) : Decidable (RuleMay c k) := by unfold RuleMay; exact inferInstance
theorem rule_ok (c k : Int) (h : RuleMay c k) (w : World) : Calls Try.prog 76 #[.int .i64 c, .int .i64 k] w fun e w' => e = .returned (.bool true) ∧ w' = w := by
  obtain ⟨h1, h2, h3, h4⟩ := h
  go_enter Try.func76, Try.ntmps76
  go_wp2
  go_ret
  exact ⟨rfl, rfl⟩
theorem rule_bad (c k : Int) (h : ¬ RuleMay c k) (w : World) : Calls Try.prog 76 #[.int .i64 c, .int .i64 k] w fun e w' => e = .returned (.bool false) ∧ w' = w := by
  unfold RuleMay at h
  by_cases h1 : 0 ≤ c
  · by_cases h2 : c ≤ 1048576
    · by_cases h3 : 1 ≤ k
      · have d1 : decide (k ≤ 16) = false := decide_eq_false (by omega)
        clear h
        go_enter Try.func76, Try.ntmps76
        go_wp2
        go_ret
        exact ⟨rfl, rfl⟩
      · have h4 : k < 1 := by omega
        clear h h3
        go_enter Try.func76, Try.ntmps76
        go_wp2
        go_ret
        exact ⟨rfl, rfl⟩
    · have h4 : 1048576 < c := by omega
      clear h h2
      go_enter Try.func76, Try.ntmps76
      go_wp2
      go_ret
      exact ⟨rfl, rfl⟩
  · have h4 : c < 0 := by omega
    clear h h1
    go_enter Try.func76, Try.ntmps76
    go_wp2
    go_ret
    exact ⟨rfl, rfl⟩
theorem rule_any (c k : Int) (w : World) : Calls Try.prog 76 #[.int .i64 c, .int .i64 k] w fun e w' => e = .returned (.bool (decide (RuleMay c k))) ∧ w' = w := by
  by_cases h : RuleMay c k
  · rw [decide_eq_true h]; exact rule_ok _ _ h w
  · rw [decide_eq_false h]; exact rule_bad _ _ h w

/-- how much may be asked for. -/
def boundOf (hard : Bool) (cap k most : Int) : Int := if hard then k * 1048576 - (k - 1) * most else cap * k
theorem boundOf_hard (c k m : Int) : boundOf true c k m = k * 1048576 - (k - 1) * m := by simp [boundOf]
theorem boundOf_soft (c k m : Int) : boundOf false c k m = c * k := by simp [boundOf]
theorem mul_small {a b : Int} (ha : 0 ≤ a) (hb : 0 ≤ b) {A B : Nat} (hA : a ≤ (A : Int)) (hB : b ≤ (B : Int)) : 0 ≤ a * b ∧ a * b ≤ ((A * B : Nat) : Int) := by
  refine ⟨Int.mul_nonneg ha hb, ?_⟩
  rw [Int.natCast_mul]
  exact Int.mul_le_mul hA hB hb (by omega)
set_option maxHeartbeats 400000 in
theorem refbound_any (hard : Bool) (c k m : Int) (h : RuleMay c k) (hm : 0 ≤ m) (hm' : m ≤ 1048576) (w : World) :
    Calls Try.prog 78 #[.bool hard, .int .i64 c, .int .i64 k, .int .i64 m] w fun e w' => e = .returned (.int .i64 (boundOf hard c k m)) ∧ w' = w := by
  obtain ⟨h1, h2, h3, h4⟩ := h
  cases hard with
  | true =>
    rw [boundOf_hard]
    obtain ⟨p1, p2⟩ := mul_small (a := k - 1) (b := m) (by omega) hm (A := 15) (B := 1048576) (by omega) (by omega)
    obtain ⟨M, hM⟩ : ∃ M, (k - 1) * m = M := ⟨_, rfl⟩
    rw [hM] at p1 p2
    rw [hM]
    simp only [Nat.reduceMul, Int.cast_ofNat_Int] at p2
    go_enter Try.func78, Try.ntmps78
    go_wp2
    go_ret
    exact ⟨rfl, rfl⟩
  | false =>
    rw [boundOf_soft]
    obtain ⟨p1, p2⟩ := mul_small (a := c) (b := k) (by omega) (by omega) (A := 1048576) (B := 16) (by omega) (by omega)
    obtain ⟨M, hM⟩ : ∃ M, c * k = M := ⟨_, rfl⟩
    rw [hM] at p1 p2
    rw [hM]
    simp only [Nat.reduceMul, Int.cast_ofNat_Int] at p2
    go_enter Try.func78, Try.ntmps78
    go_wp2
    go_ret
    exact ⟨rfl, rfl⟩

/-- what Load hands back. -/
def loadVal (hard : Bool) (ps : List P3) : Value := if allMay ps = true then .tuple #[.int .i64 ((asked hard ps).1 : Nat), .int .i64 ((asked hard ps).2 : Nat), .bool true] else .tuple #[.int .i64 0, .int .i64 0, .bool false]
theorem asked_bound (hard : Bool) {ps : List P3} (h : allMay ps = true) (hl : ps.length ≤ 1000) : (asked hard ps).1 ≤ 1048576000 ∧ (asked hard ps).2 ≤ 1048576 := by
  have := sumGo2_le hard ps (0, 0) h (by simp)
  unfold asked
  refine ⟨?_, this.2.1⟩
  have := this.1
  simp only at this
  omega

set_option maxHeartbeats 1000000 in
theorem refload_some (hard : Bool) (b off cap : Nat) (ps : List P3) (w : World) (hl : ps.length ≤ 1000) (hb : b < w.heap.size) (hc : ∀ j, j < ps.length → ParamAt w b (off + j * 3) (ps.getD j p0)) :
    Calls Try.prog 77 #[.bool hard, .slice (some ⟨b, off, none⟩) ps.length cap] w (Gives (loadVal hard ps) w) := by
  have HC := Lib.hid hc
  obtain ⟨len, hlen⟩ : ∃ n, ps.length = n := ⟨_, rfl⟩
  have HL := Lib.hid hlen
  rw [hlen]
  rw [hlen] at hl
  clear hc hlen
  go_enter Try.func77, Try.ntmps77
  go_wp2
  go_loopw [7, 8, 9] (fun s m i wr => ∃ (k S M : Nat), k ≤ len ∧ i = .int .i64 k ∧ s = .int .i64 S ∧ m = .int .i64 M ∧ S ≤ k * 1048576 ∧ M ≤ 1048576 ∧ asked hard ps = sumGo2 hard (S, M) (ps.drop k) ∧ (∀ j, j < k → May (ps.getD j p0)) ∧ Below w.heap.size w wr) (fun _ _ i _ => len - (intOf i).toNat)
  case atStart => exact ⟨0, 0, 0, by omega, rfl, rfl, rfl, by omega, by omega, rfl, (fun j hj => by omega), Below.refl _ _⟩
  case round =>
    obtain ⟨k, S, M, hk, rfl, rfl, rfl, hS, hM, hd, hm, hbw⟩ := hrel
    have HD := Lib.hid hd
    have HM := Lib.hid hm
    clear hd hm
    have hsz := hbw.size
    by_cases hlt : k < len
    · have hA : ParamAt wr b (off + k * 3) (ps.getD k p0) := by
        have h1 := HC.out k (by rw [HL.out]; exact hlt)
        exact ⟨(hbw.cell (p := ⟨b, off + k * 3, none⟩) hb).trans h1.1, (hbw.cell (p := ⟨b, off + k * 3 + 1, none⟩) hb).trans h1.2.1, (hbw.cell (p := ⟨b, off + k * 3 + 2, none⟩) hb).trans h1.2.2⟩
      have HS := Lib.hid (drop_p (zs := ps) (k := k) (by rw [HL.out]; exact hlt))
      have HN : Hid (May (ps.getD k p0) → ∀ j, j < k + 1 → May (ps.getD j p0)) := fun h j hj => by
        by_cases e : j = k
        · subst e; exact h
        · exact HM.out j (by omega)
      have HF : Hid (¬ May (ps.getD k p0) → allMay ps = false) := fun h => allMay_not (by rw [HL.out]; exact hlt) h
      generalize ps.getD k p0 = p at *
      obtain ⟨c0, c1, c2⟩ := hA
      have hlt' : (k : Int) < (len : Int) := by omega
      have R := Lib.hid (right_any p)
      have lb : b < wr.heap.size := by omega
      by_cases hp : May p
      · have A := Lib.hid (asks_any hard p hp)
        have hq := askOf_le hard hp
        have hv : Hid (asked hard ps = sumGo2 hard (S + askOf hard p, max M (askOf hard p)) (ps.drop (k + 1))) := by show _ = _; rw [HD.out, HS.out]; rfl
        have hn := Lib.hid (HN.out hp)
        rw [decide_eq_true hp] at R
        generalize askOf hard p = n at *
        clear HF HN HM hp
        have hmx : ((max M n : Nat) : Int) = max (M : Int) (n : Int) := by omega
        go_wp2_with fail
        refine (R.out _).mono ?_
        rintro e w1 ⟨rfl, b1⟩
        have l1 : b < w1.heap.size := Nat.lt_of_lt_of_le lb b1.size
        have y0 := (b1.cell (p := ⟨b, off + k * 3, none⟩) lb).trans c0
        have y1 := (b1.cell (p := ⟨b, off + k * 3 + 1, none⟩) lb).trans c1
        have y2 := (b1.cell (p := ⟨b, off + k * 3 + 2, none⟩) lb).trans c2
        clear c0 c1 c2
        go_wp2_with fail
        refine (A.out _).mono ?_
        rintro e w2 ⟨rfl, b2⟩
        go_wp2_with fail
        exact ⟨⟨k + 1, S + n, max M n, by omega, rfl, rfl, by rw [hmx], by omega, by omega, hv.out, hn.out, hbw.trans ((b1.mono hsz).trans (b2.mono (by have := b1.size; omega)))⟩, by simp [intOf]; omega⟩
      · have hf := Lib.hid (HF.out hp)
        rw [decide_eq_false hp] at R
        clear HF HN HM hp HD HS
        go_wp2_with fail
        refine (R.out _).mono ?_
        rintro e w1 ⟨rfl, b1⟩
        go_wp2_with fail
        go_ret3
        refine ⟨by unfold loadVal; rw [hf.out]; rfl, hbw.trans (b1.mono hsz)⟩
    · have ha : Hid (allMay ps = true) := allMay_upto (fun j hj => HM.out j (by rw [HL.out] at hj; omega))
      have hv : Hid (asked hard ps = (S, M)) := by show _ = _; rw [HD.out, List.drop_eq_nil_of_le (by rw [HL.out]; omega)]; rfl
      have hge : (len : Int) ≤ (k : Int) := by omega
      clear HD HM
      go_wp2_with fail
      go_ret3
      refine ⟨by unfold loadVal; rw [if_pos ha.out, hv.out]; rfl, hbw⟩
theorem refload_empty (hard : Bool) (a : Option Addr) (cap : Nat) (w : World) :
    Calls Try.prog 77 #[.bool hard, .slice a 0 cap] w (Gives (loadVal hard []) w) := by
  go_enter Try.func77, Try.ntmps77
  go_wp2
  refine wp_loop_rounds 1 ?_
  rw [rounds_succ]
  go_wp2_with fail
  go_ret3
  exact ⟨rfl, Below.refl _ _⟩
theorem refload_any (hard : Bool) (v : Value) (ps : List P3) (w : World) (h : ParamRow w v ps) (hl : ps.length ≤ 1000) :
    Calls Try.prog 77 #[.bool hard, v] w (Gives (loadVal hard ps) w) := by
  rcases h with ⟨a, cap, rfl, rfl⟩ | ⟨b, off, cap, rfl, hb, _, hc⟩
  · exact refload_empty hard a cap w
  · exact refload_some hard b off cap ps w hl hb hc

/-- whether servers may be taken: 0, or what is wrong. -/
def testNum (hard : Bool) (cap k : Int) (ps : List P3) : Int :=
  if RuleMay cap k ∧ allMay ps = true then (if boundOf hard cap k ((asked hard ps).2 : Nat) < (((asked hard ps).1 : Nat) : Int) then 17 else 0) else 1
set_option maxHeartbeats 400000 in
theorem reftest_any (hard : Bool) (c k : Int) (v : Value) (ps : List P3) (w : World) (h : ParamRow w v ps) (hl : ps.length ≤ 1000) :
    Calls Try.prog 66 #[.bool hard, .int .i64 c, .int .i64 k, v] w (Gives (.int .i64 (testNum hard c k ps)) w) := by
  have U := Lib.hid (rule_any c k)
  by_cases hr : RuleMay c k
  · rw [decide_eq_true hr] at U
    have L := Lib.hid (refload_any hard v ps w h hl)
    unfold loadVal at L
    by_cases ha : allMay ps = true
    · rw [if_pos ha] at L
      obtain ⟨q1, q2⟩ := asked_bound hard ha hl
      have B := Lib.hid (refbound_any hard c k ((asked hard ps).2 : Nat) hr (by omega) (by omega))
      have hT : Hid (testNum hard c k ps = if boundOf hard c k ((asked hard ps).2 : Nat) < (((asked hard ps).1 : Nat) : Int) then 17 else 0) := by show _ = _; unfold testNum; rw [if_pos ⟨hr, ha⟩]
      generalize asked hard ps = A at *
      obtain ⟨S, M⟩ := A
      simp only at L B q1 q2
      simp only at hT
      generalize boundOf hard c k (M : Nat) = E at *
      clear h hl hr ha
      by_cases hE : E < (S : Int)
      · have d1 : decide (E < (S : Int)) = true := decide_eq_true hE
        have hT' : Hid (testNum hard c k ps = 17) := by show _ = _; rw [hT.out, if_pos hE]
        clear hT
        go_enter Try.func66, Try.ntmps66
        go_wp2_with fail
        refine (U.out _).mono ?_
        rintro e w1 ⟨rfl, rfl⟩
        go_wp2_with fail
        refine L.out.mono ?_
        rintro e w2 ⟨rfl, b2⟩
        go_wp2_with fail
        refine (B.out _).mono ?_
        rintro e w3 ⟨rfl, rfl⟩
        go_wp2_with fail
        go_ret
        exact ⟨ret1 (by rw [hT'.out]; rfl), b2⟩
      · have d1 : decide (E < (S : Int)) = false := decide_eq_false hE
        have hT' : Hid (testNum hard c k ps = 0) := by show _ = _; rw [hT.out, if_neg hE]
        clear hT
        go_enter Try.func66, Try.ntmps66
        go_wp2_with fail
        refine (U.out _).mono ?_
        rintro e w1 ⟨rfl, rfl⟩
        go_wp2_with fail
        refine L.out.mono ?_
        rintro e w2 ⟨rfl, b2⟩
        go_wp2_with fail
        refine (B.out _).mono ?_
        rintro e w3 ⟨rfl, rfl⟩
        go_wp2_with fail
        go_ret
        exact ⟨ret1 (by rw [hT'.out]; rfl), b2⟩
    · rw [if_neg ha] at L
      have hT' : Hid (testNum hard c k ps = 1) := by show _ = _; unfold testNum; rw [if_neg (fun h => ha h.2)]
      clear h hl hr ha
      go_enter Try.func66, Try.ntmps66
      go_wp2_with fail
      refine (U.out _).mono ?_
      rintro e w1 ⟨rfl, rfl⟩
      go_wp2_with fail
      refine L.out.mono ?_
      rintro e w2 ⟨rfl, b2⟩
      go_wp2_with fail
      go_ret
      exact ⟨ret1 (by rw [hT'.out]; rfl), b2⟩
  · rw [decide_eq_false hr] at U
    have hT' : Hid (testNum hard c k ps = 1) := by show _ = _; unfold testNum; rw [if_neg (fun h => hr h.1)]
    clear h hl hr
    go_enter Try.func66, Try.ntmps66
    go_wp2_with fail
    refine (U.out _).mono ?_
    rintro e w1 ⟨rfl, rfl⟩
    go_wp2_with fail
    go_ret
    exact ⟨ret1 (by rw [hT'.out]; rfl), Below.refl _ _⟩
/-- a rule, in a box of its own. -/
def ruleBox (hard : Bool) (c k : Int) : Obj := .cells #[.bool hard, .int .i64 c, .int .i64 k] 41
end Go.Proofs.Ytmcilmmnpolieaa
