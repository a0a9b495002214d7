/- What a new trace holds behind Add; sums over charges. Each theorem's premises are its conditions. -/
import Derived.Test.YtfpifaccjfgfkaaTraceAwake
namespace Go.Proofs.Ytfpifaccjfgfkaa
open Go.RowKit

theorem fits_zero {cs : List Chg} {c : Chg} : fitsErr cs c = 0 ↔ Vld c ∧ ∀ o ∈ cs, ¬ Clash o c := by
  unfold fitsErr
  constructor
  · intro h
    split at h
    · rename_i h1; exact absurd h h1
    · rename_i h1
      split at h
      · cases h
      · rename_i h2
        refine ⟨chk_zero.1 (Decidable.not_not.1 h1), fun o ho hx => h2 ?_⟩
        unfold anyClash
        rw [List.any_eq_true]
        exact ⟨o, ho, by simpa using hx⟩
  · rintro ⟨h1, h2⟩
    rw [if_neg (fun h => h (chk_zero.2 h1)), if_neg]
    intro h
    unfold anyClash at h
    rw [List.any_eq_true] at h
    obtain ⟨o, ho, hx⟩ := h
    exact h2 o ho (by simpa using hx)
theorem addGo_zero (was : List Chg) : ∀ (l cur : List Chg), (addGo was cur l).2 = 0 → (addGo was cur l).1 = cur ++ l ∧ (∀ c ∈ l, Vld c) ∧ (∀ c ∈ l, ∀ o ∈ cur, ¬ Clash o c) ∧ Calm l
  | [], cur, _ => ⟨by simp [addGo], fun c h => absurd h (by simp), fun c h => absurd h (by simp), List.Pairwise.nil⟩
  | c :: l, cur, h => by
    unfold addGo at h ⊢
    by_cases hf : fitsErr cur c = 0
    · rw [if_pos hf] at h ⊢
      obtain ⟨i1, i2, i3, i4⟩ := addGo_zero was l (cur ++ [c]) h
      obtain ⟨f1, f2⟩ := fits_zero.1 hf
      refine ⟨by rw [i1]; simp, ?_, ?_, ?_⟩
      · intro x hx
        rcases List.mem_cons.1 hx with rfl | hx
        · exact f1
        · exact i2 x hx
      · intro x hx o ho
        rcases List.mem_cons.1 hx with rfl | hx
        · exact f2 o ho
        · exact i3 x hx o (List.mem_append_left _ ho)
      · exact List.Pairwise.cons (fun x hx => i3 x hx c (by simp)) i4
    · rw [if_neg hf] at h
      exact absurd h hf
theorem addGo_not (was : List Chg) : ∀ (l cur : List Chg), (addGo was cur l).2 ≠ 0 → (addGo was cur l).1 = was
  | [], cur, h => absurd rfl h
  | c :: l, cur, h => by
    unfold addGo at h ⊢
    by_cases hf : fitsErr cur c = 0
    · rw [if_pos hf] at h ⊢
      exact addGo_not was l (cur ++ [c]) h
    · rw [if_neg hf]
theorem addGo_ok (was : List Chg) : ∀ (l cur : List Chg), (∀ c ∈ l, Vld c) → (∀ c ∈ l, ∀ o ∈ cur, ¬ Clash o c) → Calm l → addGo was cur l = (cur ++ l, 0)
  | [], cur, _, _, _ => by simp [addGo]
  | c :: l, cur, h1, h2, h3 => by
    unfold addGo
    obtain ⟨p1, p2⟩ := List.pairwise_cons.1 h3
    rw [if_pos (fits_zero.2 ⟨h1 c (List.mem_cons_self ..), h2 c (List.mem_cons_self ..)⟩), addGo_ok was l (cur ++ [c]) (fun x hx => h1 x (List.mem_cons_of_mem _ hx)) ?_ p2]
    · simp
    · intro x hx o ho
      rcases List.mem_append.1 ho with ho | ho
      · exact h2 x (List.mem_cons_of_mem _ hx) o ho
      · obtain rfl := List.mem_singleton.1 ho
        exact p1 x hx
theorem add_zero {l : List Chg} (h : (addAll [] l).2 = 0) : (addAll [] l).1 = l ∧ (∀ c ∈ l, Vld c) ∧ Calm l := by
  obtain ⟨h1, h2, _, h4⟩ := addGo_zero [] l [] h
  exact ⟨by rw [addAll, h1]; rfl, h2, h4⟩
theorem add_not {l : List Chg} (h : (addAll [] l).2 ≠ 0) : (addAll [] l).1 = [] := addGo_not [] l [] h
theorem calm_reverse {l : List Chg} (h : Calm l) : Calm l.reverse := by
  unfold Calm at *
  rw [List.pairwise_reverse]
  exact h.imp calm_symm
theorem add_reverse (l : List Chg) : (addAll [] l.reverse).2 = 0 ↔ (addAll [] l).2 = 0 := by
  constructor
  · intro h
    obtain ⟨_, h2, h3⟩ := add_zero h
    have := calm_reverse h3
    rw [List.reverse_reverse] at this
    rw [addAll, addGo_ok [] l [] (fun c hc => h2 c (List.mem_reverse.2 hc)) (fun _ _ o ho => absurd ho (by simp)) this]
  · intro h
    obtain ⟨_, h2, h3⟩ := add_zero h
    rw [addAll, addGo_ok [] l.reverse [] (fun c hc => h2 c (List.mem_reverse.1 hc)) (fun _ _ o ho => absurd ho (by simp)) (calm_reverse h3)]
/-- Add at a new trace, of charges that lie below it. -/
theorem add_fresh (B g : Nat) (vl : Value) (l : List Chg) (w0 w : World) (h0 : ChgRow w0 vl l) (k : Below w0.heap.size w0 w) (hg : w0.heap.size ≤ g) (hT : TAt w B g (.slice none 0 0) []) (hB : B ≤ w.heap.size) (hn : l.length ≤ 4000) :
    Calls Try.prog 19 #[.pointer (some ⟨g, 0, none⟩), vl] w (Added B g (.slice none 0 0) [] l w) := by
  rcases h0 with ⟨a, cap, rfl, rfl⟩ | ⟨b, off, cap, rfl, hb, hp, hc⟩
  · refine (add_empty B g _ [] a cap w hT).mono fun e w' hh => ?_
    obtain ⟨rfl, rfl⟩ := hh
    exact ⟨rfl, _, hT, Only.refl _ _, fun r e => .inl e⟩
  · exact add_any B g _ _ [] l w hB hT (.inr ⟨b, off, cap, rfl, Nat.lt_of_lt_of_le hb k.size, hp, fun j hj => (hc j hj).below hb k⟩) (fun r e => by
      have e' : b = r := by simpa [Value.ownBlock] using e
      subst e'
      exact ⟨by omega, by simp [Value.ownBlock]⟩) (fun c h => absurd h (by simp)) (by simpa using hn)
/-- behind it nothing that lay below the trace has turned. -/
theorem added_below {B g : Nat} {w w' : World} (h : Only w w' (fun k => k = g ∨ (Value.slice none 0 0).ownBlock = some k)) (hB : B ≤ w.heap.size) (hg : B ≤ g) : Below B w w' :=
  h.below hB (fun k hk => by
    rcases hk with rfl | hk
    · exact hg
    · exact absurd hk (by simp [Value.ownBlock]))
theorem sumOf_mono {f g : VC → Int} (h : ∀ c, f c ≤ g c) : ∀ l : List VC, sumOf f l ≤ sumOf g l
  | [] => Int.le_refl _
  | c :: l => by rw [sumOf, sumOf]; have := h c; have := sumOf_mono h l; omega
theorem sumOf_add (f g : VC → Int) : ∀ l : List VC, sumOf (fun c => f c + g c) l = sumOf f l + sumOf g l
  | [] => rfl
  | c :: l => by rw [sumOf, sumOf, sumOf, sumOf_add f g l]; omega
theorem told_ok {below n f t x : Int} (h : askErr n below f t = 0) : told below n f t x = .tuple #[.int .i64 x, .int .i64 0] := by unfold told; rw [if_pos h]
theorem told_not {below n f t x : Int} (h : askErr n below f t ≠ 0) : told below n f t x = .tuple #[.int .i64 0, .int .i64 (askErr n below f t)] := by unfold told; rw [if_neg h]
theorem ask_ok {n below f t : Int} (h0 : 0 ≤ n) (h1 : n < below) (h2 : 0 ≤ f) (h3 : f ≤ t) (h4 : t < 1099511627776) : askErr n below f t = 0 := by
  unfold askErr
  rw [if_neg (by rw [inB_true.2 ⟨h0, h1⟩]; decide), if_neg, if_neg (by omega)]
  rw [first_zero.2 ⟨time_zero.2 ⟨h2, by omega⟩, time_zero.2 ⟨by omega, h4⟩⟩]
  decide
end Go.Proofs.Ytfpifaccjfgfkaa
