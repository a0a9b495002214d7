/- What the reference of layer 21 answers: Within, Span. Each theorem's premises are its conditions. -/
import Derived.Test.YtfpifaccjfgfkaaTraceRefA
import Derived.Test.YtfpifaccjfgfkaaTracePlain
import Derived.Test.YtfpifaccjfgfkaaTraceBest
namespace Go.Proofs.Ytfpifaccjfgfkaa
open Go.ChangeShapes Go.WideShapes Go.ChangeAt Go.RowKit Go.Deep
attribute [local go_sem] Oper.semAt_some

/-! ### Within -/
theorem of_take (s : Int) (ys : List VC) {k : Nat} (hk : k < ys.length) : ofServer s (ys.take (k + 1)) = ofServer s (ys.take k) ++ (if (ys.getD k default).1.sv = s then [ys.getD k default] else []) := by
  rw [take_vc hk, ← get_vd hk]
  unfold ofServer
  rw [List.filter_append]
  congr 1
  by_cases h : (ys.getD k default).1.sv = s
  · rw [if_pos h, List.filter_cons, if_pos (by simpa using h)]; rfl
  · rw [if_neg h, List.filter_cons, if_neg (by simpa using h)]; rfl
/-- what of the first k lies in the window. -/
def wTo (s f t : Int) (ys : List VC) (k : Nat) : Int := sumOf (fun c => inWin f t c.1) (ofServer s (ys.take k))
theorem wTo_yes {s f t : Int} {ys : List VC} {k : Nat} (hk : k < ys.length) (h1 : (ys.getD k default).1.sv = s) (h2 : f ≤ (ys.getD k default).1.fr) (h3 : (ys.getD k default).1.to ≤ t) : wTo s f t ys (k + 1) = wTo s f t ys k + (ys.getD k default).1.n := by
  unfold wTo
  rw [of_take s ys hk, if_pos h1, sumOf_snoc, in_ins ⟨h2, h3⟩]
theorem wTo_no {s f t : Int} {ys : List VC} {k : Nat} (hk : k < ys.length) (h : ¬ ((ys.getD k default).1.sv = s ∧ f ≤ (ys.getD k default).1.fr ∧ (ys.getD k default).1.to ≤ t)) : wTo s f t ys (k + 1) = wTo s f t ys k := by
  unfold wTo
  rw [of_take s ys hk]
  by_cases h1 : (ys.getD k default).1.sv = s
  · rw [if_pos h1, sumOf_snoc, in_not (fun h2 => h ⟨h1, h2.1, h2.2⟩)]; omega
  · rw [if_neg h1, List.append_nil]
theorem wTo_bound (s f t : Int) (ys : List VC) (hl : ys.length ≤ 4000) (k : Nat) : 0 ≤ wTo s f t ys k ∧ wTo s f t ys k ≤ 4398046511104000 := by
  obtain ⟨h1, h2⟩ := sumOf_le (fun c => inWin f t c.1) 1099511627776 (fun c => inWin_bound f t c) (ofServer s (ys.take k))
  have : (ofServer s (ys.take k)).length ≤ 4000 := by
    unfold ofServer
    have a := List.length_filter_le (fun c : VC => decide (c.1.sv = s)) (ys.take k)
    have b := List.length_take_le k ys
    have d : (ys.take k).length ≤ ys.length := by rw [List.length_take]; omega
    omega
  unfold wTo
  omega
abbrev RAt (w : World) (g : Nat) (ys : List VC) : Prop := ∀ j, j < ys.length → ChgAt w g (j * 6) (ys.getD j default).1
set_option maxRecDepth 100000 in
set_option maxHeartbeats 2000000 in
theorem rwithin_some (g cap : Nat) (ys : List VC) (s f t : Int) (w : World) (hg : g < w.heap.size) (hc : RAt w g ys) (hl : ys.length ≤ 4000) :
    Calls Try.prog 32 #[.slice (some ⟨g, 0, none⟩) ys.length cap, .int .i64 s, .int .i64 f, .int .i64 t] w fun e w' => e = .returned (.int .i64 (wTo s f t ys ys.length)) ∧ w' = w := by
  have HC := Lib.hid hc
  have hbd : Hid (∀ k, 0 ≤ wTo s f t ys k ∧ wTo s f t ys k ≤ 4398046511104000) := wTo_bound s f t ys hl
  clear hc
  go_enter Try.func32, Try.ntmps32
  go_wp2_with fail
  go_loopw [9, 10] (fun n i wr => ∃ k : Nat, k ≤ ys.length ∧ i = .int .i64 k ∧ n = .int .i64 (wTo s f t ys k) ∧ wr = w) (fun _ i _ => ys.length - (intOf i).toNat)
  case atStart => exact ⟨0, Nat.zero_le _, rfl, by simp [wTo, ofServer, sumOf], rfl⟩
  case round =>
    obtain ⟨k, hk, rfl, rfl, rfl⟩ := hrel
    by_cases hlt : k < ys.length
    · have hA := HC.out k hlt
      obtain ⟨q0, q1, q2, q3, q4, q5⟩ := hA
      have hlt' : (k : Int) < (ys.length : Int) := by omega
      obtain ⟨n1, n2⟩ := hbd.out k
      obtain ⟨m1, m2⟩ := hbd.out (k + 1)
      by_cases a1 : (ys.getD k default).1.sv = s
      · by_cases a2 : f ≤ (ys.getD k default).1.fr
        · by_cases a3 : (ys.getD k default).1.to ≤ t
          · have HN := Lib.hid (wTo_yes hlt a1 a2 a3)
            have e0 : ((ys.getD k default).1.sv == s) = true := by simpa using a1
            have e1 : decide (f ≤ (ys.getD k default).1.fr) = true := decide_eq_true a2
            have e2 : decide ((ys.getD k default).1.to ≤ t) = true := decide_eq_true a3
            generalize (ys.getD k default).1.sv = Xs at *
            generalize (ys.getD k default).1.wk = Xw at *
            generalize (ys.getD k default).1.th = Xh at *
            generalize (ys.getD k default).1.fr = Xf at *
            generalize (ys.getD k default).1.to = Xt at *
            generalize (ys.getD k default).1.n = Xn at *
            rw [HN.out] at m1 m2
            generalize wTo s f t ys k = S at *
            clear a1 a2 a3
            go_wp2_with fail
            go_roundw
            case rel => exact ⟨k + 1, by omega, by simp, by rw [HN.out], by first | trivial | rfl⟩
            case measure => first | (simp [intOf]; done) | (simp [intOf]; omega)
          · have HN := Lib.hid (wTo_no (s := s) (f := f) (t := t) hlt (fun h => a3 h.2.2))
            have e0 : ((ys.getD k default).1.sv == s) = true := by simpa using a1
            have e1 : decide (f ≤ (ys.getD k default).1.fr) = true := decide_eq_true a2
            have e2 : decide ((ys.getD k default).1.to ≤ t) = false := decide_eq_false a3
            generalize (ys.getD k default).1.sv = Xs at *
            generalize (ys.getD k default).1.wk = Xw at *
            generalize (ys.getD k default).1.th = Xh at *
            generalize (ys.getD k default).1.fr = Xf at *
            generalize (ys.getD k default).1.to = Xt at *
            generalize (ys.getD k default).1.n = Xn at *
            generalize wTo s f t ys k = S at *
            clear a1 a2 a3
            go_wp2_with fail
            go_roundw
            case rel => exact ⟨k + 1, by omega, by simp, by rw [HN.out], by first | trivial | rfl⟩
            case measure => first | (simp [intOf]; done) | (simp [intOf]; omega)
        · have HN := Lib.hid (wTo_no (s := s) (f := f) (t := t) hlt (fun h => a2 h.2.1))
          have e0 : ((ys.getD k default).1.sv == s) = true := by simpa using a1
          have e1 : decide (f ≤ (ys.getD k default).1.fr) = false := decide_eq_false a2
          generalize (ys.getD k default).1.sv = Xs at *
          generalize (ys.getD k default).1.wk = Xw at *
          generalize (ys.getD k default).1.th = Xh at *
          generalize (ys.getD k default).1.fr = Xf at *
          generalize (ys.getD k default).1.to = Xt at *
          generalize (ys.getD k default).1.n = Xn at *
          generalize wTo s f t ys k = S at *
          clear a1 a2
          go_wp2_with fail
          go_roundw
          case rel => exact ⟨k + 1, by omega, by simp, by rw [HN.out], by first | trivial | rfl⟩
          case measure => first | (simp [intOf]; done) | (simp [intOf]; omega)
      · have HN := Lib.hid (wTo_no (s := s) (f := f) (t := t) hlt (fun h => a1 h.1))
        have e0 : ((ys.getD k default).1.sv == s) = false := by simpa using a1
        generalize (ys.getD k default).1.sv = Xs at *
        generalize (ys.getD k default).1.wk = Xw at *
        generalize (ys.getD k default).1.th = Xh at *
        generalize (ys.getD k default).1.fr = Xf at *
        generalize (ys.getD k default).1.to = Xt at *
        generalize (ys.getD k default).1.n = Xn at *
        generalize wTo s f t ys k = S at *
        clear a1
        go_wp2_with fail
        go_roundw
        case rel => exact ⟨k + 1, by omega, by simp, by rw [HN.out], by first | trivial | rfl⟩
        case measure => first | (simp [intOf]; done) | (simp [intOf]; omega)
    · obtain rfl : k = ys.length := by omega
      have hge : ¬ (ys.length : Int) < (ys.length : Int) := by omega
      go_wp2_with fail
      go_ret
      exact ⟨rfl, rfl⟩
set_option maxHeartbeats 1000000 in
theorem rwithin_none (s f t : Int) (w : World) :
    Calls Try.prog 32 #[.slice none 0 0, .int .i64 s, .int .i64 f, .int .i64 t] w fun e w' => e = .returned (.int .i64 0) ∧ w' = w := by
  go_enter Try.func32, Try.ntmps32
  go_wp2_with fail
  refine wp_loop_rounds 1 ?_
  rw [rounds_succ]
  go_wp2_with fail
  go_ret
  exact ⟨rfl, rfl⟩
/-! ### Span -/
/-- the widest pair of those ahead of i, k. -/
def SpanTo (s : Int) (ys : List VC) (i k : Nat) (X : Int) : Prop :=
  0 ≤ X ∧ X ≤ 1099511627776 ∧ (∀ a b, a < ys.length → b < ys.length → (a < i ∨ a = i ∧ b < k) → (ys.getD a default).1.sv = s → (ys.getD b default).1.sv = s → (ys.getD b default).1.to - (ys.getD a default).1.fr ≤ X) ∧
  (X = 0 ∨ ∃ a b, a < ys.length ∧ b < ys.length ∧ (ys.getD a default).1.sv = s ∧ (ys.getD b default).1.sv = s ∧ X = (ys.getD b default).1.to - (ys.getD a default).1.fr)
theorem span_start (s : Int) (ys : List VC) : SpanTo s ys 0 0 0 := ⟨by omega, by omega, fun a b _ _ h => by omega, .inl rfl⟩
theorem span_skip {s : Int} {ys : List VC} {i k : Nat} {X : Int} (h : SpanTo s ys i k X) (hn : ¬ ((ys.getD i default).1.sv = s ∧ (ys.getD k default).1.sv = s)) : SpanTo s ys i (k + 1) X := by
  obtain ⟨h0, h1, h2, h3⟩ := h
  refine ⟨h0, h1, fun a b ha hb hab sa sb => ?_, h3⟩
  by_cases e : a = i ∧ b = k
  · obtain ⟨rfl, rfl⟩ := e
    exact absurd ⟨sa, sb⟩ hn
  · exact h2 a b ha hb (by omega) sa sb
theorem span_take {s : Int} {ys : List VC} {i k : Nat} {X : Int} (h : SpanTo s ys i k X) (hi : i < ys.length) (hk : k < ys.length) (s1 : (ys.getD i default).1.sv = s) (s2 : (ys.getD k default).1.sv = s) : SpanTo s ys i (k + 1) (max X ((ys.getD k default).1.to - (ys.getD i default).1.fr)) := by
  obtain ⟨h0, h1, h2, h3⟩ := h
  obtain ⟨_, _, _, _, _, _, _, b1, b2, _, _⟩ := (ys.getD k default).2
  obtain ⟨_, _, _, _, _, _, c0, _, _, _, _⟩ := (ys.getD i default).2
  refine ⟨by omega, by omega, fun a b ha hb hab sa sb => ?_, ?_⟩
  · by_cases e : a = i ∧ b = k
    · obtain ⟨rfl, rfl⟩ := e
      omega
    · have := h2 a b ha hb (by omega) sa sb
      omega
  · by_cases e : X ≤ (ys.getD k default).1.to - (ys.getD i default).1.fr
    · exact .inr ⟨i, k, hi, hk, s1, s2, by omega⟩
    · rw [show max X ((ys.getD k default).1.to - (ys.getD i default).1.fr) = X by omega]
      exact h3
theorem span_row {s : Int} {ys : List VC} {i : Nat} {X : Int} (h : SpanTo s ys i ys.length X) : SpanTo s ys (i + 1) 0 X := by
  obtain ⟨h0, h1, h2, h3⟩ := h
  exact ⟨h0, h1, fun a b ha hb hab sa sb => h2 a b ha hb (by omega) sa sb, h3⟩
theorem span_end {s : Int} {ys : List VC} {X : Int} (h : SpanTo s ys ys.length 0 X) : Widest s ys X := by
  obtain ⟨h0, _, h2, h3⟩ := h
  exact ⟨h0, fun i k hi hk si sk => h2 i k hi hk (.inl hi) si sk, h3⟩
set_option maxRecDepth 100000 in
set_option maxHeartbeats 4000000 in
theorem rspan_some (g cap : Nat) (ys : List VC) (s : Int) (w : World) (hg : g < w.heap.size) (hc : RAt w g ys) (hl : ys.length ≤ 4000) :
    Calls Try.prog 14 #[.slice (some ⟨g, 0, none⟩) ys.length cap, .int .i64 s] w fun e w' => ∃ X, e = .returned (.int .i64 X) ∧ Widest s ys X ∧ Below w.heap.size w w' := by
  have HC := Lib.hid hc
  clear hc
  go_enter Try.func14, Try.ntmps14
  go_wp2_with fail
  go_loopw [5, 6, 7] (fun o i j wr => ∃ (k : Nat) (X : Int), k ≤ ys.length ∧ i = .int .i64 k ∧ o = .int .i64 X ∧ SpanTo s ys k 0 X ∧ Below w.heap.size w wr) (fun _ i _ _ => ys.length - (intOf i).toNat)
  case atStart => exact ⟨0, 0, Nat.zero_le _, rfl, rfl, span_start s ys, Below.refl _ _⟩
  case round =>
    obtain ⟨i, X0, hi, rfl, rfl, hsp, hb⟩ := hrel
    have HB := Lib.hid hb
    have HS := Lib.hid hsp
    clear hb hsp
    by_cases hlt : i < ys.length
    · have hlt' : (i : Int) < (ys.length : Int) := by omega
      have vi := HC.out i hlt
      have vv := (ys.getD i default).2
      obtain ⟨wo, rfl⟩ : ∃ wo : World, wo = wr := ⟨_, rfl⟩
      go_wp2_with fail
      go_loopw [5, 7] (fun o j wr => ∃ (k : Nat) (X : Int), k ≤ ys.length ∧ j = .int .i64 k ∧ o = .int .i64 X ∧ SpanTo s ys i k X ∧ Below w.heap.size w wr) (fun _ j _ => ys.length - (intOf j).toNat)
      case atStart => exact ⟨0, X0, Nat.zero_le _, rfl, rfl, HS.out, HB.out⟩
      case round =>
        obtain ⟨k, X, hk, rfl, rfl, hsp, hb⟩ := hrel
        have HB1 := Lib.hid hb
        have HS1 := Lib.hid hsp
        have hX0 := hsp.1
        have hX1 := hsp.2.1
        clear hb hsp
        by_cases hlk : k < ys.length
        · have hlk' : (k : Int) < (ys.length : Int) := by omega
          obtain ⟨p0, _, _, p3, _, _⟩ := (HC.out i hlt).same (HB1.out.block g hg)
          obtain ⟨q0, _, _, _, q4, _⟩ := (HC.out k hlk).same (HB1.out.block g hg)
          obtain ⟨_, _, _, _, _, _, c0, c1, c2, _, _⟩ := (ys.getD i default).2
          obtain ⟨_, _, _, _, _, _, b0, b1, b2, _, _⟩ := (ys.getD k default).2
          by_cases s1 : (ys.getD i default).1.sv = s
          · have t1 : ((ys.getD i default).1.sv == s) = true := by simpa using s1
            by_cases s2 : (ys.getD k default).1.sv = s
            · have t2 : ((ys.getD k default).1.sv == s) = true := by simpa using s2
              have HN := Lib.hid (span_take HS1.out hlt hlk s1 s2)
              generalize (ys.getD i default).1.sv = As at *
              generalize (ys.getD i default).1.fr = Af at *
              generalize (ys.getD i default).1.to = At at *
              generalize (ys.getD k default).1.sv = Ks at *
              generalize (ys.getD k default).1.fr = Kf at *
              generalize (ys.getD k default).1.to = Kt at *
              clear s1 s2
              go_wp2_with fail
              go_region
              all_goals
                go_wp2_with fail
                go_roundw
                case rel => exact ⟨k + 1, _, by omega, by simp, rfl, HN.out, by first | exact HB1.out | exact bel_drewN HB1.out | exact bel_drew HB1.out⟩
                case measure => first | (simp [intOf]; done) | (simp [intOf]; omega)
            · have t2 : ((ys.getD k default).1.sv == s) = false := by simpa using s2
              have HN := Lib.hid (span_skip HS1.out (fun h => s2 h.2))
              generalize (ys.getD i default).1.sv = As at *
              generalize (ys.getD k default).1.sv = Ks at *
              clear s1 s2
              go_wp2_with fail
              go_roundw
              case rel => exact ⟨k + 1, X, by omega, by simp, rfl, HN.out, HB1.out⟩
              case measure => first | (simp [intOf]; done) | (simp [intOf]; omega)
          · have t1 : ((ys.getD i default).1.sv == s) = false := by simpa using s1
            have HN := Lib.hid (span_skip HS1.out (fun h => s1 h.1))
            generalize (ys.getD i default).1.sv = As at *
            clear s1
            go_wp2_with fail
            go_roundw
            case rel => exact ⟨k + 1, X, by omega, by simp, rfl, HN.out, HB1.out⟩
            case measure => first | (simp [intOf]; done) | (simp [intOf]; omega)
        · obtain rfl : k = ys.length := by omega
          have hge : ¬ (ys.length : Int) < (ys.length : Int) := by omega
          have HN := Lib.hid (span_row HS1.out)
          go_wp2_with fail
          go_roundw
          case rel => exact ⟨i + 1, X, by omega, by simp, rfl, HN.out, HB1.out⟩
          case measure => first | (simp [intOf]; done) | (simp [intOf]; omega)
    · obtain rfl : i = ys.length := by omega
      have hge : ¬ (ys.length : Int) < (ys.length : Int) := by omega
      go_wp2_with fail
      go_ret
      exact ⟨X0, rfl, span_end HS.out, HB.out⟩
set_option maxHeartbeats 1000000 in
theorem rspan_none (s : Int) (w : World) : Calls Try.prog 14 #[.slice none 0 0, .int .i64 s] w fun e w' => e = .returned (.int .i64 0) ∧ w' = w := by
  go_enter Try.func14, Try.ntmps14
  go_wp2_with fail
  refine wp_loop_rounds 1 ?_
  rw [rounds_succ]
  go_wp2_with fail
  go_ret
  exact ⟨rfl, rfl⟩
end Go.Proofs.Ytfpifaccjfgfkaa
