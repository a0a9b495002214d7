/- What the reference's Excess answers. Each theorem's premises are its conditions. -/
import Derived.Test.YtfpifaccjfgfkaaTraceRefB
namespace Go.Proofs.Ytfpifaccjfgfkaa
open Go.ChangeShapes Go.WideShapes Go.ChangeAt Go.RowKit Go.Deep
attribute [local go_sem] Oper.semAt_some

theorem quiet_add_same {P : Program} {f : FuncId} {args : Array Value} {w : World} {a n : Nat} {v : Value}
    (h : Calls P f args (w.drewN (a + n)) fun e w' => e = .returned v ∧ w' = w.drewN (a + n)) :
    Calls P f args (w.drewN (a + n)) fun e w'' => e = .returned v ∧ ∃ m, w'' = w.drewN (a + m) :=
  h.mono fun _ _ ⟨he, hm⟩ => ⟨he, n, hm⟩
/-- the greatest of the pairs ahead of i, k. -/
def BestTo (q t s : Int) (ys : List VC) (i k : Nat) (first : Bool) (X : Int) : Prop :=
  (∀ a b, a < ys.length → b < ys.length → (a < i ∨ a = i ∧ b < k) → PairOk s ys a b → first = false ∧ pairV q t s ys a b ≤ X) ∧ (first = true → X = 0) ∧
  (first = false → ∃ a b, a < ys.length ∧ b < ys.length ∧ PairOk s ys a b ∧ X = pairV q t s ys a b)
theorem best_start (q t s : Int) (ys : List VC) : BestTo q t s ys 0 0 true 0 := ⟨fun a b _ _ h => by omega, fun _ => rfl, fun h => by cases h⟩
theorem best_skip {q t s : Int} {ys : List VC} {i k : Nat} {f : Bool} {X : Int} (h : BestTo q t s ys i k f X) (hn : ¬ PairOk s ys i k) : BestTo q t s ys i (k + 1) f X := by
  obtain ⟨h1, h2, h3⟩ := h
  refine ⟨fun a b ha hb hab hp => ?_, h2, h3⟩
  by_cases e : a = i ∧ b = k
  · obtain ⟨rfl, rfl⟩ := e
    exact absurd hp hn
  · exact h1 a b ha hb (by omega) hp
theorem best_take {q t s : Int} {ys : List VC} {i k : Nat} {f : Bool} {X : Int} (h : BestTo q t s ys i k f X) (hi : i < ys.length) (hk : k < ys.length) (hp : PairOk s ys i k) (hg : f = true ∨ X < pairV q t s ys i k) : BestTo q t s ys i (k + 1) false (pairV q t s ys i k) := by
  obtain ⟨h1, h2, h3⟩ := h
  refine ⟨fun a b ha hb hab hq => ⟨rfl, ?_⟩, (by intro h; cases h), fun _ => ⟨i, k, hi, hk, hp, rfl⟩⟩
  by_cases e : a = i ∧ b = k
  · obtain ⟨rfl, rfl⟩ := e
    exact Int.le_refl _
  · obtain ⟨e1, e2⟩ := h1 a b ha hb (by omega) hq
    rcases hg with hg | hg
    · rw [hg] at e1; cases e1
    · omega
theorem best_keep {q t s : Int} {ys : List VC} {i k : Nat} {X : Int} (h : BestTo q t s ys i k false X) (hg : pairV q t s ys i k ≤ X) : BestTo q t s ys i (k + 1) false X := by
  obtain ⟨h1, h2, h3⟩ := h
  refine ⟨fun a b ha hb hab hq => ?_, h2, h3⟩
  by_cases e : a = i ∧ b = k
  · obtain ⟨rfl, rfl⟩ := e
    exact ⟨rfl, hg⟩
  · exact h1 a b ha hb (by omega) hq
theorem best_row {q t s : Int} {ys : List VC} {i : Nat} {f : Bool} {X : Int} (h : BestTo q t s ys i ys.length f X) : BestTo q t s ys (i + 1) 0 f X := by
  obtain ⟨h1, h2, h3⟩ := h
  exact ⟨fun a b ha hb hab hq => h1 a b ha hb (by omega) hq, h2, h3⟩
theorem best_end {q t s : Int} {ys : List VC} {f : Bool} {X : Int} (h : BestTo q t s ys ys.length 0 f X) : Best q t s ys X := by
  obtain ⟨h1, h2, h3⟩ := h
  refine ⟨fun a b ha hb hq => (h1 a b ha hb (.inl ha) hq).2, ?_⟩
  cases f with
  | false => exact .inl (h3 rfl)
  | true =>
    refine .inr ⟨fun i hi hs => ?_, h2 rfl⟩
    have := (h1 i i hi hi (.inl hi) ⟨hs, hs, Int.le_refl _⟩).1
    cases this
theorem win_wTo (s : Int) (ys : List VC) (i k : Nat) : wTo s (ys.getD i default).1.fr (ys.getD k default).1.to ys ys.length = winV s ys i k := by unfold wTo winV; rw [List.take_length]
set_option maxRecDepth 100000 in
set_option maxHeartbeats 4000000 in
theorem rexc_some (g cap : Nat) (ys : List VC) (s q d t : Int) (w : World) (hg : g < w.heap.size) (hc : RAt w g ys) (hl : ys.length ≤ 4000) (hcalm : Calm (ys.map (·.1))) (hp : ParamsMay q d t)
    (hs : ∀ i k, i < ys.length → k < ys.length → (ys.getD i default).1.sv = s → (ys.getD k default).1.sv = s → (ys.getD k default).1.to - (ys.getD i default).1.fr ≤ 2147483648) :
    Calls Try.prog 15 #[.slice (some ⟨g, 0, none⟩) ys.length cap, .int .i64 s, .agg #[.int .i64 q, .int .i64 d, .int .i64 t]] w fun e w' => ∃ X, e = .returned (.int .i64 X) ∧ Best q t s ys X ∧ Below w.heap.size w w' := by
  have HC := Lib.hid hc
  have HCALM := Lib.hid hcalm
  have HSP := Lib.hid hs
  obtain ⟨p1, p2, p3, p4⟩ := hp
  clear hc hcalm hs
  go_enter Try.func15, Try.ntmps15
  go_wp2_with fail
  go_loopw [7, 8, 9, 10, 11] (fun o fi i j n wr => ∃ (k : Nat) (f : Bool) (X : Int), k ≤ ys.length ∧ i = .int .i64 k ∧ o = .int .i64 X ∧ fi = .bool f ∧ BestTo q t s ys k 0 f X ∧ Below (w.alloc (.cells #[.int .i64 q, .int .i64 d, .int .i64 t] 24)).heap.size (w.alloc (.cells #[.int .i64 q, .int .i64 d, .int .i64 t] 24)) wr) (fun _ _ i _ _ _ => ys.length - (intOf i).toNat)
  case atStart => exact ⟨0, true, 0, Nat.zero_le _, rfl, rfl, rfl, best_start q t s ys, Below.refl _ _⟩
  case round =>
    obtain ⟨i, f0, X0, hi, rfl, rfl, rfl, hsp, hb⟩ := hrel
    have HB := Lib.hid hb
    have HS := Lib.hid hsp
    clear hb hsp
    by_cases hlt : i < ys.length
    · have hlt' : (i : Int) < (ys.length : Int) := by omega
      obtain ⟨wo, rfl⟩ : ∃ wo : World, wo = wr := ⟨_, rfl⟩
      go_wp2_with fail
      go_loopw [7, 8, 10, 11] (fun o fi j n wr => ∃ (k : Nat) (f : Bool) (X : Int), k ≤ ys.length ∧ j = .int .i64 k ∧ o = .int .i64 X ∧ fi = .bool f ∧ BestTo q t s ys i k f X ∧ Below (w.alloc (.cells #[.int .i64 q, .int .i64 d, .int .i64 t] 24)).heap.size (w.alloc (.cells #[.int .i64 q, .int .i64 d, .int .i64 t] 24)) wr) (fun _ _ j _ _ => ys.length - (intOf j).toNat)
      case atStart => exact ⟨0, f0, X0, Nat.zero_le _, rfl, rfl, rfl, HS.out, HB.out⟩
      case round =>
        obtain ⟨k, f, X, hk, rfl, rfl, rfl, hsp, hb⟩ := hrel
        have HB1 := Lib.hid hb
        have HS1 := Lib.hid hsp
        have hsz := hb.size
        simp at hsz
        have z0 := (hb.cell (p := ⟨w.heap.size, 0, none⟩) (by simp)).trans (show _ = some (Value.int .i64 q) by go_simp)
        have z2 := (hb.cell (p := ⟨w.heap.size, 2, none⟩) (by simp)).trans (show _ = some (Value.int .i64 t) by go_simp)
        clear hb hsp
        by_cases hlk : k < ys.length
        · have hlk' : (k : Int) < (ys.length : Int) := by omega
          have HW := Lib.hid ((bel_alloc (o := .cells #[.int .i64 q, .int .i64 d, .int .i64 t] 24) (Below.refl w.heap.size w)).trans (HB1.out.mono (by simp)))
          obtain ⟨u0, _, _, u3, _, _⟩ := (HC.out i hlt).same (HW.out.block g hg)
          obtain ⟨v0, _, _, v3, v4, _⟩ := (HC.out k hlk).same (HW.out.block g hg)
          obtain ⟨_, _, _, _, _, _, c0, c1, c2, _, _⟩ := (ys.getD i default).2
          obtain ⟨_, _, _, _, _, _, b0, b1, b2, _, _⟩ := (ys.getD k default).2
          by_cases s1 : (ys.getD i default).1.sv = s
          · have t1 : ((ys.getD i default).1.sv != s) = false := by simpa using s1
            by_cases s2 : (ys.getD k default).1.sv = s
            · have t2 : ((ys.getD k default).1.sv != s) = false := by simpa using s2
              by_cases s3 : (ys.getD k default).1.fr < (ys.getD i default).1.fr
              · have t3 : decide ((ys.getD k default).1.fr < (ys.getD i default).1.fr) = true := decide_eq_true s3
                have HN := Lib.hid (best_skip HS1.out (fun h => by have := h.2.2; omega))
                generalize (ys.getD i default).1.sv = As at *
                generalize (ys.getD i default).1.fr = Af at *
                generalize (ys.getD i default).1.to = At at *
                generalize (ys.getD k default).1.sv = Ks at *
                generalize (ys.getD k default).1.fr = Kf at *
                generalize (ys.getD k default).1.to = Kt at *
                clear s1 s2 s3
                go_upto_region 9 with fail
                go_quiet (fail)
                go_wp2_with fail
                go_roundw
                case rel => exact ⟨k + 1, f, X, by omega, by simp, rfl, rfl, HN.out, by first | exact HB1.out | exact bel_drewN HB1.out⟩
                case measure => first | (simp [intOf]; done) | (simp [intOf]; omega)
              · have t3 : decide ((ys.getD k default).1.fr < (ys.getD i default).1.fr) = false := decide_eq_false s3
                have HP : PairOk s ys i k := ⟨s1, s2, by omega⟩
                obtain ⟨w1, w2⟩ := win_bound HCALM.out HP
                have w3 := HSP.out i k hlt hlk s1 s2
                have WI : Hid (∀ W : World, W.heap[g]? = w.heap[g]? → W.heap.size = wr.heap.size → Calls Try.prog 32 #[.slice (some ⟨g, 0, none⟩) ys.length cap, .int .i64 s, .int .i64 (ys.getD i default).1.fr, .int .i64 (ys.getD k default).1.to] W fun e w' => e = .returned (.int .i64 (winV s ys i k)) ∧ w' = W) := fun W e1 e2 => by
                  have := rwithin_some g cap ys s (ys.getD i default).1.fr (ys.getD k default).1.to W (by have := HW.out.size; omega) (fun j hj => (HC.out j hj).same e1) hl
                  rw [win_wTo] at this
                  exact this
                have hblk := Lib.hid (HW.out.block g hg)
                have hV : Hid (pairV q t s ys i k = t * winV s ys i k - q * ((ys.getD k default).1.to - (ys.getD i default).1.fr)) := rfl
                have HT1 : Hid (f = true ∨ X < pairV q t s ys i k → BestTo q t s ys i (k + 1) false (pairV q t s ys i k)) := best_take HS1.out hlt hlk HP
                have HK1 : Hid (f = false → pairV q t s ys i k ≤ X → BestTo q t s ys i (k + 1) false X) := fun e h => best_keep (by have := HS1.out; rw [e] at this; exact this) h
                have HPH := Lib.hid HP
                generalize pairV q t s ys i k = V at *
                generalize winV s ys i k = Wn at *
                generalize (ys.getD i default).1.sv = As at *
                generalize (ys.getD i default).1.fr = Af at *
                generalize (ys.getD i default).1.to = At at *
                generalize (ys.getD k default).1.sv = Ks at *
                generalize (ys.getD k default).1.fr = Kf at *
                generalize (ys.getD k default).1.to = Kt at *
                have m1 := mul_bound (a := t) (b := Wn) (M := 2147483648) (by omega) p4 w1 (by omega)
                have m2 := mul_bound (a := q) (b := Kt - Af) (M := 2147483648) (by omega) (by omega) (by omega) w3
                clear HP s1 s2 s3
                go_upto_region 9 with fail
                go_quiet (fail)
                go_upto_region 10 with fail
                go_quiet ((go_at_call 32; exact quiet_add_same (WI.out _ hblk.out rfl)))
                cases f with
                | true =>
                  have HN := Lib.hid (HT1.out (.inl rfl))
                  rw [hV.out] at HN
                  go_wp2_with fail
                  go_roundw
                  case rel => exact ⟨k + 1, false, _, by omega, by simp, rfl, rfl, HN.out, by first | exact HB1.out | exact bel_drewN HB1.out⟩
                  case measure => first | (simp [intOf]; done) | (simp [intOf]; omega)
                | false =>
                  by_cases hgt : X < t * Wn - q * (Kt - Af)
                  · have HN := Lib.hid (HT1.out (.inr (by rw [hV.out]; exact hgt)))
                    rw [hV.out] at HN
                    have d1 : decide (X < t * Wn - q * (Kt - Af)) = true := decide_eq_true hgt
                    clear hgt
                    go_wp2_with fail
                    go_roundw
                    case rel => exact ⟨k + 1, false, _, by omega, by simp, rfl, rfl, HN.out, by first | exact HB1.out | exact bel_drewN HB1.out⟩
                    case measure => first | (simp [intOf]; done) | (simp [intOf]; omega)
                  · have HN := Lib.hid (HK1.out rfl (by rw [hV.out]; omega))
                    have d1 : decide (X < t * Wn - q * (Kt - Af)) = false := decide_eq_false hgt
                    clear hgt
                    go_wp2_with fail
                    go_roundw
                    case rel => exact ⟨k + 1, false, X, by omega, by simp, rfl, rfl, HN.out, by first | exact HB1.out | exact bel_drewN HB1.out⟩
                    case measure => first | (simp [intOf]; done) | (simp [intOf]; omega)
            · have t2 : ((ys.getD k default).1.sv != s) = true := by simpa using s2
              have HN := Lib.hid (best_skip HS1.out (fun h => s2 h.2.1))
              generalize (ys.getD i default).1.sv = As at *
              generalize (ys.getD k default).1.sv = Ks at *
              clear s1 s2
              go_upto_region 9 with fail
              go_quiet (fail)
              go_wp2_with fail
              go_roundw
              case rel => exact ⟨k + 1, f, X, by omega, by simp, rfl, rfl, HN.out, by first | exact HB1.out | exact bel_drewN HB1.out⟩
              case measure => first | (simp [intOf]; done) | (simp [intOf]; omega)
          · have t1 : ((ys.getD i default).1.sv != s) = true := by simpa using s1
            have HN := Lib.hid (best_skip HS1.out (fun h => s1 h.1))
            generalize (ys.getD i default).1.sv = As at *
            clear s1
            go_upto_region 9 with fail
            go_quiet (fail)
            go_wp2_with fail
            go_roundw
            case rel => exact ⟨k + 1, f, X, by omega, by simp, rfl, rfl, HN.out, by first | exact HB1.out | exact bel_drewN HB1.out⟩
            case measure => first | (simp [intOf]; done) | (simp [intOf]; omega)
        · obtain rfl : k = ys.length := by omega
          have hge : ¬ (ys.length : Int) < (ys.length : Int) := by omega
          have HN := Lib.hid (best_row HS1.out)
          go_wp2_with fail
          go_roundw
          case rel => exact ⟨i + 1, f, X, by omega, by simp, rfl, rfl, HN.out, HB1.out⟩
          case measure => first | (simp [intOf]; done) | (simp [intOf]; omega)
    · obtain rfl : i = ys.length := by omega
      have hge : ¬ (ys.length : Int) < (ys.length : Int) := by omega
      go_wp2_with fail
      go_ret
      exact ⟨X0, rfl, best_end HS.out, (bel_alloc (Below.refl w.heap.size w)).trans (HB.out.mono (by simp))⟩
set_option maxHeartbeats 1000000 in
theorem rexc_none (s q d t : Int) (w : World) : Calls Try.prog 15 #[.slice none 0 0, .int .i64 s, .agg #[.int .i64 q, .int .i64 d, .int .i64 t]] w (Gives (.int .i64 0) w) := by
  go_enter Try.func15, Try.ntmps15
  go_wp2_with fail
  refine wp_loop_rounds 1 ?_
  rw [rounds_succ]
  go_wp2_with fail
  go_ret
  exact ⟨rfl, bel_alloc (Below.refl _ _)⟩
end Go.Proofs.Ytfpifaccjfgfkaa
