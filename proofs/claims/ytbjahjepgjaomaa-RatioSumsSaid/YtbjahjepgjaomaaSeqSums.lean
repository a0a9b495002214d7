/- What ratio.Sums answers of an iterator that hands out numbers. Each theorem's premises are its conditions. -/
import Derived.Test.YtbjahjepgjaomaaRatioSum
import Derived.RangeFuncFrom
import Derived.RangeFuncNested
import Derived.RangeFuncBound
import Derived.RangeFuncCalls
import Derived.RangeFuncLeaves
import Derived.RangeFuncBox
import Derived.Shelf.Abstract
import Derived.Shelf.RegionOpen
import Derived.OwnWalkIn
import Derived.TacticsInMore
import Derived.LoopNIn
import Derived.LoopIn
import Derived.Scope
import Derived.ControlIn
namespace Go.Proofs.Ytbjahjepgjaomaa
open Go.RowKit Go.Shelf
attribute [local go_sem] Oper.semAt_some

/-- a number of 64 bits. -/
abbrev I64 := { x : Int // Fit x }
/-- one number more: the sum, the greatest one, and what is wrong; where something is wrong, it stays so. -/
def sumsStep (st : Int × Int × Int) (x : Int) : Int × Int × Int :=
  if st.2.2 = 0 then (if rsumErr [st.1, x] = 0 then (rsumNum [st.1, x], max st.2.1 x, 0) else (0, st.2.1, rsumErr [st.1, x])) else st
def sumsTo (xs : List I64) : Int × Int × Int := (xs.map (·.1)).foldl sumsStep (0, 0, 0)
theorem sumsTo_snoc (pre : List I64) (x : I64) : sumsTo (pre ++ [x]) = sumsStep (sumsTo pre) x.1 := by simp [sumsTo]
theorem sumsStep_stays (st : Int × Int × Int) (h : st.2.2 ≠ 0) : ∀ ys : List Int, ys.foldl sumsStep st = st
  | [] => rfl
  | y :: ys => by
    have e : sumsStep st y = st := by unfold sumsStep; rw [if_neg h]
    rw [List.foldl_cons, e]; exact sumsStep_stays st h ys
theorem sumsTo_stays {pre xs : List I64} (hp : pre <+: xs) (h : (sumsTo pre).2.2 ≠ 0) : sumsTo xs = sumsTo pre := by
  obtain ⟨r, rfl⟩ := hp
  unfold sumsTo at *
  rw [List.map_append, List.foldl_append]
  exact sumsStep_stays _ h _
theorem rsumNum_fit (xs : List Int) : Fit (rsumNum xs) := by
  unfold rsumNum; split
  · exact ⟨by omega, by omega⟩
  · exact sumNum_fit xs
theorem sumsStep_fit (st : Int × Int × Int) (x : Int) (h : Fit st.1) : Fit (sumsStep st x).1 := by
  unfold sumsStep; split
  · split
    · exact rsumNum_fit _
    · exact ⟨by show (-9223372036854775808 : Int) ≤ 0; omega, by show (0 : Int) ≤ 9223372036854775807; omega⟩
  · exact h
theorem sumsFold_fit : ∀ (ys : List Int) (st : Int × Int × Int), Fit st.1 → Fit (ys.foldl sumsStep st).1
  | [], _, h => h
  | y :: ys, st, h => sumsFold_fit ys _ (sumsStep_fit st y h)
theorem sumsTo_fit (xs : List I64) : Fit (sumsTo xs).1 := sumsFold_fit _ _ ⟨by show (-9223372036854775808 : Int) ≤ 0; omega, by show (0 : Int) ≤ 9223372036854775807; omega⟩
theorem rsum_pair (a x : Int) (ha : Fit a) (hx : Fit x) (b : Nat) (w : World) (h0 : w.cell? ⟨b, 0, none⟩ = some (.int .i64 a)) (h1 : w.cell? ⟨b, 1, none⟩ = some (.int .i64 x)) :
    Calls Try.prog 19 #[.slice (some ⟨b, 0, none⟩) 2 2] w fun e w' => e = .returned (.tuple #[.int .i64 (rsumNum [a, x]), .int .i64 (rsumErr [a, x])]) ∧ w = w' :=
  rsum_any (.slice (some ⟨b, 0, none⟩) 2 2) [a, x] w (.inr ⟨b, 0, 2, rfl, cell_lt h0, by simp, fun j hj => by
    match j, hj with
    | 0, _ => exact h0
    | 1, _ => exact h1⟩) (by
    intro n hn
    simp at hn
    rcases hn with rfl | rfl
    · exact ha
    · exact hx) (by simp)

/-- what lies in the three results' boxes. -/
def SumsAt (B : Nat) (s m e : Int) (W : World) : Prop :=
  (W.cell? ⟨B, 0, none⟩ = some (.int .i64 s) ∧ W.frozen? ⟨B, 0, none⟩ = false) ∧ (W.cell? ⟨B + 1, 0, none⟩ = some (.int .i64 m) ∧ W.frozen? ⟨B + 1, 0, none⟩ = false) ∧ (W.cell? ⟨B + 1 + 1, 0, none⟩ = some (.int .i64 e) ∧ W.frozen? ⟨B + 1 + 1, 0, none⟩ = false)

set_option maxRecDepth 100000 in
set_option maxHeartbeats 2000000 in
theorem sums_wide (gf : FuncId) (lb : Array Value) (xs : List I64) (N : Nat) (w : World) (eg : Enters Try.prog gf)
    (hS : ∀ W, Below w.heap.size w W → SeqStopsK Fence.wide 5 Try.prog gf lb (fun x : I64 => #[.int .i64 x.1]) (Below w.heap.size) (fun ys => ys = xs) (fun pre => pre <+: xs) N W) :
    CallsIn Fence.wide 6 Try.prog 20 #[.func (.func gf) #[] lb] w fun e W' =>
      e = .returned (if (sumsTo xs).2.2 = 0 then .tuple #[.int .i64 (sumsTo xs).1, .int .i64 (sumsTo xs).2.1, .int .i64 0] else .tuple #[.int .i64 0, .int .i64 0, .int .i64 (sumsTo xs).2.2]) ∧ Below w.heap.size w W' := by
  refine callsIn_of_wp_marks Try.func20 rfl trivial ?_ rfl
  simp only [Try.ntmps20, List.size_toArray, List.length_cons, List.length_nil, Nat.reduceAdd, Nat.reduceSub, Array.replicate_succ, Array.replicate_zero, List.push_toArray, List.append_toArray, List.nil_append, List.cons_append]
  have hq : ∀ w : World, (binOp .eql 52 (.func (.func gf) #[] lb) .nilFunc).run Try.prog w = .ok (.bool false) w := fun _ => rfl
  gi_wp2
  refine wpIn_wide.2 ?_
  apply wp_scope_straight
  refine (wpIn_wide (n := 6)).1 ?_
  gi_wp2
  refine wpIn_label ?_
  gi_wp2
  have hB0 : Below w.heap.size w (((w.alloc (.cells #[.int .i64 0] 3)).alloc (.cells #[.int .i64 0] 3)).alloc (.cells #[.int .i64 0] 22)) := bel_alloc (bel_alloc (bel_alloc (Below.refl _ _)))
  refine wpIn_rangeFunc_ownF rfl (by omega) (gf := gf) (lb := lb) rfl trivial eg (hS _ hB0) belowK_t (belowK_b (by simp; omega)) (Below.refl _ _) (fun _ => rfl)
    (fun pre W => ((sumsTo pre).2.2 = 0 ∧ SumsAt w.heap.size (sumsTo pre).1 (sumsTo pre).2.1 0 W) ∧ Below w.heap.size w W)
    (fun c pre W => (c = .exit 0 ∧ (sumsTo pre).2.2 ≠ 0 ∧ ∃ s m, SumsAt w.heap.size s m (sumsTo pre).2.2 W) ∧ Below w.heap.size w W)
    (OwnFrom.and (Own.from (fun s A B row hs hg hr => ⟨hs.1, ⟨cell_kept hs.2.1.1 hg hr, (frozen_kept hs.2.1.1 hg hr).trans hs.2.1.2⟩, ⟨cell_kept hs.2.2.1.1 hg hr, (frozen_kept hs.2.2.1.1 hg hr).trans hs.2.2.1.2⟩, ⟨cell_kept hs.2.2.2.1 hg hr, (frozen_kept hs.2.2.2.1 hg hr).trans hs.2.2.2.2⟩⟩) _) (ownFrom_below (Nat.le_refl _) (by simp; omega)))
    (fun c => OwnFrom.and (Own.from (fun s A B row hs hg hr => ⟨hs.1, hs.2.1, hs.2.2.choose, hs.2.2.choose_spec.choose, ⟨cell_kept hs.2.2.choose_spec.choose_spec.1.1 hg hr, (frozen_kept hs.2.2.choose_spec.choose_spec.1.1 hg hr).trans hs.2.2.choose_spec.choose_spec.1.2⟩, ⟨cell_kept hs.2.2.choose_spec.choose_spec.2.1.1 hg hr, (frozen_kept hs.2.2.choose_spec.choose_spec.2.1.1 hg hr).trans hs.2.2.choose_spec.choose_spec.2.1.2⟩, ⟨cell_kept hs.2.2.choose_spec.choose_spec.2.2.1 hg hr, (frozen_kept hs.2.2.choose_spec.choose_spec.2.2.1 hg hr).trans hs.2.2.choose_spec.choose_spec.2.2.2⟩⟩) _) (ownFrom_below (Nat.le_refl _) (by simp; omega)))
    ⟨⟨rfl, ⟨⟨by show _ = some (Value.int .i64 0); go_simp, by go_simp⟩, ⟨by show _ = some (Value.int .i64 0); go_simp, by go_simp⟩, ⟨by go_simp, by go_simp⟩⟩⟩, hB0⟩
    (fun x => { tmps := #[.func (.func gf) #[] lb, undef, .pointer (some ⟨w.heap.size, 0, none⟩), .pointer (some ⟨w.heap.size + 1, 0, none⟩), .pointer (some ⟨w.heap.size + 1 + 1, 0, none⟩), .int .i64 x.1, .func (.func gf) #[] lb, .bool false, .func (.func gf) #[] lb, .int .i64 x.1, undef, undef, undef, undef, undef, undef, undef, undef, undef, undef, undef, undef, undef, undef, undef, undef, undef], defers := [] }) ?assign ?body ?done ?stop
  case assign =>
    intro l x W K hK
    gi_wp2
    exact hK
  case body =>
    rintro l pre x W ⟨⟨he, ⟨⟨c0, f0⟩, ⟨c1, f1⟩, ⟨c2, f2⟩⟩⟩, hB⟩ _
    have hsz := hB.size
    have fs := sumsTo_fit pre
    have sn := Lib.hid (sumsTo_snoc pre x)
    have HE := Lib.hid he
    generalize sumsTo pre = st at *
    obtain ⟨s, m, e0⟩ := st
    obtain ⟨x, hx⟩ := x
    have hn1 : 1 ≤ 6 - 1 - 1 := by omega
    have l0 : w.heap.size < W.heap.size := cell_lt c0
    have l1 : w.heap.size + 1 < W.heap.size := cell_lt c1
    have l2 : w.heap.size + 1 + 1 < W.heap.size := cell_lt c2
    have RP := Lib.hid (rsum_pair s x fs hx)
    have e00 : e0 = 0 := HE.out
    subst e00
    by_cases hE : rsumErr [s, x] = 0
    · have st : Hid (sumsTo (pre ++ [⟨x, hx⟩]) = (rsumNum [s, x], max m x, 0)) := by
        show _ = _
        rw [sn.out]
        unfold sumsStep
        rw [if_pos rfl, if_pos hE]
      rw [hE] at RP
      clear sn HE fs hE
      generalize rsumNum [s, x] = S1 at *
      by_cases hm : m < x
      · rw [Int.max_eq_right (by omega)] at st
        gi_wp2_with (refine ⟨trivial, ?_⟩; gi_at_call 19; refine (CallsIn.inRound l (callsIn_wide.2 (RP.out W.heap.size _ (by go_simp) (by go_simp)))).mono ?_; rintro e w3 ⟨rfl, rfl⟩)
        all_goals refine ⟨?_, ?_, ⟨by rw [st.out], by rw [st.out]; exact ⟨⟨by go_simp, by go_simp⟩, ⟨by go_simp, by go_simp⟩, ⟨by go_simp, by go_simp⟩⟩⟩, ?_⟩
        all_goals first | (repeat (first | with_reducible exact KeepsOthers.refl _ | with_reducible refine KeepsOthers.trans ?_ (KeepsOthers.alloc _ _) | with_reducible refine KeepsOthers.trans ?_ (KeepsOthers.setCell _ _ _) | with_reducible refine KeepsOthers.trans ?_ (KeepsOthers.drew _))); done | skip
        all_goals first | (repeat (first | with_reducible exact Below.refl _ _ | with_reducible refine Below.drew ?_ | with_reducible refine Below.setCell ?_ (by first | (dsimp only; omega) | (simp; omega) | (simp; done)) _ | with_reducible refine Below.alloc ?_ (by first | (dsimp only; omega) | (simp; omega) | (simp; done)) _)); done | skip
        all_goals first | (repeat (first | with_reducible exact hB | with_reducible refine Below.drew ?_ | with_reducible refine Below.setCell ?_ (by first | (dsimp only; omega) | (simp; omega) | (simp; done)) _ | with_reducible refine Below.alloc ?_ (by first | (dsimp only; omega) | (simp; omega) | (simp; done)) _)); done | skip
      · rw [Int.max_eq_left (by omega)] at st
        gi_wp2_with (refine ⟨trivial, ?_⟩; gi_at_call 19; refine (CallsIn.inRound l (callsIn_wide.2 (RP.out W.heap.size _ (by go_simp) (by go_simp)))).mono ?_; rintro e w3 ⟨rfl, rfl⟩)
        all_goals refine ⟨?_, ?_, ⟨by rw [st.out], by rw [st.out]; exact ⟨⟨by go_simp, by go_simp⟩, ⟨by go_simp, by go_simp⟩, ⟨by go_simp, by go_simp⟩⟩⟩, ?_⟩
        all_goals first | (repeat (first | with_reducible exact KeepsOthers.refl _ | with_reducible refine KeepsOthers.trans ?_ (KeepsOthers.alloc _ _) | with_reducible refine KeepsOthers.trans ?_ (KeepsOthers.setCell _ _ _) | with_reducible refine KeepsOthers.trans ?_ (KeepsOthers.drew _))); done | skip
        all_goals first | (repeat (first | with_reducible exact Below.refl _ _ | with_reducible refine Below.drew ?_ | with_reducible refine Below.setCell ?_ (by first | (dsimp only; omega) | (simp; omega) | (simp; done)) _ | with_reducible refine Below.alloc ?_ (by first | (dsimp only; omega) | (simp; omega) | (simp; done)) _)); done | skip
        all_goals first | (repeat (first | with_reducible exact hB | with_reducible refine Below.drew ?_ | with_reducible refine Below.setCell ?_ (by first | (dsimp only; omega) | (simp; omega) | (simp; done)) _ | with_reducible refine Below.alloc ?_ (by first | (dsimp only; omega) | (simp; omega) | (simp; done)) _)); done | skip
    · have st : Hid (sumsTo (pre ++ [⟨x, hx⟩]) = (0, m, rsumErr [s, x])) := by
        show _ = _
        rw [sn.out]
        unfold sumsStep
        rw [if_pos rfl, if_neg hE]
      have e1 : (rsumErr [s, x] == 0) = false := by simp; exact hE
      have e2 : (rsumErr [s, x] != 0) = true := by simp; exact hE
      have HN := Lib.hid hE
      clear sn HE fs hE
      generalize rsumNum [s, x] = S1 at *
      generalize rsumErr [s, x] = E1 at *
      gi_wp2_with (refine ⟨trivial, ?_⟩; gi_at_call 19; refine (CallsIn.inRound l (callsIn_wide.2 (RP.out W.heap.size _ (by go_simp) (by go_simp)))).mono ?_; rintro e w3 ⟨rfl, rfl⟩)
      all_goals refine ⟨?_, ⟨rfl, by rw [st.out]; exact HN.out, S1, m, by rw [st.out]; exact ⟨⟨by go_simp, by go_simp⟩, ⟨by go_simp, by go_simp⟩, ⟨by go_simp, by go_simp⟩⟩⟩, ?_⟩
      all_goals first | (repeat (first | with_reducible exact KeepsOthers.refl _ | with_reducible refine KeepsOthers.trans ?_ (KeepsOthers.alloc _ _) | with_reducible refine KeepsOthers.trans ?_ (KeepsOthers.setCell _ _ _) | with_reducible refine KeepsOthers.trans ?_ (KeepsOthers.drew _))); done | skip
      all_goals first | (repeat (first | with_reducible exact hB | with_reducible refine Below.drew ?_ | with_reducible refine Below.setCell ?_ (by first | (dsimp only; omega) | (simp; omega) | (simp; done)) _ | with_reducible refine Below.alloc ?_ (by first | (dsimp only; omega) | (simp; omega) | (simp; done)) _)); done | skip
  case done =>
    rintro D ys W hD rfl ⟨⟨he, ⟨⟨c0, f0⟩, ⟨c1, f1⟩, ⟨c2, f2⟩⟩⟩, hB⟩ hK
    have l0 : w.heap.size < W.heap.size := cell_lt c0
    have l1 : w.heap.size + 1 < W.heap.size := cell_lt c1
    have l2 : w.heap.size + 1 + 1 < W.heap.size := cell_lt c2
    obtain ⟨S1, h1⟩ : ∃ z, (sumsTo ys).1 = z := ⟨_, rfl⟩
    obtain ⟨M1, h2⟩ : ∃ z, (sumsTo ys).2.1 = z := ⟨_, rfl⟩
    rw [h1] at c0
    rw [h2] at c1
    gi_wp2
    refine wpIn_wide.2 ?_
    go_region
    all_goals gi_wp2
    have hKO : KeepsOthers W ((((W.setCell ⟨w.heap.size, 0, none⟩ (.int .i64 S1)).setCell ⟨w.heap.size + 1, 0, none⟩ (.int .i64 M1)).setCell ⟨w.heap.size + 1 + 1, 0, none⟩ (.int .i64 0)).drew) := by
      (repeat (first | with_reducible exact KeepsOthers.refl _ | with_reducible refine KeepsOthers.trans ?_ (KeepsOthers.alloc _ _) | with_reducible refine KeepsOthers.trans ?_ (KeepsOthers.setCell _ _ _) | with_reducible refine KeepsOthers.trans ?_ (KeepsOthers.drew _)))
    have hK' := hKO.same D _ hK rfl
    have k0 : ((((W.setCell ⟨w.heap.size, 0, none⟩ (.int .i64 S1)).setCell ⟨w.heap.size + 1, 0, none⟩ (.int .i64 M1)).setCell ⟨w.heap.size + 1 + 1, 0, none⟩ (.int .i64 0)).drew).cell? ⟨w.heap.size, 0, none⟩ = some (.int .i64 S1) := by go_simp
    have k1 : ((((W.setCell ⟨w.heap.size, 0, none⟩ (.int .i64 S1)).setCell ⟨w.heap.size + 1, 0, none⟩ (.int .i64 M1)).setCell ⟨w.heap.size + 1 + 1, 0, none⟩ (.int .i64 0)).drew).cell? ⟨w.heap.size + 1, 0, none⟩ = some (.int .i64 M1) := by go_simp
    have k2 : ((((W.setCell ⟨w.heap.size, 0, none⟩ (.int .i64 S1)).setCell ⟨w.heap.size + 1, 0, none⟩ (.int .i64 M1)).setCell ⟨w.heap.size + 1 + 1, 0, none⟩ (.int .i64 0)).drew).cell? ⟨w.heap.size + 1 + 1, 0, none⟩ = some (.int .i64 0) := by go_simp
    have hBF : Below w.heap.size w ((((W.setCell ⟨w.heap.size, 0, none⟩ (.int .i64 S1)).setCell ⟨w.heap.size + 1, 0, none⟩ (.int .i64 M1)).setCell ⟨w.heap.size + 1 + 1, 0, none⟩ (.int .i64 0)).drew) := by
      (repeat (first | with_reducible exact hB | with_reducible refine Below.drew ?_ | with_reducible refine Below.setCell ?_ (by first | (dsimp only; omega) | (simp; omega) | (simp; done)) _ | with_reducible refine Below.alloc ?_ (by first | (dsimp only; omega) | (simp; omega) | (simp; done)) _))
    refine ⟨by simp, .inl ⟨_, _, rfl, run_takeDeferred hK', ?_⟩⟩
    have r0 := cell_kept k0 (grownBy_putObj' _ D (.deferred none)) (fun r e => by cases e; exact ⟨_, hK', rfl⟩)
    have r1 := cell_kept k1 (grownBy_putObj' _ D (.deferred none)) (fun r e => by cases e; exact ⟨_, hK', rfl⟩)
    have r2 := cell_kept k2 (grownBy_putObj' _ D (.deferred none)) (fun r e => by cases e; exact ⟨_, hK', rfl⟩)
    refine ⟨.tuple #[.int .i64 S1, .int .i64 M1, .int .i64 0], ?_, by rw [if_pos he, h1, h2], hBF.trans (belowK_b (w := w) (Nat.le_refl _) _ D _ _ (by simp at hD; omega) hK' rfl rfl)⟩
    simp [results, Try.results20, go_sem, r0, r1, r2]
  case stop =>
    rintro D c pre W hD hpre ⟨⟨rfl, hne, s, m, ⟨⟨c0, f0⟩, ⟨c1, f1⟩, ⟨c2, f2⟩⟩⟩, hB⟩ hK
    have hst := sumsTo_stays hpre hne
    have l0 : w.heap.size < W.heap.size := cell_lt c0
    have l1 : w.heap.size + 1 < W.heap.size := cell_lt c1
    have l2 : w.heap.size + 1 + 1 < W.heap.size := cell_lt c2
    obtain ⟨E1, h3⟩ : ∃ z, (sumsTo pre).2.2 = z := ⟨_, rfl⟩
    rw [h3] at c2 hne
    have e1 : (E1 == 0) = false := by simp; exact hne
    have e2 : (E1 != 0) = true := by simp; exact hne
    have HN := Lib.hid hne
    have HST := Lib.hid hst
    have H3 := Lib.hid h3
    clear hst h3 hne
    gi_wp2
    refine wpIn_wide.2 ?_
    go_region
    all_goals gi_wp2
    have hKO : KeepsOthers W ((((W.setCell ⟨w.heap.size, 0, none⟩ (.int .i64 0)).setCell ⟨w.heap.size + 1, 0, none⟩ (.int .i64 0)).setCell ⟨w.heap.size + 1 + 1, 0, none⟩ (.int .i64 E1)).drew) := by
      (repeat (first | with_reducible exact KeepsOthers.refl _ | with_reducible refine KeepsOthers.trans ?_ (KeepsOthers.alloc _ _) | with_reducible refine KeepsOthers.trans ?_ (KeepsOthers.setCell _ _ _) | with_reducible refine KeepsOthers.trans ?_ (KeepsOthers.drew _)))
    have hK' := hKO.same D _ hK rfl
    have k0 : ((((W.setCell ⟨w.heap.size, 0, none⟩ (.int .i64 0)).setCell ⟨w.heap.size + 1, 0, none⟩ (.int .i64 0)).setCell ⟨w.heap.size + 1 + 1, 0, none⟩ (.int .i64 E1)).drew).cell? ⟨w.heap.size, 0, none⟩ = some (.int .i64 0) := by go_simp
    have k1 : ((((W.setCell ⟨w.heap.size, 0, none⟩ (.int .i64 0)).setCell ⟨w.heap.size + 1, 0, none⟩ (.int .i64 0)).setCell ⟨w.heap.size + 1 + 1, 0, none⟩ (.int .i64 E1)).drew).cell? ⟨w.heap.size + 1, 0, none⟩ = some (.int .i64 0) := by go_simp
    have k2 : ((((W.setCell ⟨w.heap.size, 0, none⟩ (.int .i64 0)).setCell ⟨w.heap.size + 1, 0, none⟩ (.int .i64 0)).setCell ⟨w.heap.size + 1 + 1, 0, none⟩ (.int .i64 E1)).drew).cell? ⟨w.heap.size + 1 + 1, 0, none⟩ = some (.int .i64 E1) := by go_simp
    have hBF : Below w.heap.size w ((((W.setCell ⟨w.heap.size, 0, none⟩ (.int .i64 0)).setCell ⟨w.heap.size + 1, 0, none⟩ (.int .i64 0)).setCell ⟨w.heap.size + 1 + 1, 0, none⟩ (.int .i64 E1)).drew) := by
      (repeat (first | with_reducible exact hB | with_reducible refine Below.drew ?_ | with_reducible refine Below.setCell ?_ (by first | (dsimp only; omega) | (simp; omega) | (simp; done)) _ | with_reducible refine Below.alloc ?_ (by first | (dsimp only; omega) | (simp; omega) | (simp; done)) _))
    refine ⟨by simp, .inl ⟨_, _, rfl, run_takeDeferred hK', ?_⟩⟩
    have r0 := cell_kept k0 (grownBy_putObj' _ D (.deferred none)) (fun r e => by cases e; exact ⟨_, hK', rfl⟩)
    have r1 := cell_kept k1 (grownBy_putObj' _ D (.deferred none)) (fun r e => by cases e; exact ⟨_, hK', rfl⟩)
    have r2 := cell_kept k2 (grownBy_putObj' _ D (.deferred none)) (fun r e => by cases e; exact ⟨_, hK', rfl⟩)
    refine ⟨.tuple #[.int .i64 0, .int .i64 0, .int .i64 E1], ?_, by rw [HST.out, H3.out, if_neg HN.out], hBF.trans (belowK_b (w := w) (Nat.le_refl _) _ D _ _ (by simp at hD; omega) hK' rfl rfl)⟩
    simp [results, Try.results20, go_sem, r0, r1, r2]
end Go.Proofs.Ytbjahjepgjaomaa
