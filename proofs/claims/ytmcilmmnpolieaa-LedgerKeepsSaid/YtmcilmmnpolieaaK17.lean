/- What ratio.Sums answers of an iterator that hands out ratios and may write a cell besides. Each theorem's premises are its conditions. -/
import Derived.Test.YtmcilmmnpolieaaK12
import Derived.Test.YtmcilmmnpolieaaK16
/- What ratio.Sums answers of an iterator that hands out ratios and may write a cell besides. Each theorem's premises are its conditions. -/
namespace Go.Proofs.Ytmcilmmnpolieaa
open Go.RowKit Go.Shelf
attribute [local go_sem] Oper.semAt_some

/-- the sum and the greatest one. -/
def sums20 (xs : List A20) : Nat × Nat := xs.foldl (fun s x => (s.1 + x.1, max s.2 x.1)) (0, 0)
theorem sums20_snoc (pre : List A20) (x : A20) : sums20 (pre ++ [x]) = ((sums20 pre).1 + x.1, max (sums20 pre).2 x.1) := by simp [sums20]
theorem fold20_le : ∀ (l : List A20) (s : Nat × Nat), s.2 ≤ 1048576 → (l.foldl (fun s x => (s.1 + x.1, max s.2 x.1)) s).1 ≤ s.1 + l.length * 1048576 ∧ (l.foldl (fun s x => (s.1 + x.1, max s.2 x.1)) s).2 ≤ 1048576
  | [], s, h => ⟨by simp, h⟩
  | x :: l, s, h => by
    have hx := x.2
    have := fold20_le l (s.1 + x.1, max s.2 x.1) (by simp only; omega)
    simp only [List.foldl_cons, List.length_cons]
    refine ⟨?_, this.2⟩
    have := this.1
    simp only at this
    omega
theorem sums20_le (xs : List A20) : (sums20 xs).1 ≤ xs.length * 1048576 ∧ (sums20 xs).2 ≤ 1048576 := by
  have := fold20_le xs (0, 0) (by simp)
  unfold sums20
  exact ⟨by have := this.1; simp only at this; omega, this.2⟩
theorem rsum_two (a x : Nat) (ha : a ≤ 1048576000) (hx : x ≤ 1048576) : rsumNum [(a : Int), (x : Int)] = ((a + x : Nat) : Int) ∧ rsumErr [(a : Int), (x : Int)] = 0 := by
  have h1 : someNeg [(a : Int), (x : Int)] = false := by simp [someNeg]
  have h2 : sumGo 0 [(a : Int), (x : Int)] = some ((a + x : Nat) : Int) := by
    unfold sumGo
    rw [if_pos (by omega)]
    unfold sumGo
    rw [if_pos (by omega)]
    unfold sumGo
    simp
  unfold rsumNum rsumErr sumNum sumErr
  rw [h1, h2]
  simp
theorem rsum_pair (a x : Nat) (ha : a ≤ 1048576000) (hx : x ≤ 1048576) (b : Nat) (w : World) (h0 : w.cell? ⟨b, 0, none⟩ = some (.int .i64 a)) (h1 : w.cell? ⟨b, 1, none⟩ = some (.int .i64 x)) :
    Calls Try.prog 54 #[.slice (some ⟨b, 0, none⟩) 2 2] w fun e w' => e = .returned (.tuple #[.int .i64 ((a : Int) + (x : Int)), .int .i64 0]) ∧ w = w' := by
  have := rsum_any (.slice (some ⟨b, 0, none⟩) 2 2) [(a : Int), (x : Int)] w (.inr ⟨b, 0, 2, rfl, cell_lt h0, by simp, fun j hj => by
    match j, hj with
    | 0, _ => exact h0
    | 1, _ => exact h1⟩) (by
    intro n hn
    simp at hn
    rcases hn with rfl | rfl
    · exact ⟨by omega, by omega⟩
    · exact ⟨by omega, by omega⟩) (by simp)
  rw [(rsum_two a x ha hx).1, (rsum_two a x ha hx).2, Int.natCast_add] at this
  exact this

/-- what lies in the three results' boxes. -/
def SumsAt (B : Nat) (s m : Nat) (W : World) : Prop :=
  (W.cell? ⟨B, 0, none⟩ = some (.int .i64 s) ∧ W.frozen? ⟨B, 0, none⟩ = false) ∧ (W.cell? ⟨B + 1, 0, none⟩ = some (.int .i64 m) ∧ W.frozen? ⟨B + 1, 0, none⟩ = false) ∧ (W.cell? ⟨B + 1 + 1, 0, none⟩ = some (.int .i64 0) ∧ W.frozen? ⟨B + 1 + 1, 0, none⟩ = false)
theorem SumsAt.grown {B s m : Nat} {U V : World} (h : SumsAt B s m U) (k : Below U.heap.size U V) : SumsAt B s m V :=
  ⟨⟨(k.cell (cell_lt h.1.1)).trans h.1.1, (k.frozen (cell_lt h.1.1)).trans h.1.2⟩, ⟨(k.cell (cell_lt h.2.1.1)).trans h.2.1.1, (k.frozen (cell_lt h.2.1.1)).trans h.2.1.2⟩, ⟨(k.cell (cell_lt h.2.2.1)).trans h.2.2.1, (k.frozen (cell_lt h.2.2.1)).trans h.2.2.2⟩⟩
theorem other_cell {U : World} {a b : Addr} {v : Value} (h : a.block ≠ b.block) : (U.setCell a v).cell? b = U.cell? b := World.cell?_of_block (Below.heap_setCell _ _ _ _ (Ne.symm h))
theorem other_frozen {U : World} {a b : Addr} {v : Value} : (U.setCell a v).frozen? b = U.frozen? b := by simp
theorem SumsAt.wrote {B s m : Nat} {U : World} {E : Addr} {v : Value} (h : SumsAt B s m U) (hE : E.block < B) : SumsAt B s m (U.setCell E v) :=
  ⟨⟨(other_cell (by simp; omega)).trans h.1.1, other_frozen.trans h.1.2⟩, ⟨(other_cell (by simp; omega)).trans h.2.1.1, other_frozen.trans h.2.1.2⟩, ⟨(other_cell (by simp; omega)).trans h.2.2.1, other_frozen.trans h.2.2.2⟩⟩
theorem put_cell {U : World} {a : Addr} {v : Value} {l : Nat} {o o' : Obj} (h : U.cell? a = some v) (hl : U.heap[l]? = some o) (hc : o.isCells = false) : (U.putObj l o').cell? a = some v :=
  cell_kept h (grownBy_putObj' _ _ _) (fun r e => by cases e; exact ⟨_, hl, hc⟩)
theorem put_frozen {U : World} {a : Addr} {v : Value} {l : Nat} {o o' : Obj} (h : U.cell? a = some v) (hl : U.heap[l]? = some o) (hc : o.isCells = false) : (U.putObj l o').frozen? a = U.frozen? a :=
  frozen_kept h (grownBy_putObj' _ _ _) (fun r e => by cases e; exact ⟨_, hl, hc⟩)
theorem SumsAt.put {B s m : Nat} {U : World} {l : Nat} {o o' : Obj} (h : SumsAt B s m U) (hl : U.heap[l]? = some o) (hc : o.isCells = false) : SumsAt B s m (U.putObj l o') :=
  ⟨⟨put_cell h.1.1 hl hc, (put_frozen h.1.1 hl hc).trans h.1.2⟩, ⟨put_cell h.2.1.1 hl hc, (put_frozen h.2.1.1 hl hc).trans h.2.1.2⟩, ⟨put_cell h.2.2.1 hl hc, (put_frozen h.2.2.1 hl hc).trans h.2.2.2⟩⟩

set_option maxRecDepth 100000 in
set_option maxHeartbeats 2000000 in
theorem sums_hands (gf : FuncId) (lb : Array Value) (E : Addr) (S : List A20 → World → Prop) (w : World) (eg : Enters Try.prog gf) (hE : E.block < w.heap.size)
    (gS : ∀ ys U V, S ys U → Below U.heap.size U V → S ys V) (pS : ∀ ys U l o o', S ys U → U.heap[l]? = some o → o.isCells = false → w.heap.size ≤ l → S ys (U.putObj l o')) (wS : ∀ ys U a v, S ys U → w.heap.size ≤ a.block → S ys (U.setCell a v))
    (hS : ∀ W, Below w.heap.size w W → Hands Try.prog gf lb out20 w.heap.size E S (fun _ => True) 1000 W) :
    CallsIn Fence.wide 6 Try.prog 41 #[.func (.func gf) #[] lb] w fun e W' =>
      ∃ ys, S ys W' ∧ e = .returned (.tuple #[.int .i64 ((sums20 ys).1 : Nat), .int .i64 ((sums20 ys).2 : Nat), .int .i64 0]) ∧ Below E.block w W' := by
  refine callsIn_of_wp_marks Try.func41 rfl trivial ?_ rfl
  simp only [Try.ntmps41, List.size_toArray, List.length_cons, List.length_nil, Nat.reduceAdd, Nat.reduceSub, Array.replicate_succ, Array.replicate_zero, List.push_toArray, List.append_toArray, List.nil_append, List.cons_append]
  have hq : ∀ w : World, (binOp .eql 95 (.func (.func gf) #[] lb) .nilFunc).run Try.prog w = .ok (.bool false) w := fun _ => rfl
  gi_wp2
  refine wpIn_wide.2 ?_
  apply wp_scope_straight
  refine (wpIn_wide (n := 6)).1 ?_
  gi_wp2
  refine wpIn_label ?_
  gi_wp2
  have hB0 : Below w.heap.size w (((w.alloc (.cells #[.int .i64 0] 3)).alloc (.cells #[.int .i64 0] 3)).alloc (.cells #[.int .i64 0] 30)) := bel_alloc (bel_alloc (bel_alloc (Below.refl _ _)))
  have sz : (((w.alloc (.cells #[.int .i64 0] 3)).alloc (.cells #[.int .i64 0] 3)).alloc (.cells #[.int .i64 0] 30)).heap.size = w.heap.size + 1 + 1 + 1 := by simp
  refine loop_hands (B := w.heap.size) (w0 := w) (E := E) (S := S) (Sp := fun _ => True) (N := 1000) rfl eg (hS _ (Below.refl _ _)) hB0 (by omega) (fun _ => rfl)
    (fun ys W => SumsAt w.heap.size (sums20 ys).1 (sums20 ys).2 W ∧ Below E.block w W) (fun _ _ => False)
    (fun ys U V h k => ⟨h.1.grown k, h.2.trans (k.mono (by have := h.2.size; omega))⟩)
    (fun ys U v h => ⟨h.1.wrote hE, h.2.setCell (Nat.le_refl _) v⟩)
    (fun ys U l o o' h hl hc hle => ⟨h.1.put hl hc, h.2.trans (below_put (by omega))⟩)
    (fun ys U l o o' h => h.elim)
    (fun ys U l o o' h hl hc hle => pS ys U l o o' h hl hc (by omega))
    ⟨⟨⟨by show _ = some (Value.int .i64 0); go_simp, by go_simp⟩, ⟨by show _ = some (Value.int .i64 0); go_simp, by go_simp⟩, ⟨by go_simp, by go_simp⟩⟩, hB0.mono (by omega)⟩
    (fun x => { tmps := #[.func (.func gf) #[] lb, undef, .pointer (some ⟨w.heap.size, 0, none⟩), .pointer (some ⟨w.heap.size + 1, 0, none⟩), .pointer (some ⟨w.heap.size + 1 + 1, 0, none⟩), .int .i64 x.1, .func (.func gf) #[] lb, .bool false, .func (.func gf) #[] lb, .int .i64 x.1, undef, undef, undef, undef, undef, undef, undef, undef, undef, undef, undef, undef, undef, undef, undef, undef, undef], defers := [] }) ?takes ?rounds ?all ?some_
  case takes =>
    intro l x W K hK
    unfold out20
    gi_wp2
    exact hK
  case rounds =>
    rintro l pre x W ⟨⟨⟨c0, f0⟩, ⟨c1, f1⟩, ⟨c2, f2⟩⟩, hB⟩ hN
    have hsz := hB.size
    have sl := sums20_le pre
    have sn := Lib.hid (sums20_snoc pre x)
    generalize sums20 pre = st at *
    obtain ⟨s, m⟩ := st
    obtain ⟨x, hx⟩ := x
    simp only at c0 c1 sl sn
    have hn1 : 1 ≤ 6 - 1 - 1 := by omega
    have l0 : w.heap.size < W.heap.size := cell_lt c0
    have l1 : w.heap.size + 1 < W.heap.size := cell_lt c1
    have l2 : w.heap.size + 1 + 1 < W.heap.size := cell_lt c2
    have RP := Lib.hid (rsum_pair s x (by omega) hx)
    have HE := Lib.hid hE
    have hmx : ((max m x : Nat) : Int) = max (m : Int) (x : Int) := by omega
    clear sl
    by_cases hm : m < x
    · have hm' : (m : Int) < (x : Int) := by omega
      have e1 : max (m : Int) (x : Int) = (x : Int) := by omega
      have d1 : decide ((m : Int) < (x : Int)) = true := decide_eq_true hm'
      rw [e1] at hmx
      gi_wp2_with (refine ⟨trivial, ?_⟩; gi_at_call 54; refine (CallsIn.inRound l (callsIn_wide.2 (RP.out W.heap.size _ (by go_simp) (by go_simp)))).mono ?_; rintro e w3 ⟨rfl, rfl⟩)
      all_goals refine ⟨?_, ?_, ⟨by rw [sn.out]; dsimp only; exact ⟨⟨by go_simp, by go_simp⟩, ⟨by go_simp, by go_simp⟩, ⟨by go_simp, by go_simp⟩⟩, ?_⟩⟩
      all_goals first | (repeat (first | with_reducible exact KeepsOthers.refl _ | with_reducible refine KeepsOthers.trans ?_ (KeepsOthers.alloc _ _) | with_reducible refine KeepsOthers.trans ?_ (KeepsOthers.setCell _ _ _) | with_reducible refine KeepsOthers.trans ?_ (KeepsOthers.drew _))); done | skip
      all_goals first | (repeat (first | with_reducible exact Below.refl _ _ | with_reducible refine Below.drew ?_ | with_reducible refine Below.setCell ?_ (by first | (dsimp only; omega) | (simp; omega) | (simp; done)) _ | with_reducible refine Below.alloc ?_ (by first | (dsimp only; omega) | (simp; omega) | (simp; done)) _)); done | skip
      all_goals first | (have HE' := HE.out; (repeat (first | with_reducible exact hB | with_reducible refine Below.drew ?_ | with_reducible refine Below.setCell ?_ (by first | (dsimp only; omega) | (simp; omega) | (simp; done)) _ | with_reducible refine Below.alloc ?_ (by first | (dsimp only; omega) | (simp; omega) | (simp; done)) _))); done | skip
    · have hm' : ¬ (m : Int) < (x : Int) := by omega
      have e1 : max (m : Int) (x : Int) = (m : Int) := by omega
      have d1 : decide ((m : Int) < (x : Int)) = false := decide_eq_false hm'
      rw [e1] at hmx
      gi_wp2_with (refine ⟨trivial, ?_⟩; gi_at_call 54; refine (CallsIn.inRound l (callsIn_wide.2 (RP.out W.heap.size _ (by go_simp) (by go_simp)))).mono ?_; rintro e w3 ⟨rfl, rfl⟩)
      all_goals refine ⟨?_, ?_, ⟨by rw [sn.out]; dsimp only; exact ⟨⟨by go_simp, by go_simp⟩, ⟨by go_simp, by go_simp⟩, ⟨by go_simp, by go_simp⟩⟩, ?_⟩⟩
      all_goals first | (repeat (first | with_reducible exact KeepsOthers.refl _ | with_reducible refine KeepsOthers.trans ?_ (KeepsOthers.alloc _ _) | with_reducible refine KeepsOthers.trans ?_ (KeepsOthers.setCell _ _ _) | with_reducible refine KeepsOthers.trans ?_ (KeepsOthers.drew _))); done | skip
      all_goals first | (repeat (first | with_reducible exact Below.refl _ _ | with_reducible refine Below.drew ?_ | with_reducible refine Below.setCell ?_ (by first | (dsimp only; omega) | (simp; omega) | (simp; done)) _ | with_reducible refine Below.alloc ?_ (by first | (dsimp only; omega) | (simp; omega) | (simp; done)) _)); done | skip
      all_goals first | (have HE' := HE.out; (repeat (first | with_reducible exact hB | with_reducible refine Below.drew ?_ | with_reducible refine Below.setCell ?_ (by first | (dsimp only; omega) | (simp; omega) | (simp; done)) _ | with_reducible refine Below.alloc ?_ (by first | (dsimp only; omega) | (simp; omega) | (simp; done)) _))); done | skip
  case all =>
    rintro D ys W hD hSy ⟨⟨⟨c0, f0⟩, ⟨c1, f1⟩, ⟨c2, f2⟩⟩, hB⟩ hK
    have l0 : w.heap.size < W.heap.size := cell_lt c0
    have l1 : w.heap.size + 1 < W.heap.size := cell_lt c1
    have l2 : w.heap.size + 1 + 1 < W.heap.size := cell_lt c2
    obtain ⟨S1, h1⟩ : ∃ z : Int, (((sums20 ys).1 : Nat) : Int) = z := ⟨_, rfl⟩
    obtain ⟨M1, h2⟩ : ∃ z : Int, (((sums20 ys).2 : Nat) : Int) = z := ⟨_, rfl⟩
    rw [h1] at c0
    rw [h2] at c1
    gi_wp2
    refine wpIn_wide.2 ?_
    go_region
    all_goals gi_wp2
    have hKO : KeepsOthers W ((((W.setCell ⟨w.heap.size, 0, none⟩ (.int .i64 S1)).setCell ⟨w.heap.size + 1, 0, none⟩ (.int .i64 M1)).setCell ⟨w.heap.size + 1 + 1, 0, none⟩ (.int .i64 0)).drew) := by
      (repeat (first | with_reducible exact KeepsOthers.refl _ | with_reducible refine KeepsOthers.trans ?_ (KeepsOthers.alloc _ _) | with_reducible refine KeepsOthers.trans ?_ (KeepsOthers.setCell _ _ _) | with_reducible refine KeepsOthers.trans ?_ (KeepsOthers.drew _)))
    have hK' := hKO.same D _ hK rfl
    have k0 : ((((W.setCell ⟨w.heap.size, 0, none⟩ (.int .i64 S1)).setCell ⟨w.heap.size + 1, 0, none⟩ (.int .i64 M1)).setCell ⟨w.heap.size + 1 + 1, 0, none⟩ (.int .i64 0)).drew).cell? ⟨w.heap.size, 0, none⟩ = some (.int .i64 S1) := by go_simp
    have k1 : ((((W.setCell ⟨w.heap.size, 0, none⟩ (.int .i64 S1)).setCell ⟨w.heap.size + 1, 0, none⟩ (.int .i64 M1)).setCell ⟨w.heap.size + 1 + 1, 0, none⟩ (.int .i64 0)).drew).cell? ⟨w.heap.size + 1, 0, none⟩ = some (.int .i64 M1) := by go_simp
    have k2 : ((((W.setCell ⟨w.heap.size, 0, none⟩ (.int .i64 S1)).setCell ⟨w.heap.size + 1, 0, none⟩ (.int .i64 M1)).setCell ⟨w.heap.size + 1 + 1, 0, none⟩ (.int .i64 0)).drew).cell? ⟨w.heap.size + 1 + 1, 0, none⟩ = some (.int .i64 0) := by go_simp
    have hBF : Below E.block w ((((W.setCell ⟨w.heap.size, 0, none⟩ (.int .i64 S1)).setCell ⟨w.heap.size + 1, 0, none⟩ (.int .i64 M1)).setCell ⟨w.heap.size + 1 + 1, 0, none⟩ (.int .i64 0)).drew) := by
      (repeat (first | with_reducible exact hB | with_reducible refine Below.drew ?_ | with_reducible refine Below.setCell ?_ (by first | (dsimp only; omega) | (simp; omega) | (simp; done)) _ | with_reducible refine Below.alloc ?_ (by first | (dsimp only; omega) | (simp; omega) | (simp; done)) _))
    have hSF : S ys ((((W.setCell ⟨w.heap.size, 0, none⟩ (.int .i64 S1)).setCell ⟨w.heap.size + 1, 0, none⟩ (.int .i64 M1)).setCell ⟨w.heap.size + 1 + 1, 0, none⟩ (.int .i64 0)).drew) := gS _ _ _ (wS _ _ _ _ (wS _ _ _ _ (wS _ _ _ _ hSy (by simp)) (by simp)) (by simp; omega)) (Below.refl _ _).drew
    refine ⟨by simp, .inl ⟨_, _, rfl, run_takeDeferred hK', ?_⟩⟩
    have r0 := put_cell (o' := .deferred none) k0 hK' rfl
    have r1 := put_cell (o' := .deferred none) k1 hK' rfl
    have r2 := put_cell (o' := .deferred none) k2 hK' rfl
    refine ⟨.tuple #[.int .i64 S1, .int .i64 M1, .int .i64 0], ?_, ys, pS _ _ _ _ _ hSF hK' rfl (by simp at hD; omega), by rw [h1, h2], hBF.trans (below_put (by simp at hD; omega))⟩
    simp [results, Try.results41, go_sem, r0, r1, r2]
  case some_ =>
    rintro D pre W _ _ h _
    exact h.elim
end Go.Proofs.Ytmcilmmnpolieaa
