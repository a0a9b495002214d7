/- What a meter's All answers of times that may be. Each theorem's premises are its conditions. -/
import Derived.Test.YtnahedmccbkflaaGrubBad
import Derived.Test.YtnahedmccbkflaaRatioSum
import Derived.WalkLawsBesides
import Derived.WalkSpells
import Derived.Outline
namespace Go.Proofs.Ytnahedmccbkflaa
open Go.RowKit

/-- the sum of the first k. -/
def upto (zs : List Int) : Nat → Int
  | 0 => 0
  | k + 1 => upto zs k + zs.getD k 0
theorem upto_range {zs : List Int} : ∀ {k : Nat}, (∀ j, j < k → 0 ≤ zs.getD j 0 ∧ zs.getD j 0 ≤ 1000000) → 0 ≤ upto zs k ∧ upto zs k ≤ 1000000 * k
  | 0, _ => ⟨by simp [upto], by simp [upto]⟩
  | k + 1, h => by
    have h1 := upto_range (zs := zs) (k := k) (fun j hj => h j (by omega))
    have h2 := h k (by omega)
    unfold upto
    omega
theorem charge_step {X y : Int} : (X + y) / 1048576 = X / 1048576 + (y + X % 1048576) / 1048576 ∧ (X + y) % 1048576 = (y + X % 1048576) % 1048576 := by omega
/-- a charge more: what is charged together, and what is left over. -/
theorem charge_next (zs : List Int) (k : Nat) (r p : Int) : (upto zs (k + 1) * p + r) / 1048576 = (upto zs k * p + r) / 1048576 + (zs.getD k 0 * p + (upto zs k * p + r) % 1048576) / 1048576 ∧
    (upto zs (k + 1) * p + r) % 1048576 = (zs.getD k 0 * p + (upto zs k * p + r) % 1048576) % 1048576 := by
  have e : upto zs (k + 1) * p + r = (upto zs k * p + r) + zs.getD k 0 * p := by
    show (upto zs k + zs.getD k 0) * p + r = _
    rw [Int.add_mul]; omega
  rw [e]
  exact charge_step

theorem rsum_at1 (x : Int) (hx : 0 ≤ x) (hx' : x ≤ 1048575) (b : Nat) (w : World) (h0 : w.cell? ⟨b, 0, none⟩ = some (.int .i64 x)) :
    Calls Try.prog 27 #[.slice (some ⟨b, 0, none⟩) 1 1] w fun e w' => e = .returned (.tuple #[.int .i64 x, .int .i64 0]) ∧ w = w' := by
  have h := rsum_any (.slice (some ⟨b, 0, none⟩) 1 1) [x] w (.inr ⟨b, 0, 1, rfl, cell_lt h0, by simp, fun j hj => by
    match j, hj with
    | 0, _ => exact h0⟩) (by
    intro n hn
    simp at hn
    subst hn
    exact ⟨by omega, by omega⟩) (by simp)
  have e1 : someNeg [x] = false := by simp [someNeg]; omega
  have g : sumGo 0 [x] = some x := by unfold sumGo; rw [if_pos (by omega)]; simp [sumGo]
  have e2 : rsumNum [x] = x ∧ rsumErr [x] = 0 := by
    unfold rsumNum rsumErr sumNum sumErr
    rw [if_neg (by rw [e1]; decide), if_neg (by rw [e1]; decide), g]
    exact ⟨rfl, rfl⟩
  rw [e2.1, e2.2] at h
  exact h

/-- what All's loop knows at its head. -/
def AllRel (zs : List Int) (r p : Int) (len : Nat) (w : World) (s i : Value) (wr : World) : Prop :=
  ∃ (k : Nat), k ≤ len ∧ i = .int .i64 k ∧ s = .int .i64 ((upto zs k * p + r) / 1048576) ∧ Below w.heap.size w wr ∧ w.heap.size + 1 < wr.heap.size ∧
    wr.cell? ⟨w.heap.size, 0, none⟩ = some (.int .i64 ((upto zs k * p + r) % 1048576)) ∧ wr.frozen? ⟨w.heap.size, 0, none⟩ = false ∧
    wr.cell? ⟨w.heap.size + 1, 0, none⟩ = some (.int .i64 0) ∧ wr.frozen? ⟨w.heap.size + 1, 0, none⟩ = false

set_option maxRecDepth 100000 in
set_option maxHeartbeats 2000000 in
theorem all_some (b off cap : Nat) (zs : List Int) (r p : Int) (hr : 0 ≤ r) (hr' : r ≤ 1048575) (hp : 0 ≤ p) (hp' : p ≤ 1048576) (hmax : zs.length ≤ 40) (w : World) (hb : b < w.heap.size)
    (hc : ∀ j, j < zs.length → w.cell? ⟨b, off + j, none⟩ = some (.int .i64 (zs.getD j 0))) (hz : ∀ j, j < zs.length → 0 ≤ zs.getD j 0 ∧ zs.getD j 0 ≤ 1000000) :
    Calls Try.prog 19 #[.agg #[.int .i64 r], .int .i64 p, .slice (some ⟨b, off, none⟩) zs.length cap] w (Gives (.tuple #[.int .i64 ((upto zs zs.length * p + r) / 1048576), .agg #[.int .i64 ((upto zs zs.length * p + r) % 1048576)], .int .i64 0]) w) := by
  have HC := Lib.hid hc
  have HZ := Lib.hid hz
  obtain ⟨len, hlen⟩ : ∃ n, zs.length = n := ⟨_, rfl⟩
  have HL := Lib.hid hlen
  rw [hlen]
  rw [hlen] at hmax
  have S := Lib.hid (rsum_at1 r hr hr')
  have hmf : ∀ (fn : Fn) (first cap : Array Value) (w : World), (Instr.makeFunc fn first cap).run Try.prog w = .ok (.func fn first cap) w := fun _ _ _ _ => rfl
  clear hc hz hlen
  unfold Gives
  go_enter Try.func19, Try.ntmps19
  go_wp2_with (first | (go_at_call 27; refine (S.out (w.heap.size + 2) _ (by go_simp)).mono ?_; rintro e w' ⟨rfl, rfl⟩) | (go_at_call 23; refine (owed_yes _ hr hr' _).mono ?_; rintro e w' ⟨rfl, rfl⟩; unfold meterBox))
  go_loopw [11, 35] (fun s i wr => AllRel zs r p len w s i wr) (fun _ i _ => len - (intOf i).toNat)
  case atStart =>
    refine ⟨0, by omega, rfl, ?_, ?_, ?_, ?_, ?_, ?_, ?_⟩
    · have : (upto zs 0 * p + r) / 1048576 = 0 := by unfold upto; omega
      rw [this]
    · repeat (first | with_reducible refine bel_alloc ?_ | with_reducible refine bel_drew ?_)
      with_reducible exact Below.refl _ _
    · go_simp
    · have : (upto zs 0 * p + r) % 1048576 = r := by unfold upto; omega
      rw [this]
      go_simp
    · go_simp
    · go_simp
    · go_simp
  case round =>
    obtain ⟨k, hk, rfl, rfl, hbe, hsz, hcell, hfr, hcell2, hfr2⟩ := hrel
    by_cases hlt : k < len
    · have hcr := HC.out k (by rw [HL.out]; exact hlt)
      have hrk := HZ.out k (by rw [HL.out]; exact hlt)
      have u := upto_range (zs := zs) (k := k) (fun j hj => HZ.out j (by rw [HL.out]; omega))
      have m1 := mul_time (t := upto zs k) (p := p) u.1 (by omega) hp hp'
      have nx := charge_next zs k r p
      have hcr' : wr.cell? ⟨b, off + k, none⟩ = some (.int .i64 (zs.getD k 0)) := by rw [hbe.cell (p := ⟨b, off + k, none⟩) hb]; exact hcr
      clear hcr
      generalize zs.getD k 0 = t at *
      obtain ⟨X, hX⟩ : ∃ X, upto zs k * p + r = X := ⟨_, rfl⟩
      have hX0 : 0 ≤ X := by omega
      have hX1 : X ≤ 1152921504606847000 := by omega
      rw [hX] at nx hcell ⊢
      have m2 := mul_time (t := t) (p := p) hrk.1 (by omega) hp hp'
      have C := Lib.hid (charge_gives (X % 1048576) t p (by omega) (by omega) hrk.1 (by omega) hp hp')
      obtain ⟨y, hy⟩ : ∃ y, t * p = y := ⟨_, rfl⟩
      rw [hy] at nx C m2
      obtain ⟨S1, hS1⟩ : ∃ S1, X / 1048576 = S1 := ⟨_, rfl⟩
      obtain ⟨R1, hR1⟩ : ∃ R1, X % 1048576 = R1 := ⟨_, rfl⟩
      rw [hR1] at nx C hcell
      rw [hS1] at nx ⊢
      obtain ⟨S2, hS2⟩ : ∃ z, (y + R1) / 1048576 = z := ⟨_, rfl⟩
      obtain ⟨R2, hR2⟩ : ∃ z, (y + R1) % 1048576 = z := ⟨_, rfl⟩
      rw [hS2, hR2] at nx C
      have NX := Lib.hid nx
      have hlt' : (k : Int) < (len : Int) := by omega
      have i1 : 0 ≤ S1 := by omega
      have i2 : S1 ≤ 1152921504606847000 := by omega
      have i3 : 0 ≤ S2 := by omega
      have i4 : S2 ≤ 1152921504606847000 := by omega
      have HB := Lib.hid hbe
      clear u m1 m2 hX hX0 hX1 hS1 hR1 hS2 hR2 hrk nx hbe hy
      go_wp2_with fail
      refine (C.out _).mono ?_
      rintro e w4 ⟨rfl, b4⟩
      have c4 := b4.cell (p := ⟨w.heap.size, 0, none⟩) (show w.heap.size < wr.heap.size by omega)
      have f4 := b4.frozen (p := ⟨w.heap.size, 0, none⟩) (show w.heap.size < wr.heap.size by omega)
      have c5 := b4.cell (p := ⟨w.heap.size + 1, 0, none⟩) (show w.heap.size + 1 < wr.heap.size by omega)
      have f5 := b4.frozen (p := ⟨w.heap.size + 1, 0, none⟩) (show w.heap.size + 1 < wr.heap.size by omega)
      have z4 := b4.size
      have l4 : w.heap.size < w4.heap.size := by omega
      have l5 : w.heap.size + 1 < w4.heap.size := by omega
      rw [hcell] at c4
      rw [hfr] at f4
      rw [hcell2] at c5
      rw [hfr2] at f5
      have HB4 := Lib.hid (HB.out.trans (b4.mono (by omega)))
      clear hcell hfr hcell2 hfr2 b4 hcr'
      go_wp2_with fail
      go_region
      all_goals go_wp2
      all_goals refine ⟨⟨k + 1, by omega, by go_num, ?_, ?_, ?_, ?_, ?_, ?_, ?_⟩, by simp [intOf]; omega⟩
      · rw [NX.out.1]
      · exact bel_drew (bel_alloc (HB4.out.setCell (p := ⟨w.heap.size, 0, none⟩) (Nat.le_refl _) _))
      · simp; omega
      · rw [NX.out.2]; go_simp
      · go_simp
      · go_simp
      · go_simp
    · obtain rfl : k = len := by omega
      obtain ⟨S1, hS1⟩ : ∃ z, (upto zs k * p + r) / 1048576 = z := ⟨_, rfl⟩
      obtain ⟨R1, hR1⟩ : ∃ z, (upto zs k * p + r) % 1048576 = z := ⟨_, rfl⟩
      rw [hR1] at hcell
      rw [hS1]
      have HS := Lib.hid hS1
      have HR := Lib.hid hR1
      clear hS1 hR1
      have HB := Lib.hid hbe
      clear hbe
      have hst : (wr.setCell ⟨w.heap.size + 1, 0, none⟩ (.int .i64 R1)).cell? ⟨w.heap.size + 1, 0, none⟩ = some (.int .i64 R1) := World.cell?_setCell_same' _ _ _ (by rw [hcell2]; rfl)
      go_wp2_with fail
      go_region
      all_goals go_wp2
      all_goals (refine bodyPost_ret (v := .tuple #[.int .i64 S1, .agg #[.int .i64 R1], .int .i64 0]) (by simp [results, Try.results19, go_sem, hst]) rfl ⟨by rw [HS.out, HR.out], ?_⟩)
      all_goals (repeat (first | with_reducible refine bel_alloc ?_ | with_reducible refine bel_drew ?_))
      all_goals exact HB.out.setCell (p := ⟨w.heap.size + 1, 0, none⟩) (by show w.heap.size ≤ w.heap.size + 1; omega) _

set_option maxHeartbeats 1000000 in
theorem all_empty (a0 : Option Addr) (cap : Nat) (r p : Int) (hr : 0 ≤ r) (hr' : r ≤ 1048575) (w : World) :
    Calls Try.prog 19 #[.agg #[.int .i64 r], .int .i64 p, .slice a0 0 cap] w (Gives (.tuple #[.int .i64 0, .agg #[.int .i64 r], .int .i64 0]) w) := by
  have S := Lib.hid (rsum_at1 r hr hr')
  unfold Gives
  go_enter Try.func19, Try.ntmps19
  go_wp2_with (first | (go_at_call 27; refine (S.out (w.heap.size + 2) _ (by go_simp)).mono ?_; rintro e w' ⟨rfl, rfl⟩) | (go_at_call 23; refine (owed_yes _ hr hr' _).mono ?_; rintro e w' ⟨rfl, rfl⟩; unfold meterBox))
  refine wp_loop_rounds 1 ?_
  rw [rounds_succ]
  go_wp2
  go_region
  all_goals go_wp2
  all_goals (refine bodyPost_ret (v := .tuple #[.int .i64 0, .agg #[.int .i64 r], .int .i64 0]) (by simp [results, Try.results19, go_sem]) rfl ⟨rfl, ?_⟩)
  all_goals (repeat (first | with_reducible refine bel_alloc ?_ | with_reducible refine bel_drew ?_))
  all_goals first | (with_reducible exact Below.refl _ _) | skip
theorem all_any (v : Value) (zs : List Int) (r p : Int) (hr : 0 ≤ r) (hr' : r ≤ 1048575) (hp : 0 ≤ p) (hp' : p ≤ 1048576) (hmax : zs.length ≤ 40) (w : World) (hv : IntRow w v zs) (hz : ∀ j, j < zs.length → 0 ≤ zs.getD j 0 ∧ zs.getD j 0 ≤ 1000000) :
    Calls Try.prog 19 #[.agg #[.int .i64 r], .int .i64 p, v] w (Gives (.tuple #[.int .i64 ((upto zs zs.length * p + r) / 1048576), .agg #[.int .i64 ((upto zs zs.length * p + r) % 1048576)], .int .i64 0]) w) := by
  rcases hv with ⟨a, cap, rfl, rfl⟩ | ⟨b, off, cap, rfl, hb, _, hc⟩
  · have h := all_empty a cap r p hr hr' w
    have e : upto [] ([] : List Int).length * p + r = r := by show 0 * p + r = r; rw [Int.zero_mul]; omega
    rw [e]
    have e1 : r / 1048576 = 0 := by omega
    have e2 : r % 1048576 = r := by omega
    rw [e1, e2]; exact h
  · exact all_some b off cap zs r p hr hr' hp hp' hmax w hb hc hz
end Go.Proofs.Ytnahedmccbkflaa
