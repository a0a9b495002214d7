/- What the reference's digits and carried answer: numbers as lists of digits. Each theorem's premises are its conditions. -/
import Derived.Test.YtgdgfcogmfhpcaaBase
import Derived.Test.YtgdgfcogmfhpcaaDigMath
import Derived.WalkLawsBesides
import Derived.WalkSpells
import Derived.Outline
import Derived.Maps.AppendAt
import Derived.Deep.OwnRows
namespace Go.Proofs.Ytgdgfcogmfhpcaa
open Go.RowKit Go.Deep

theorem infoInt : (Try.prog.info? 3).map (fun i => (i.zero, i.size, i.bytes)) = some (some (.int .i64 0), 1, 8) := by kernel_rfl

theorem own_block {w : World} {base : Nat} {e : TypeId} {size : Nat} {v : Value} {n : Nat} {xs : List Value} (h : w.ownsRow base e size v n xs) : ∀ k, v.ownBlock = some k → base ≤ k := by
  intro k hk
  rcases h.2 with ⟨rfl, _⟩ | ⟨g, cap, cur, rfl, hg, _⟩
  · cases hk
  · cases hk; exact hg

/-- the digits of n, as cells. -/
def digCells (n k : Nat) : List Value := (List.range k).map fun i => .int .i64 ((Dig.dgt n i : Nat) : Int)
theorem digCells_succ (n k : Nat) : digCells n (k + 1) = digCells n k ++ [.int .i64 ((Dig.dgt n k : Nat) : Int)] := by
  unfold digCells; rw [List.range_succ, List.map_append]; rfl

/-- A call that gives a new slice that owns these cells. -/
def GivesRow (k : Nat) (xs : List Value) (w : World) (e : Ending) (w' : World) : Prop := ∃ v, e = .returned v ∧ w'.ownsRow w.heap.size 3 1 v k xs ∧ Below w.heap.size w w'

def DigRel (n B : Nat) (w : World) (x v i : Value) (wr : World) : Prop :=
  ∃ k : Nat, k ≤ 4 ∧ i = .int .i64 k ∧ x = .int .u64 ((n / 65536 ^ k : Nat) : Int) ∧ wr.ownsRow B 3 1 v k (digCells n k) ∧ Below B w wr

set_option maxHeartbeats 800000 in
theorem digits_any (n : Nat) (hn : n < 18446744073709551616) (w : World) : Calls Try.prog 32 #[.int .u64 n] w (GivesRow 4 (digCells n 4) w) := by
  obtain ⟨i0, hi, hz0, hz1, hz2⟩ := info_parts infoInt
  go_enter Try.func32, Try.ntmps32
  go_wp2
  go_loopw [0, 3, 4] (fun x v i wr => DigRel n w.heap.size w x v i wr) (fun _ _ i _ => 4 - (intOf i).toNat)
  case atStart => exact ⟨0, by omega, rfl, by simp, World.ownsRow_nil _ _ _ _, Below.refl _ _⟩
  case round =>
    obtain ⟨k, hk, rfl, rfl, hown, hb⟩ := hrel
    obtain ⟨m, hm⟩ : ∃ m, n / 65536 ^ k = m := ⟨_, rfl⟩
    have hml : m ≤ n := by rw [← hm]; exact Nat.div_le_self _ _
    have hm1 : n / 65536 ^ (k + 1) = m / 65536 := by rw [← hm, Nat.pow_succ, Nat.div_div_eq_div_mul]
    have hd : Dig.dgt n k = m % 65536 := by unfold Dig.dgt; rw [hm]
    rw [hm]
    have hs := hb.size
    by_cases hlt : k < 4
    · have HS : Hid (digCells n (k + 1) = digCells n k ++ [.int .i64 ((m : Int) % 65536)]) := by show _ = _; rw [digCells_succ, hd, show ((m % 65536 : Nat) : Int) = (m : Int) % 65536 by omega]
      have HM1 := Lib.hid hm1
      clear hm hm1 hd
      go_wp2_with (at_builtin; refine wpList_append_own _ rfl _ _ 27 rfl w.heap.size 3 i0 (.int .i64 0) 1 8 Try.underlying27 hi hz0 hz1 hz2 rfl (by decide) _ _ _ rfl (hown.alloc _) ⟨wr.heap.size, 0, none⟩ 1 1 [.int .i64 ((m : Int) % 65536)] rfl rfl (cell_one_new _ _ _) (by simp [Value.oneCell']) (by unfold maxLen; omega) (by omega) (by simp; omega) ?_; intro v' w1 hown' hgrow _)
      have HO : Hid (w1.ownsRow w.heap.size 3 1 v' (k + 1) (digCells n (k + 1))) := by show World.ownsRow _ _ _ _ _ _ _; rw [HS.out]; exact hown'
      exact ⟨⟨k + 1, by omega, by go_num, int_eq (by rw [HM1.out]; omega), HO.out, (hb.alloc hs _).grown hgrow (by simp; omega) (own_block (hown.alloc (.cells #[.int .i64 0] 3)))⟩, by simp [intOf]; omega⟩
    · obtain rfl : k = 4 := by omega
      go_wp2
      go_ret
      exact ⟨_, rfl, hown, hb⟩


/-! ### what is carried -/
/-- A slice of numbers: the first n cells hold f. -/
def Nums (w : World) (v : Value) (n : Nat) (f : Nat → Nat) : Prop := ∃ b cap, v = .slice (some ⟨b, 0, none⟩) n cap ∧ b < w.heap.size ∧ ∀ i, i < n → w.cell? ⟨b, i, none⟩ = some (.int .i64 ((f i : Nat) : Int))
theorem Nums.below {w w' : World} {v : Value} {n : Nat} {f : Nat → Nat} (h : Nums w v n f) (hb : Below w.heap.size w w') : Nums w' v n f := by
  obtain ⟨b, cap, rfl, hlt, hc⟩ := h
  exact ⟨b, cap, rfl, Nat.lt_of_lt_of_le hlt hb.size, fun i hi => by rw [hb.cell (p := ⟨b, i, none⟩) hlt]; exact hc i hi⟩
/-- twelve digits of a number. -/
def IsNum (w : World) (v : Value) (N : Nat) : Prop := ∃ f, Nums w v 12 f ∧ (∀ i, i < 12 → f i < 65536) ∧ Dig.V f 12 = N
theorem IsNum.below {w w' : World} {v : Value} {N : Nat} (h : IsNum w v N) (hb : Below w.heap.size w w') : IsNum w' v N := by
  obtain ⟨f, h1, h2, h3⟩ := h
  exact ⟨f, h1.below hb, h2, h3⟩
def GivesNum (N : Nat) (w : World) (e : Ending) (w' : World) : Prop := ∃ v, e = .returned v ∧ IsNum w' v N ∧ Below w.heap.size w w'

def CarRel (B : Nat) (g : Nat → Nat) (w : World) (o i : Value) (wr : World) : Prop :=
  ∃ k : Nat, k ≤ 12 ∧ i = .int .i64 k ∧ o = .int .i64 ((Dig.ov g k : Nat) : Int) ∧ wr.rowIs B 3 12 (fun j => .int .i64 (((if j < k then Dig.dg g j else 0) : Nat) : Int)) ∧ Below B w wr

/-- n zeros, as cells. -/
def zeros (n : Nat) : Array Value := madeCells #[.int .i64 0] n
theorem make_run (n : Nat) (h : 8 * n ≤ 281474976710656) (w : World) : (Instr.makeSlice 27 (.int .i64 (n : Int)) (.int .i64 (n : Int))).run Try.prog w = .ok (.slice (some ⟨w.heap.size, 0, none⟩) n n) (w.alloc (.cells (zeros n) 3)) :=
  run_make_row' (P := Try.prog) 27 3 (.int .i64 0) 8 Try.underlying27 infoInt rfl .i64 .i64 n h (by omega) w

set_option maxHeartbeats 800000 in
theorem carried_any (b n cap : Nat) (g : Nat → Nat) (hg : ∀ i, g i ≤ 4294967296) (hg0 : ∀ i, n ≤ i → g i = 0) (w : World) (hb : b < w.heap.size) (hc : ∀ i, i < n → w.cell? ⟨b, i, none⟩ = some (.int .i64 ((g i : Nat) : Int))) :
    Calls Try.prog 33 #[.slice (some ⟨b, 0, none⟩) n cap] w (GivesNum (Dig.V g 12 % 65536 ^ 12) w) := by
  have hmk := make_run 12 (by omega)
  simp only [Int.cast_ofNat_Int] at hmk
  have HG := Lib.hid hg
  have HG0 := Lib.hid hg0
  have HC := Lib.hid hc
  clear hg hg0 hc
  go_enter Try.func33, Try.ntmps33
  go_wp2
  go_loopw [4, 5] (fun o i wr => CarRel w.heap.size g w o i wr) (fun _ i _ => 12 - (intOf i).toNat)
  case atStart => exact ⟨0, by omega, rfl, rfl, (World.rowIs_made _ _ _ _).congr (fun j _ => by simp), (Below.refl _ _).alloc (Nat.le_refl _) _⟩
  case round =>
    obtain ⟨k, hk, rfl, rfl, hrow, hbe⟩ := hrel
    have ho := Dig.ov_le HG.out k
    have hgk := HG.out k
    have hd : Dig.dg g k = (Dig.ov g k + g k) % 65536 := rfl
    have hov : Dig.ov g (k + 1) = (Dig.ov g k + g k) / 65536 := rfl
    by_cases hlt : k < 12
    · have hold := hrow.cell hlt
      have hfr := hrow.frozen k
      obtain ⟨z, hz⟩ : ∃ z, Value.int .i64 (((if k < k then Dig.dg g k else 0 : Nat) : Nat) : Int) = z := ⟨_, rfl⟩
      rw [hz] at hold
      clear hz
      have hnext : ∀ d : Int, d = ((Dig.dg g k : Nat) : Int) → (wr.setCell ⟨w.heap.size, k, none⟩ (.int .i64 d)).rowIs w.heap.size 3 12 (fun j => .int .i64 (((if j < k + 1 then Dig.dg g j else 0) : Nat) : Int)) := by
        rintro d rfl
        refine (hrow.set k _).congr fun j hj => ?_
        by_cases h1 : j = k
        · subst h1; rw [if_pos rfl, if_pos (by omega)]
        · rw [if_neg h1]
          by_cases h2 : j < k
          · rw [if_pos h2, if_pos (by omega)]
          · rw [if_neg h2, if_neg (by omega)]
      have HN := Lib.hid hnext
      have HO := Lib.hid hov
      have HR := Lib.hid hrow
      have HD := Lib.hid hd
      clear hnext hov hrow hd
      by_cases hin : k < n
      · have hcell : wr.cell? ⟨b, k, none⟩ = some (.int .i64 ((g k : Nat) : Int)) := by rw [hbe.cell (p := ⟨b, k, none⟩) hb]; exact HC.out k hin
        generalize g k = x at *
        generalize Dig.ov g k = o at *
        go_wp2
        exact ⟨⟨k + 1, by omega, by go_num, int_eq (by rw [HO.out]; omega), HN.out _ (by rw [HD.out]; omega), hbe.setCell (p := ⟨w.heap.size, k, none⟩) (Nat.le_refl _) _⟩, by simp [intOf]; omega⟩
      · have hx : g k = 0 := HG0.out k (by omega)
        rw [hx] at HO HD
        clear hx hgk
        generalize Dig.ov g k = o at *
        go_wp2
        exact ⟨⟨k + 1, by omega, by go_num, int_eq (by rw [HO.out]; omega), HN.out _ (by rw [HD.out]; omega), hbe.setCell (p := ⟨w.heap.size, k, none⟩) (Nat.le_refl _) _⟩, by simp [intOf]; omega⟩
    · obtain rfl : k = 12 := by omega
      clear hd hov
      go_wp2
      go_ret
      exact ⟨_, rfl, ⟨Dig.dg g, ⟨w.heap.size, 12, rfl, hrow.lt, fun i hi => by rw [hrow.cell hi, if_pos hi]⟩, fun i _ => Dig.dg_lt g i, Dig.carried_mod g 12⟩, hbe⟩

end Go.Proofs.Ytgdgfcogmfhpcaa
