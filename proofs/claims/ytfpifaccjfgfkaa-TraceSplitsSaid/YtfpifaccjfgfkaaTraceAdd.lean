/- What trace.New, Len, fits and Add do: a trace is a block that holds a slice of charges. Each theorem's premises are its conditions. -/
import Derived.Test.YtfpifaccjfgfkaaTraceFits
import Derived.Deep.AppendLies
import Derived.Laws.EntriesVeiled
namespace Go.Proofs.Ytfpifaccjfgfkaa
open Go.ChangeShapes Go.WideShapes Go.ChangeAt Go.RowKit Go.Deep

/-- w' is w but for new blocks, and for what lies in the blocks of S. -/
structure Only (w w' : World) (S : Nat → Prop) : Prop where
  os : w'.os = w.os
  tape : w'.tape = w.tape
  output : w'.output = w.output
  size : w.heap.size ≤ w'.heap.size
  block : ∀ k, k < w.heap.size → ¬ S k → w'.heap[k]? = w.heap[k]?
theorem Only.refl (w : World) (S : Nat → Prop) : Only w w S := ⟨rfl, rfl, rfl, Nat.le_refl _, fun _ _ _ => rfl⟩
theorem Only.trans {a b c : World} {S T : Nat → Prop} (h : Only a b S) (k : Only b c T) (hT : ∀ i, T i → i < a.heap.size → S i) : Only a c S :=
  ⟨k.os.trans h.os, k.tape.trans h.tape, k.output.trans h.output, Nat.le_trans h.size k.size, fun i hi hs => (k.block i (Nat.lt_of_lt_of_le hi h.size) (fun ht => hs (hT i ht hi))).trans (h.block i hi hs)⟩
theorem Only.of_below {w w' : World} {S : Nat → Prop} (h : Below w.heap.size w w') : Only w w' S := ⟨h.os, h.tape, h.output, h.size, fun k hk _ => h.block k hk⟩
theorem Only.below {w w' : World} {S : Nat → Prop} {B : Nat} (h : Only w w' S) (hB : B ≤ w.heap.size) (hS : ∀ k, S k → B ≤ k) : Below B w w' :=
  ⟨h.os, h.tape, h.output, h.size, fun k hk => h.block k (by omega) (fun hs => by have := hS k hs; omega)⟩
theorem Only.set {w w' : World} {S : Nat → Prop} (h : Only w w' S) {a : Addr} (ha : S a.block ∨ w.heap.size ≤ a.block) (v : Value) : Only w (w'.setCell a v) S :=
  ⟨h.os, h.tape, h.output, by rw [World.size_setCell]; exact h.size, fun k hk hs => by
    refine (Below.heap_setCell _ _ _ _ (fun e => ?_)).trans (h.block k hk hs)
    subst e
    rcases ha with ha | ha
    · exact hs ha
    · omega⟩
theorem Only.grown {w w' w'' : World} {S : Nat → Prop} {row : Option Nat} (h : Only w w' S) (hg : w'.grownBy w'' row) (hr : ∀ k, row = some k → S k ∨ w.heap.size ≤ k) : Only w w'' S :=
  ⟨hg.os.trans h.os, hg.tape.trans h.tape, hg.output.trans h.output, Nat.le_trans h.size hg.size, fun k hk hs => by
    refine (hg.block k (Nat.lt_of_lt_of_le hk h.size) (fun e => ?_)).trans (h.block k hk hs)
    rcases hr k e.symm with h1 | h1
    · exact hs h1
    · omega⟩

/-- the block g is a trace of the charges cs; its slice is v, in a block from B on. -/
structure TAt (w : World) (B g : Nat) (v : Value) (cs : List Chg) : Prop where
  lt : g < w.heap.size
  froz : w.frozen? ⟨g, 0, none⟩ = false
  cell : w.cell? ⟨g, 0, none⟩ = some v
  own : Owns w B v cs
  far : v.ownBlock ≠ some g
theorem TAt.keep {w w' : World} {B g : Nat} {v : Value} {cs : List Chg} {S : Nat → Prop} (h : TAt w B g v cs) (k : Only w w' S) (h1 : ¬ S g) (h2 : ∀ r, v.ownBlock = some r → ¬ S r) : TAt w' B g v cs := by
  have e := k.block g h.lt h1
  refine ⟨Nat.lt_of_lt_of_le h.lt k.size, (World.frozen?_of_block e).trans h.froz, (World.cell?_of_block e).trans h.cell, ?_, h.far⟩
  obtain ⟨hl, ⟨rfl, h0⟩ | ⟨r, cap, cur, rfl, hB, hg, hn, hm, hs, hc⟩⟩ := h.own
  · exact ⟨hl, .inl ⟨rfl, h0⟩⟩
  · exact ⟨hl, .inr ⟨r, cap, cur, rfl, hB, (k.block r (Array.getElem?_eq_some_iff.1 hg).1 (h2 r rfl)).trans hg, hn, hm, hs, hc⟩⟩
theorem TAt.below {w w' : World} {B g : Nat} {v : Value} {cs : List Chg} (h : TAt w B g v cs) (k : Below w.heap.size w w') : TAt w' B g v cs :=
  h.keep (S := fun _ => False) (Only.of_below k) (fun h => h) (fun _ _ h => h)
theorem TAt.shape {w : World} {B g : Nat} {v : Value} {cs : List Chg} (h : TAt w B g v cs) : ∃ a len cap, v = .slice a len cap := row_slice (owns_row h.own).1

theorem new_any (w : World) : Calls Try.prog 18 #[] w fun e w' => e = .returned (.pointer (some ⟨w.heap.size, 0, none⟩)) ∧ TAt w' 0 w.heap.size (.slice none 0 0) [] ∧ Below w.heap.size w w' := by
  go_enter Try.func18, Try.ntmps18
  go_wp2
  go_ret
  exact ⟨rfl, ⟨by simp, by go_simp, by go_simp, own_nil _ _, by simp [Value.ownBlock]⟩, bel_alloc (Below.refl _ _)⟩
theorem TAt.base {w : World} {B g : Nat} (h : TAt w 0 g (.slice none 0 0) []) : TAt w B g (.slice none 0 0) [] := ⟨h.lt, h.froz, h.cell, own_nil _ _, h.far⟩

set_option maxHeartbeats 400000 in
theorem len_any (B g : Nat) (v : Value) (cs : List Chg) (w : World) (h : TAt w B g v cs) : Calls Try.prog 21 #[.pointer (some ⟨g, 0, none⟩)] w fun e w' => e = .returned (.int .i64 (cs.length : Nat)) ∧ w' = w := by
  obtain ⟨a, len, cap, rfl⟩ := h.shape
  have hlen := row_len (owns_row h.own).1
  subst hlen
  have x0 := h.cell
  have lb := h.lt
  clear h
  go_enter Try.func21, Try.ntmps21
  go_wp2
  go_ret
  exact ⟨rfl, rfl⟩

/-! ### fits -/
/-- what is wrong with a charge that comes to others. -/
def fitsErr (cs : List Chg) (c : Chg) : Int := if chkErr c ≠ 0 then chkErr c else if anyClash cs c = true then 15 else 0
set_option maxHeartbeats 1000000 in
theorem fits_any (B g : Nat) (v : Value) (cs : List Chg) (c : Chg) (w : World) (h : TAt w B g v cs) (hv : ∀ x ∈ cs, Vld x) (hl : cs.length < 4096) :
    Calls Try.prog 33 #[.pointer (some ⟨g, 0, none⟩), .agg #[.int .i64 c.sv, .int .i64 c.wk, .int .i64 c.th, .int .i64 c.fr, .int .i64 c.to, .int .i64 c.n]] w (Gives (.int .i64 (fitsErr cs c)) w) := by
  have hmf : ∀ (fn : Fn) (first cap : Array Value) (w : World), (Instr.makeFunc fn first cap).run Try.prog w = .ok (.func fn first cap) w := fun _ _ _ _ => rfl
  have C := Lib.hid (check_any c)
  by_cases h1 : chkErr c = 0
  · have hV := chk_zero.1 h1
    rw [h1] at C
    have CO : Hid (∀ w2, Below w.heap.size w w2 → ∀ B2, ChgAt w2 B2 0 c → Calls Try.prog 49 #[v, .func (.func 48) #[] #[.pointer (some ⟨B2, 0, none⟩)]] w2 (Gives (.bool (anyClash cs c)) w2)) := fun w2 h2 B2 hb =>
      contains_any v B2 cs c w2 ((owns_row h.own).1.below h2) (by omega) hv hV hb
    have hf : Hid (fitsErr cs c = if anyClash cs c = true then 15 else 0) := by show _ = _; unfold fitsErr; rw [if_neg (fun hn => hn h1)]
    obtain ⟨a, len, cap, rfl⟩ := h.shape
    have hlen := row_len (owns_row h.own).1
    subst hlen
    have d1 : decide (4096 ≤ (cs.length : Int)) = false := decide_eq_false (by omega)
    have HT := Lib.hid h
    generalize anyClash cs c = t at *
    clear h1 hV hv h
    cases t with
    | true =>
      go_enter Try.func33, Try.ntmps33
      go_wp2_with fail
      refine (C.out _).mono ?_
      rintro e w1 ⟨rfl, b1⟩
      have hb := bel_end (bel_alloc (Below.refl w.heap.size w)) b1
      have x0 := (HT.out.below hb).cell
      have lb := (HT.out.below hb).lt
      have y0 := (b1.cell (p := ⟨w.heap.size, 0, none⟩) (by simp)).trans (show _ = some (Value.int .i64 c.sv) by go_simp)
      have y1 := (b1.cell (p := ⟨w.heap.size, 1, none⟩) (by simp)).trans (show _ = some (Value.int .i64 c.wk) by go_simp)
      have y2 := (b1.cell (p := ⟨w.heap.size, 2, none⟩) (by simp)).trans (show _ = some (Value.int .i64 c.th) by go_simp)
      have y3 := (b1.cell (p := ⟨w.heap.size, 3, none⟩) (by simp)).trans (show _ = some (Value.int .i64 c.fr) by go_simp)
      have y4 := (b1.cell (p := ⟨w.heap.size, 4, none⟩) (by simp)).trans (show _ = some (Value.int .i64 c.to) by go_simp)
      have y5 := (b1.cell (p := ⟨w.heap.size, 5, none⟩) (by simp)).trans (show _ = some (Value.int .i64 c.n) by go_simp)
      have HB := Lib.hid hb
      have HC := Lib.hid (CO.out w1 hb w.heap.size ⟨y0, y1, y2, y3, y4, y5⟩)
      clear hb b1
      go_wp2_with fail
      refine HC.out.mono ?_
      rintro e w2 ⟨rfl, b2⟩
      have HE := Lib.hid (bel_end HB.out b2)
      clear b2
      go_wp2_with fail
      go_ret
      exact ⟨ret1 (by rw [hf.out]; rfl), HE.out⟩
    | false =>
      go_enter Try.func33, Try.ntmps33
      go_wp2_with fail
      refine (C.out _).mono ?_
      rintro e w1 ⟨rfl, b1⟩
      have hb := bel_end (bel_alloc (Below.refl w.heap.size w)) b1
      have x0 := (HT.out.below hb).cell
      have lb := (HT.out.below hb).lt
      have y0 := (b1.cell (p := ⟨w.heap.size, 0, none⟩) (by simp)).trans (show _ = some (Value.int .i64 c.sv) by go_simp)
      have y1 := (b1.cell (p := ⟨w.heap.size, 1, none⟩) (by simp)).trans (show _ = some (Value.int .i64 c.wk) by go_simp)
      have y2 := (b1.cell (p := ⟨w.heap.size, 2, none⟩) (by simp)).trans (show _ = some (Value.int .i64 c.th) by go_simp)
      have y3 := (b1.cell (p := ⟨w.heap.size, 3, none⟩) (by simp)).trans (show _ = some (Value.int .i64 c.fr) by go_simp)
      have y4 := (b1.cell (p := ⟨w.heap.size, 4, none⟩) (by simp)).trans (show _ = some (Value.int .i64 c.to) by go_simp)
      have y5 := (b1.cell (p := ⟨w.heap.size, 5, none⟩) (by simp)).trans (show _ = some (Value.int .i64 c.n) by go_simp)
      have HB := Lib.hid hb
      have HC := Lib.hid (CO.out w1 hb w.heap.size ⟨y0, y1, y2, y3, y4, y5⟩)
      clear hb b1
      go_wp2_with fail
      refine HC.out.mono ?_
      rintro e w2 ⟨rfl, b2⟩
      have z0 := (HT.out.below (bel_end HB.out b2)).cell
      have lb2 := (HT.out.below (bel_end HB.out b2)).lt
      have HE := Lib.hid (bel_end HB.out b2)
      clear b2
      go_wp2_with fail
      go_ret
      exact ⟨ret1 (by rw [hf.out]; rfl), HE.out⟩
  · have hf : Hid (fitsErr cs c = chkErr c) := by show _ = _; unfold fitsErr; rw [if_pos h1]
    generalize chkErr c = E at *
    have d1 : (E == 0) = false := by rw [beq_eq_false_iff_ne]; exact h1
    have d2 : (E != 0) = true := by rw [bne_iff_ne]; exact h1
    clear h1 hv h hl
    go_enter Try.func33, Try.ntmps33
    go_wp2_with fail
    refine (C.out _).mono ?_
    rintro e w1 ⟨rfl, b1⟩
    go_wp2_with fail
    go_ret
    exact ⟨ret1 (by rw [hf.out]; rfl), bel_end (bel_alloc (Below.refl w.heap.size w)) b1⟩
end Go.Proofs.Ytfpifaccjfgfkaa
