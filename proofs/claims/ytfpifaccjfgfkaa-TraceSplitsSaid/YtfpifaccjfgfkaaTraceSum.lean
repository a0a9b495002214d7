/- What trace's summed answers: the sum of what a function tells of each charge that an iterator hands out. Each theorem's premises are its conditions. -/
import Derived.Test.YtfpifaccjfgfkaaTraceSeq
import Derived.Test.YtfpifaccjfgfkaaTraceWin
import Derived.Stop.RegionWithIn
namespace Go.Proofs.Ytfpifaccjfgfkaa
open Go.RowKit Go.Shelf
attribute [local go_sem] Oper.semAt_some

def sumOf (f : VC → Int) : List VC → Int
  | [] => 0
  | c :: l => f c + sumOf f l
theorem sumOf_app (f : VC → Int) : ∀ l m : List VC, sumOf f (l ++ m) = sumOf f l + sumOf f m
  | [], m => by simp [sumOf]
  | c :: l, m => by rw [List.cons_append, sumOf, sumOf, sumOf_app f l m]; omega
theorem sumOf_snoc (f : VC → Int) (l : List VC) (x : VC) : sumOf f (l ++ [x]) = sumOf f l + f x := by rw [sumOf_app]; simp [sumOf]
theorem sumOf_le (f : VC → Int) (M : Int) (hf : ∀ x, 0 ≤ f x ∧ f x ≤ M) : ∀ l : List VC, 0 ≤ sumOf f l ∧ sumOf f l ≤ l.length * M
  | [] => by simp [sumOf]
  | c :: l => by
    have h1 := hf c
    have h2 := sumOf_le f M hf l
    rw [sumOf, List.length_cons]
    have e : ((l.length + 1 : Nat) : Int) * M = l.length * M + M := by rw [Int.natCast_add, Int.add_mul]; simp
    rw [e]
    omega
theorem others_of {U V : World} (h : Below U.heap.size U V) : KeepsOthers U V := ⟨h.size, fun k _ hk _ => (h.block k (Array.getElem?_eq_some_iff.1 hk).1).trans hk⟩
theorem cell_put {U : World} {a : Addr} {v : Value} {l : Nat} {o o' : Obj} (h : U.cell? a = some v) (hl : U.heap[l]? = some o) (hc : o.isCells = false) : (U.putObj l o').cell? a = some v :=
  cell_kept h (grownBy_putObj' _ _ _) (fun r e => by cases e; exact ⟨_, hl, hc⟩)
theorem frozen_put {U : World} {a : Addr} {v : Value} {l : Nat} {o o' : Obj} (h : U.cell? a = some v) (hl : U.heap[l]? = some o) (hc : o.isCells = false) : (U.putObj l o').frozen? a = U.frozen? a :=
  frozen_kept h (grownBy_putObj' _ _ _) (fun r e => by cases e; exact ⟨_, hl, hc⟩)
def Box6 (c : Chg) (B : Nat) (W : World) : Prop :=
  W.cell? ⟨B, 0, none⟩ = some (.int .i64 c.sv) ∧ W.cell? ⟨B, 1, none⟩ = some (.int .i64 c.wk) ∧ W.cell? ⟨B, 2, none⟩ = some (.int .i64 c.th) ∧ W.cell? ⟨B, 3, none⟩ = some (.int .i64 c.fr) ∧ W.cell? ⟨B, 4, none⟩ = some (.int .i64 c.to) ∧ W.cell? ⟨B, 5, none⟩ = some (.int .i64 c.n)
theorem box6_new (c : Chg) (U : World) : Box6 c U.heap.size (U.alloc (.cells #[.int .i64 c.sv, .int .i64 c.wk, .int .i64 c.th, .int .i64 c.fr, .int .i64 c.to, .int .i64 c.n] 50)) :=
  ⟨by go_simp, by go_simp, by go_simp, by go_simp, by go_simp, by go_simp⟩
theorem Box6.put {c : Chg} {B : Nat} {U : World} {l : Nat} {o o' : Obj} (h : Box6 c B U) (hl : U.heap[l]? = some o) (hc : o.isCells = false) : Box6 c B (U.putObj l o') :=
  ⟨cell_put h.1 hl hc, cell_put h.2.1 hl hc, cell_put h.2.2.1 hl hc, cell_put h.2.2.2.1 hl hc, cell_put h.2.2.2.2.1 hl hc, cell_put h.2.2.2.2.2 hl hc⟩
theorem cell_one {W V : World} {b : Nat} {v : Value} (h : Below W.drew.heap.size W.drew V) (hl : b < W.heap.size) (hc : W.cell? ⟨b, 0, none⟩ = some v) : V.cell? ⟨b, 0, none⟩ = some v :=
  (h.cell (p := ⟨b, 0, none⟩) (by simpa using hl)).trans (by go_simp)
theorem frozen_one {W V : World} {b : Nat} (h : Below W.drew.heap.size W.drew V) (hl : b < W.heap.size) (hc : W.frozen? ⟨b, 0, none⟩ = false) : V.frozen? ⟨b, 0, none⟩ = false :=
  (h.frozen (p := ⟨b, 0, none⟩) (by simpa using hl)).trans (by go_simp)
/-- what lies in the boxes of the function and of the sum. -/
def SumAt (B : Nat) (fv : Value) (s : Int) (W : World) : Prop :=
  W.cell? ⟨B, 0, none⟩ = some fv ∧ W.cell? ⟨B + 1, 0, none⟩ = some (.int .i64 s) ∧ W.frozen? ⟨B + 1, 0, none⟩ = false
theorem SumAt.grown {B : Nat} {fv : Value} {s : Int} {U V : World} (h : SumAt B fv s U) (k : Below U.heap.size U V) : SumAt B fv s V :=
  ⟨(k.cell (cell_lt h.1)).trans h.1, (k.cell (cell_lt h.2.1)).trans h.2.1, (k.frozen (cell_lt h.2.1)).trans h.2.2⟩
theorem SumAt.put {B : Nat} {fv : Value} {s : Int} {U : World} {l : Nat} {o o' : Obj} (h : SumAt B fv s U) (hl : U.heap[l]? = some o) (hc : o.isCells = false) : SumAt B fv s (U.putObj l o') :=
  ⟨cell_put h.1 hl hc, cell_put h.2.1 hl hc, (frozen_put h.2.1 hl hc).trans h.2.2⟩
theorem wrap_sum {s y : Int} (h1 : 0 ≤ s) (h2 : s ≤ 4398046511104000) (h3 : 0 ≤ y) (h4 : y ≤ 1099511627776) : IntKind.i64.wrap (s + y) = s + y := by
  rw [IntKind.wrap_i64]
  omega
theorem round_end {w W w3 : World} {fv : Value} {s t y z : Int} (hz : z = s + y) (ht : t = s + y) (b3 : Below W.drew.heap.size W.drew w3) (hB : Below w.heap.size w W) (c0 : W.cell? ⟨w.heap.size, 0, none⟩ = some fv) (l1 : w.heap.size + 1 < W.heap.size)
    (k1 : w3.cell? ⟨w.heap.size + 1, 0, none⟩ = some (.int .i64 s)) (k2 : w3.frozen? ⟨w.heap.size + 1, 0, none⟩ = false) :
    KeepsOthers W (w3.setCell ⟨w.heap.size + 1, 0, none⟩ (.int .i64 z)) ∧ Below w.heap.size W (w3.setCell ⟨w.heap.size + 1, 0, none⟩ (.int .i64 z)) ∧ SumAt w.heap.size fv t (w3.setCell ⟨w.heap.size + 1, 0, none⟩ (.int .i64 z)) ∧ Below w.heap.size w (w3.setCell ⟨w.heap.size + 1, 0, none⟩ (.int .i64 z)) := by
  subst hz
  subst ht
  have b : Below W.heap.size W w3 := (Below.refl _ W).drew.trans b3
  have k0 := cell_one b3 (by omega) c0
  have bs : Below w.heap.size W (w3.setCell ⟨w.heap.size + 1, 0, none⟩ (.int .i64 (s + y))) := (b.mono (by omega)).setCell (by simp) _
  refine ⟨(others_of b).trans (KeepsOthers.setCell _ _ _), bs, ⟨?_, by go_simp, by go_simp⟩, hB.trans bs⟩
  exact (World.cell?_of_block (Below.heap_setCell _ _ _ _ (by simp))).trans k0

set_option maxRecDepth 100000 in
set_option maxHeartbeats 2000000 in
theorem summed_hands (gf fn : FuncId) (lb caps : Array Value) (val : VC → Int) (zs : List VC) (w : World) (eg : Enters Try.prog gf) (ef : Enters Try.prog fn)
    (hS : ∀ W, Below w.heap.size w W → Hands Try.prog gf lb out6 w.heap.size (fun ys _ => ys = zs) (fun _ => True) 4000 W)
    (hv : ∀ x U, Below w.heap.size w U → Calls Try.prog fn (out6 x ++ caps) U (Gives (.int .i64 (val x)) U)) (hb : ∀ x, 0 ≤ val x ∧ val x ≤ 1099511627776) :
    CallsIn Fence.wide 6 Try.prog 34 #[.func (.func gf) #[] lb, .func (.func fn) #[] caps] w (Gives (.int .i64 (sumOf val zs)) w) := by
  refine callsIn_of_wp_marks Try.func34 rfl trivial ?_ rfl
  simp only [Try.ntmps34, List.size_toArray, List.length_cons, List.length_nil, Nat.reduceAdd, Nat.reduceSub, Array.replicate_succ, Array.replicate_zero, List.push_toArray, List.append_toArray, List.nil_append, List.cons_append]
  gi_wp2
  have hB0 : Below w.heap.size w ((w.alloc (.cells #[.func (.func fn) #[] caps] 73)).alloc (.cells #[.int .i64 0] 3)) := bel_alloc (bel_alloc (Below.refl _ _))
  have sz : ((w.alloc (.cells #[.func (.func fn) #[] caps] 73)).alloc (.cells #[.int .i64 0] 3)).heap.size = w.heap.size + 1 + 1 := by simp
  refine loop_hands (B := w.heap.size) (w0 := w) (S := fun ys _ => ys = zs) (Sp := fun _ => True) (N := 4000) rfl eg (hS _ (Below.refl _ _)) hB0 (by omega) (fun _ => rfl)
    (fun ys W => SumAt w.heap.size (.func (.func fn) #[] caps) (sumOf val ys) W ∧ Below w.heap.size w W) (fun _ _ => False)
    (fun ys U V h k => ⟨h.1.grown k, h.2.trans (k.mono h.2.size)⟩)
    (fun ys U l o o' h hl hc hle => ⟨h.1.put hl hc, h.2.trans (below_put (by omega))⟩)
    (fun ys U l o o' h => h.elim)
    (fun ys U l o o' h _ _ _ => h)
    ⟨⟨by show _ = some (Value.func (.func fn) #[] caps); go_simp, by show _ = some (Value.int .i64 0); go_simp, by go_simp⟩, hB0⟩
    (fun x U => { tmps := #[.func (.func gf) #[] lb, .func (.func fn) #[] caps, undef, .pointer (some ⟨w.heap.size, 0, none⟩), .int .i64 0, .pointer (some ⟨w.heap.size + 1, 0, none⟩), .pointer (some ⟨U.heap.size, 0, none⟩), .func (.func gf) #[] lb, .agg #[.int .i64 x.1.sv, .int .i64 x.1.wk, .int .i64 x.1.th, .int .i64 x.1.fr, .int .i64 x.1.to, .int .i64 x.1.n], undef, undef, undef, undef, undef, undef], defers := [] }) (fun x U => U.alloc (.cells #[.int .i64 x.1.sv, .int .i64 x.1.wk, .int .i64 x.1.th, .int .i64 x.1.fr, .int .i64 x.1.to, .int .i64 x.1.n] 50)) (fun x U => bel_alloc (Below.refl _ _))
    (fun x U0 U => U0.heap.size < U.heap.size ∧ Box6 x.1 U0.heap.size U) (fun x U => ⟨by simp, box6_new x.1 U⟩) (fun x U0 U l o o' h hl hc => ⟨by simpa using h.1, h.2.put hl hc⟩) ?takes ?rounds ?all ?some_
  case takes =>
    intro l x W K hK
    unfold out6
    gi_wp2
    exact hK
  case rounds =>
    rintro l pre x U0 W ⟨⟨c0, c1, f1⟩, hB⟩ ⟨l6, q0, q1, q2, q3, q4, q5⟩ hN
    generalize U0.heap.size = B6 at *
    have hsz := hB.size
    have sl := sumOf_le val _ hb pre
    have sn := Lib.hid (sumOf_snoc val pre x)
    have hx := hb x
    generalize sumOf val pre = s at *
    have l0 : w.heap.size < W.heap.size := cell_lt c0
    have l1 : w.heap.size + 1 < W.heap.size := cell_lt c1
    have hpl : (pre.length : Int) * 1099511627776 ≤ 4000 * 1099511627776 := Int.mul_le_mul_of_nonneg_right (by omega) (by omega)
    have bs : 0 ≤ s ∧ s ≤ 4398046511104000 := ⟨sl.1, by omega⟩
    have HV := Lib.hid (fun U h => hv x U h)
    have HB := Lib.hid hB
    obtain ⟨x, hxv⟩ := x
    clear sl hpl hv hS hb
    generalize val ⟨x, hxv⟩ = y at *
    simp only
    refine wpIn_block ?_
    have en : ∀ args w, (callFunc fn args).run Try.prog w = .ok (.enter fn args) w := ef
    simp only at q0 q1 q2 q3 q4 q5
    gi_region_with (refine ⟨trivial, ?_⟩; refine (CallsIn.inRound l (callsIn_wide.2 (HV.out _ (bel_drew HB.out)))).mono ?_; rintro e w3 ⟨rfl, b3⟩; have HB3 := Lib.hid b3; have k1 := cell_one b3 l1 c1; have k2 := frozen_one b3 l1 f1; clear b3; have l3 := cell_lt k1)
    all_goals exact round_end (z := IntKind.i64.wrap (s + y)) (wrap_sum bs.1 bs.2 hx.1 hx.2) sn.out HB3.out HB.out c0 l1 k1 k2
  case all =>
    rintro D ys W hD rfl ⟨⟨c0, c1, f1⟩, hB⟩ hK
    have l0 : w.heap.size < W.heap.size := cell_lt c0
    have l1 : w.heap.size + 1 < W.heap.size := cell_lt c1
    obtain ⟨S1, h1⟩ : ∃ z : Int, sumOf val ys = z := ⟨_, rfl⟩
    rw [h1] at c1 ⊢
    gi_wp2
    have hK' := run_takeDeferred (P := Try.prog) hK
    refine ⟨by simp, .inl ⟨_, _, rfl, hK', ?_⟩⟩
    refine ⟨.int .i64 S1, ?_, ?_⟩
    · simp [results, Try.results34, go_sem]
    · exact ⟨by rw [h1], hB.trans (below_put (by simp at hD; omega))⟩
  case some_ =>
    rintro D pre W _ _ h _
    exact h.elim
end Go.Proofs.Ytfpifaccjfgfkaa
