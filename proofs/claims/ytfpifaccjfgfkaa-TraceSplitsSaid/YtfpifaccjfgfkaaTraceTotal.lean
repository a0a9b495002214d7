/- What trace.Total answers: a map of what each server was charged. Each theorem's premises are its conditions. -/
import Derived.Test.YtfpifaccjfgfkaaTraceSeqM
import Derived.Test.YtfpifaccjfgfkaaTraceSum
import Derived.Test.YtfpifaccjfgfkaaTraceMade
import Derived.Maps.OwnIn
import Derived.Maps.Views
namespace Go.Proofs.Ytfpifaccjfgfkaa
open Go.RowKit Go.Shelf
attribute [local go_sem] Oper.semAt_some

/-- the number that a datum is (0 where it is none). -/
def numD {H : Type} : DataW H → Int
  | .lit (.int _ c) => c
  | _ => 0
/-- one round: the sum of the charge's server, more by the charge. -/
def bumpD {H : Type} (D : DataW H) (x : Chg) : DataW H := D.put (.int .i64 x.sv) (.lit (.int .i64 (wrap64 (numD (D.atKey (.int .i64 x.sv) (.lit (.int .i64 0))) + x.n))))
def totD {H : Type} (xs : List VC) : DataW H := xs.foldl (fun D x => bumpD D x.1) (.map [])
theorem totD_snoc {H : Type} (pre : List VC) (x : VC) : totD (H := H) (pre ++ [x]) = bumpD (totD pre) x.1 := by simp [totD]
theorem sv_wf {x : Chg} (h : Vld x) : (Lit.int .i64 x.sv).wf = true := by
  have h1 := wrap64_wf x.sv
  obtain ⟨_, _, _⟩ := h
  rw [show wrap64 x.sv = x.sv by unfold wrap64; omega] at h1
  exact h1
/-- the box of the map, and the map. -/
def TotAt (H : Type) (B : Nat) (xs : List VC) (W : World) : Prop := W.cell? ⟨B + 1, 0, none⟩ = some (.map (some B)) ∧ W.ownsMap Try.prog 3 (plainElem (H := H) Try.prog 3) B xs.length (totD xs)
theorem TotAt.grown {H : Type} {B : Nat} {xs : List VC} {U V : World} (h : TotAt H B xs U) (k : Below U.heap.size U V) : TotAt H B xs V :=
  ⟨(k.cell (cell_lt h.1)).trans h.1, h.2.kept (row := none) ⟨k.os, k.tape, k.output, k.size, fun i hi _ => k.block i hi⟩ (by simp)⟩
theorem TotAt.put {H : Type} {B : Nat} {xs : List VC} {U : World} {l : Nat} {o o' : Obj} (h : TotAt H B xs U) (hl : U.heap[l]? = some o) (hc : o.isCells = false) (hB : B < l) : TotAt H B xs (U.putObj l o') :=
  ⟨cell_put h.1 hl hc, h.2.kept (grownBy_putObj' _ l _) (fun e => by cases e; omega)⟩

set_option maxRecDepth 100000 in
set_option maxHeartbeats 2000000 in
theorem total_any (H : Type) (B g : Nat) (v : Value) (ys : List VC) (w : World) (hl : ys.length ≤ 4000) (h : TAt w B g v (ys.map (·.1))) :
    Calls Try.prog 24 #[.pointer (some ⟨g, 0, none⟩)] w fun e W' => e = .returned (.map (some w.heap.size)) ∧ W'.ownsMap Try.prog 3 (plainElem (H := H) Try.prog 3) w.heap.size ys.length (totD ys) ∧ Below w.heap.size w W' := by
  have hmm := @run_makeMap Try.prog
  have HT := Lib.hid h
  have lg := h.lt
  clear h
  have hB0 : Hid (Below w.heap.size w ((w.alloc (.map #[] 0)).alloc (.cells #[.map (some w.heap.size)] 54))) := Lib.hid (bel_alloc (bel_alloc (Below.refl _ _)))
  have AL := Lib.hid (callsIn_wide (n := 5).2 (all_any B g v (ys.map (·.1)) _ (HT.out.below hB0.out) (by rw [List.length_map]; exact hl)))
  refine (callsIn_wide (n := 6)).1 ?_
  refine callsIn_of_wp_marks Try.func24 rfl trivial ?_ rfl
  simp only [Try.ntmps24, List.size_toArray, List.length_cons, List.length_nil, Nat.reduceAdd, Nat.reduceSub, Array.replicate_succ, Array.replicate_zero, List.push_toArray, List.append_toArray, List.nil_append, List.cons_append]
  gi_wp2_with (refine ⟨trivial, ?_⟩; gi_at_call 38; refine AL.out.mono ?_; rintro e w1 ⟨k, v', rfl, hb, hc, hr⟩)
  have HB1 := Lib.hid (hB0.out.trans (hb.mono hB0.out.size))
  have hm0 := World.ownsMap_made w Try.prog 3 (plainElem (H := H) Try.prog 3)
  have t0 : TotAt H w.heap.size [] ((w.alloc (.map #[] 0)).alloc (.cells #[.map (some w.heap.size)] 54)) := ⟨by go_simp, hm0.alloc _⟩
  have HT1 := Lib.hid (t0.grown hb)
  have hno : ∀ o v, w1.cell? ⟨w.heap.size, o, none⟩ ≠ some v := fun o v hq => by
    obtain ⟨es, ck, hh, _⟩ := HT1.out.2
    simp [World.cell?, hh] at hq
  have hkM : k ≠ w.heap.size := fun e => hno 0 v' (by rw [← e]; exact hc)
  have HH := Lib.hid (fun W hW => val_handsM w.heap.size k v' ys w1 hl hkM hr (fun b o c hq e => hno o _ (by rw [← e]; exact hq.1)) hc W hW)
  have hs1 : w.heap.size + 1 + 1 ≤ w1.heap.size := by have := hb.size; simp at this; exact this
  have lB := cell_lt HT1.out.1
  clear hb hc hr t0 hm0 AL HT
  gi_wp2
  refine loop_handsM (M := w.heap.size) (B := w1.heap.size) (w0 := w1) (S := fun xs _ => xs = ys) (Sp := fun _ => True) (N := 4000) rfl (fun _ _ => rfl) (HH.out _ (Bel2.of (Below.refl _ _))) (Bel2.of (Below.refl _ _)) (Nat.le_refl _) (fun _ => rfl)
    (fun xs W => TotAt H w.heap.size xs W ∧ Below w.heap.size w W ∧ w1.heap.size ≤ W.heap.size) (fun _ _ => False)
    (fun xs U V h k => ⟨h.1.grown k, h.2.1.trans (k.mono h.2.1.size), Nat.le_trans h.2.2 k.size⟩)
    (fun xs U l o o' h hl hc hle => ⟨h.1.put hl hc (by omega), h.2.1.trans (below_put (by omega)), by simpa using h.2.2⟩)
    (fun xs U l o o' h => h.elim)
    (fun xs U l o o' h _ _ _ => h)
    ⟨HT1.out, HB1.out, Nat.le_refl _⟩
    (fun x U => { tmps := #[.pointer (some ⟨g, 0, none⟩), undef, .map none, .pointer (some ⟨w.heap.size + 1, 0, none⟩), .pointer (some ⟨U.heap.size, 0, none⟩), .pointer (some ⟨g, 0, none⟩), .bool false, .map (some w.heap.size), .pointer (some ⟨g, 0, none⟩), .func (.func 57) #[] #[.pointer (some ⟨k, 0, none⟩)], .agg #[.int .i64 x.1.sv, .int .i64 x.1.wk, .int .i64 x.1.th, .int .i64 x.1.fr, .int .i64 x.1.to, .int .i64 x.1.n], undef, undef, undef, undef, undef, undef, undef, undef], defers := [] }) (fun x U => U.alloc (.cells #[.int .i64 x.1.sv, .int .i64 x.1.wk, .int .i64 x.1.th, .int .i64 x.1.fr, .int .i64 x.1.to, .int .i64 x.1.n] 50)) (fun x U => bel_alloc (Below.refl _ _))
    (fun x U0 U => U0.heap.size < U.heap.size ∧ Box6 x.1 U0.heap.size U) (fun x U => ⟨by simp, box6_new x.1 U⟩) (fun x U0 U l o o' h hl hc => ⟨by simpa using h.1, h.2.put hl hc⟩) ?takes ?rounds ?all ?some_
  case takes =>
    intro l x W K hK
    unfold out6
    gi_wp2
    exact hK
  case rounds =>
    rintro l pre x U0 W ⟨⟨c0, hown⟩, hB, hs9⟩ ⟨l6, q0, q1, q2, q3, q4, q5⟩ hN
    generalize U0.heap.size = B6 at *
    have hkey := Maps.keyOf_int_mk (P := Try.prog) Try.underlying3 (sv_wf x.2)
    have hsz := hB.size
    have HB := Lib.hid hB
    have hsn := Lib.hid (totD_snoc (H := H) pre x)
    obtain ⟨x, hxv⟩ := x
    simp only at q0 q1 q2 q3 q4 q5 hkey
    have l0 : w.heap.size + 1 < W.heap.size := cell_lt c0
    have hms : pre.length < maxLen := by unfold maxLen; omega
    clear hB
    refine wpIn_block ?_
    gi_wp2_with (first
      | (gi_at_lookup; refine wpListIn_lookup_own_int _ rfl _ _ 54 rfl 3 3 .i64 (Maps.int_keyed Try.underlying3) Try.underlying54 Try.underlying3 (Try.zeroValue3 _) w.heap.size pre.length _ rfl hown _ _ rfl hkey ?_; intro c hat hwc)
      | (gi_at_mapUpdate; refine wpListIn_mapUpdate_own _ rfl _ _ _ 54 rfl 3 3 (Maps.int_keyed Try.underlying3) Try.underlying54 _ w.heap.size pre.length _ rfl hown hms _ _ _ rfl rfl hkey _ [] (plainElem_int Try.underlying3 (wrap64_wf _)) ?_; intro w3 hown1 hgrow1))
    obtain ⟨es, ck, hh, _⟩ := hown
    have hb3 : Below w.heap.size W w3 := (Below.refl _ W).grown hgrow1 hsz (fun k e => by cases e; exact Nat.le_refl _)
    refine ⟨KeepsFrom.of_grownBy hgrow1 (fun j e => by cases e; omega), ?_, ⟨cell_kept c0 hgrow1 (fun r e => by cases e; exact ⟨_, hh, rfl⟩), ?_⟩, HB.out.trans hb3, Nat.le_trans hs9 hgrow1.size⟩
    · exact Bel2.grown hgrow1 (by omega)
    · rw [hsn.out, List.length_append, bumpD, hat]; exact hown1
  case all =>
    rintro D xs W hD rfl ⟨⟨hc, hown⟩, hB, _⟩ hK
    have l0 := cell_lt hc
    gi_wp2
    refine ⟨by simp, .inl ⟨_, _, rfl, run_takeDeferred hK, ?_⟩⟩
    exact ⟨_, results_tmp rfl _ _ _, rfl, hown.kept (grownBy_putObj' _ D _) (fun e => by cases e; omega), hB.trans (below_put (by omega))⟩
  case some_ =>
    rintro D pre W _ _ h _
    exact h.elim
end Go.Proofs.Ytfpifaccjfgfkaa
