/- What slices.AppendSeq and slices.Collect answer of charges. Each theorem's premises are its conditions. -/
import Derived.Test.YtfpifaccjfgfkaaTraceSum
import Derived.Test.YtfpifaccjfgfkaaTraceHas
namespace Go.Proofs.Ytfpifaccjfgfkaa
open Go.RowKit Go.Shelf
attribute [local go_sem] Oper.semAt_some

/-- the box holds a slice that owns what was handed out. -/
def BoxAt (B : Nat) (v : Value) (cs : List Chg) (U : World) : Prop := U.cell? ⟨B, 0, none⟩ = some v ∧ U.frozen? ⟨B, 0, none⟩ = false ∧ Owns U (B + 1) v cs
theorem BoxAt.grown {B : Nat} {v : Value} {cs : List Chg} {U V : World} (h : BoxAt B v cs U) (k : Below U.heap.size U V) : BoxAt B v cs V :=
  ⟨(k.cell (cell_lt h.1)).trans h.1, (k.frozen (cell_lt h.1)).trans h.2.1, owns_below h.2.2 k⟩
theorem owns_put {U : World} {B : Nat} {v : Value} {cs : List Chg} {l : Nat} {o o' : Obj} (h : Owns U B v cs) (hl : U.heap[l]? = some o) (hc : o.isCells = false) : Owns (U.putObj l o') B v cs := by
  obtain ⟨h0, ⟨rfl, h1⟩ | ⟨g, cap, cur, rfl, h1, h2, h3⟩⟩ := h
  · exact ⟨h0, .inl ⟨rfl, h1⟩⟩
  · refine ⟨h0, .inr ⟨g, cap, cur, rfl, h1, (World.putObj_heap_other ?_).trans h2, h3⟩⟩
    intro e
    subst e
    rw [hl] at h2
    cases h2
    cases hc
theorem BoxAt.put {B : Nat} {v : Value} {cs : List Chg} {U : World} {l : Nat} {o o' : Obj} (h : BoxAt B v cs U) (hl : U.heap[l]? = some o) (hc : o.isCells = false) : BoxAt B v cs (U.putObj l o') :=
  ⟨cell_put h.1 hl hc, (frozen_put h.1 hl hc).trans h.2.1, owns_put h.2.2 hl hc⟩
theorem new_row (c : Chg) (U : World) : ∀ j u, (ccells [c])[j]? = some u → (U.alloc (.cells #[.int .i64 c.sv, .int .i64 c.wk, .int .i64 c.th, .int .i64 c.fr, .int .i64 c.to, .int .i64 c.n] 50)).cell? ((Addr.mk U.heap.size 0 none).add j) = some u := by
  have h := box6_new c U
  refine (row_cells (cs := [c]) (len := 1) (cap := 1) (.inr ⟨U.heap.size, 0, 1, rfl, by simp, by simp, fun j hj => ?_⟩)).2
  obtain rfl : j = 0 := by simpa using hj
  exact h
theorem own_shape {U : World} {B e size k : Nat} {v : Value} {xs : List Value} (h : U.ownsRow B e size v k xs) : ∃ a n c, v = .slice a n c := by
  obtain ⟨_, ⟨rfl, _⟩ | ⟨g, cap, cur, rfl, _⟩⟩ := h <;> exact ⟨_, _, _, rfl⟩
theorem app_mid {W2 w3 : World} {v : Value} {cs : List Chg} {B : Nat} (h : BoxAt B v cs W2) (hg : W2.grownBy w3 v.ownBlock) : w3.cell? ⟨B, 0, none⟩ = some v ∧ w3.frozen? ⟨B, 0, none⟩ = false := by
  have hlt := cell_lt h.1
  have hne : some B ≠ v.ownBlock := fun e => by have := own_block h.2.2 _ e.symm; omega
  exact ⟨(World.cell?_of_block (hg.block _ hlt hne)).trans h.1, (World.frozen?_of_block (hg.block _ hlt hne)).trans h.2.1⟩
theorem app_end {W W2 w3 w : World} {v v' : Value} {cs : List Chg} {c : Chg} {B : Nat} (hB : Below w.heap.size w W) (hb : B = w.heap.size) (hbox : BoxAt B v cs W) (h2 : Below W.heap.size W W2)
    (ho : w3.ownsRow (B + 1) 50 6 v' (cs.length + 1) (ccells cs ++ ccells [c])) (hg : W2.grownBy w3 v.ownBlock) :
    KeepsOthers W (w3.setCell ⟨B, 0, none⟩ v') ∧ Below w.heap.size W (w3.setCell ⟨B, 0, none⟩ v') ∧ BoxAt B v' (cs ++ [c]) (w3.setCell ⟨B, 0, none⟩ v') ∧ Below w.heap.size w (w3.setCell ⟨B, 0, none⟩ v') := by
  subst hb
  have hbox2 := hbox.grown h2
  have hlt := cell_lt hbox2.1
  have hne : ∀ k, v.ownBlock = some k → w.heap.size + 1 ≤ k := fun k e => own_block hbox2.2.2 k e
  have hne' : v.ownBlock ≠ some w.heap.size := fun e => by have := hne _ e; omega
  have hsz := hB.size
  have b3 : Below w.heap.size W w3 := (h2.mono (by omega)).grown hg (by have := h2.size; omega) (fun k e => by have := hne k e; omega)
  have c3 : w3.cell? ⟨w.heap.size, 0, none⟩ = some v := (World.cell?_of_block (hg.block _ hlt (fun e => hne' e.symm))).trans hbox2.1
  have f3 : w3.frozen? ⟨w.heap.size, 0, none⟩ = false := (World.frozen?_of_block (hg.block _ hlt (fun e => hne' e.symm))).trans hbox2.2.1
  have b4 : Below w.heap.size W (w3.setCell ⟨w.heap.size, 0, none⟩ v') := b3.setCell (by simp) _
  have ho' : Owns w3 (w.heap.size + 1) v' (cs ++ [c]) := by
    show w3.ownsRow _ _ _ _ _ _
    rw [ccells_append, List.length_append]
    exact ho
  refine ⟨((others_of h2).trans (KeepsOthers.of_grownBy hg ?_)).trans (KeepsOthers.setCell _ _ _), b4, ⟨?_, ?_, own_set ho' ?_⟩, hB.trans b4⟩
  · intro j o hj hoj
    obtain ⟨_, ⟨rfl, _⟩ | ⟨g, cap, cur, rfl, _, hgb, _⟩⟩ := hbox2.2.2
    · cases hj
    · have e : g = j := by simpa [Value.ownBlock] using hj
      subst e
      rw [hgb] at hoj
      cases hoj
      rfl
  · go_simp
  · go_simp
  · intro e
    have := own_block ho' _ e
    simp only at this
    omega

set_option maxRecDepth 100000 in
set_option maxHeartbeats 2000000 in
theorem appendseq_hands (gf : FuncId) (lb : Array Value) (zs : List VC) (w : World) (eg : Enters Try.prog gf) (hz : zs.length ≤ 4000)
    (hS : ∀ W, Below w.heap.size w W → Hands Try.prog gf lb out6 w.heap.size (fun ys _ => ys = zs) (fun _ => True) 4000 W) :
    CallsIn Fence.wide 6 Try.prog 53 #[.slice none 0 0, .func (.func gf) #[] lb] w fun e w' => ∃ v, e = .returned v ∧ Owns w' (w.heap.size + 1) v (zs.map (·.1)) ∧ Below w.heap.size w w' := by
  obtain ⟨i0, hi, hz0, hz1, hz2⟩ := info_parts Try.infoCharge
  refine callsIn_of_wp_marks Try.func53 rfl trivial ?_ rfl
  simp only [Try.ntmps53, List.size_toArray, List.length_cons, List.length_nil, Nat.reduceAdd, Nat.reduceSub, Array.replicate_succ, Array.replicate_zero, List.push_toArray, List.append_toArray, List.nil_append, List.cons_append]
  gi_wp2
  have hB0 : Below w.heap.size w (w.alloc (.cells #[.slice none 0 0] 40)) := bel_alloc (Below.refl _ _)
  refine loop_hands (B := w.heap.size) (w0 := w) (S := fun ys _ => ys = zs) (Sp := fun _ => True) (N := 4000) rfl eg (hS _ (Below.refl _ _)) hB0 (by simp) (fun _ => rfl)
    (fun ys W => (∃ v, BoxAt w.heap.size v (ys.map (·.1)) W) ∧ Below w.heap.size w W) (fun _ _ => False)
    (fun ys U V h k => ⟨⟨_, h.1.choose_spec.grown k⟩, h.2.trans (k.mono h.2.size)⟩)
    (fun ys U l o o' h hl hc hle => ⟨⟨_, h.1.choose_spec.put hl hc⟩, h.2.trans (below_put (by simp at hle; omega))⟩)
    (fun ys U l o o' h => h.elim)
    (fun ys U l o o' h _ _ _ => h)
    ⟨⟨.slice none 0 0, by go_simp, by go_simp, own_nil _ _⟩, hB0⟩
    (fun x U => { tmps := #[.slice none 0 0, .func (.func gf) #[] lb, .pointer (some ⟨w.heap.size, 0, none⟩), undef, .slice none 0 0, .pointer (some ⟨U.heap.size, 0, none⟩), .func (.func gf) #[] lb, .agg #[.int .i64 x.1.sv, .int .i64 x.1.wk, .int .i64 x.1.th, .int .i64 x.1.fr, .int .i64 x.1.to, .int .i64 x.1.n], undef, undef, undef, undef, undef], defers := [] }) (fun x U => U.alloc (.cells #[.int .i64 x.1.sv, .int .i64 x.1.wk, .int .i64 x.1.th, .int .i64 x.1.fr, .int .i64 x.1.to, .int .i64 x.1.n] 50)) (fun x U => bel_alloc (Below.refl _ _))
    (fun x U0 U => U0.heap.size < U.heap.size ∧ Box6 x.1 U0.heap.size U) (fun x U => ⟨by simp, box6_new x.1 U⟩) (fun x U0 U l o o' h hl hc => ⟨by simpa using h.1, h.2.put hl hc⟩) ?takes ?rounds ?all ?some_
  case takes =>
    intro l x W K hK
    unfold out6
    gi_wp2
    exact hK
  case rounds =>
    rintro l pre x U0 W ⟨⟨v, hbox⟩, hB⟩ ⟨l6, q0, q1, q2, q3, q4, q5⟩ hN
    generalize U0.heap.size = B6 at *
    obtain ⟨x, hxv⟩ := x
    have hlen : (List.map (fun x : VC => x.val) pre).length < 4000 := by rw [List.length_map]; exact hN
    have hm : (pre ++ [(⟨x, hxv⟩ : VC)]).map (fun z : VC => z.1) = pre.map (fun z : VC => z.1) ++ [x] := by simp
    have HM := Lib.hid hm
    clear hm
    generalize pre.map (fun z : VC => z.1) = cs at *
    have c0 := hbox.1
    have f0 := hbox.2.1
    have HO := Lib.hid hbox
    have HB := Lib.hid hB
    have hsz := hB.size
    obtain ⟨a, n, c, rfl⟩ := row_slice (owns_row hbox.2.2).1
    simp only at q0 q1 q2 q3 q4 q5
    have l0 : w.heap.size < W.heap.size := cell_lt c0
    clear hbox hB
    refine wpIn_block ?_
    gi_wp2_with (gi_at_builtin; (refine wpListIn_append_own _ rfl _ _ 40 rfl (w.heap.size + 1) 50 i0 (.agg #[.int .i64 0, .int .i64 0, .int .i64 0, .int .i64 0, .int .i64 0, .int .i64 0]) 6 48 Try.underlying40 hi hz0 hz1 hz2 rfl (by decide) _ _ _ rfl (HO.out.2.2.alloc _) ⟨W.heap.size, 0, none⟩ 1 1 (ccells [x]) rfl rfl (new_row x W) (ccells_one _) (by unfold maxLen; omega) (by omega) (by simp; omega) ?_); intro v' w3 hown hgrow _; obtain ⟨a3, n3, c3, rfl⟩ := own_shape hown; obtain ⟨k3, f3⟩ := app_mid (HO.out.grown (bel_alloc (Below.refl W.heap.size W))) hgrow; have HW := Lib.hid hown; have HG := Lib.hid hgrow; clear hown hgrow)
    obtain ⟨h1, h2, h3, h4⟩ := app_end HB.out rfl HO.out (bel_alloc (Below.refl W.heap.size W)) HW.out HG.out
    rw [← HM.out] at h3
    exact ⟨h1, h2, ⟨_, h3⟩, h4⟩
  case all =>
    rintro D ys W hD rfl ⟨⟨v, hbox⟩, hB⟩ hK
    have c0 := hbox.1
    have l0 : w.heap.size < W.heap.size := cell_lt c0
    have HO := Lib.hid hbox
    obtain ⟨a, n, c, rfl⟩ := row_slice (owns_row hbox.2.2).1
    clear hbox
    gi_wp2
    have hK' := run_takeDeferred (P := Try.prog) hK
    refine ⟨by simp, .inl ⟨_, _, rfl, hK', ?_⟩⟩
    refine ⟨.slice a n c, ?_, ?_⟩
    · simp [results, Try.results53, go_sem]
    · exact ⟨_, rfl, (HO.out.put hK rfl).2.2, hB.trans (below_put (by simp at hD; omega))⟩
  case some_ =>
    rintro D pre W _ _ h _
    exact h.elim
/-- slices.Collect. -/
theorem collect_hands (gf : FuncId) (lb : Array Value) (zs : List VC) (w : World) (eg : Enters Try.prog gf) (hz : zs.length ≤ 4000)
    (hS : ∀ W, Below w.heap.size w W → Hands Try.prog gf lb out6 w.heap.size (fun ys _ => ys = zs) (fun _ => True) 4000 W) :
    Calls Try.prog 44 #[.func (.func gf) #[] lb] w fun e w' => ∃ v, e = .returned v ∧ Owns w' (w.heap.size + 1) v (zs.map (·.1)) ∧ Below w.heap.size w w' := by
  have H := Lib.hid (callsIn_wide.1 (appendseq_hands gf lb zs w eg hz hS))
  clear hS
  go_enter Try.func44, Try.ntmps44
  go_wp2_with fail
  refine H.out.mono ?_
  rintro e w1 ⟨v, rfl, ho, hb⟩
  have HO := Lib.hid ho
  have HB := Lib.hid hb
  obtain ⟨a, n, c, rfl⟩ := own_shape ho
  clear ho hb H
  go_wp2_with fail
  go_ret
  exact ⟨_, rfl, HO.out, HB.out⟩
end Go.Proofs.Ytfpifaccjfgfkaa
