/- What slices.Clone, slices.Values and trace.All answer of charges. Each theorem's premises are its conditions. -/
import Derived.Test.YtfpifaccjfgfkaaTraceAdd2
namespace Go.Proofs.Ytfpifaccjfgfkaa
open Go.ChangeShapes Go.WideShapes Go.ChangeAt Go.RowKit Go.Deep

set_option maxRecDepth 100000 in
theorem clone_some (ad : Addr) (len cap : Nat) (ps : List Chg) (w : World) (hlen : len = ps.length) (hl : ps.length ≤ 4000) (hc : ∀ j u, (ccells ps)[j]? = some u → w.cell? (ad.add j) = some u) :
    Calls Try.prog 51 #[.slice (some ad) len cap] w fun e w' => ∃ v', e = .returned v' ∧ Owns w' w.heap.size v' ps ∧ Below w.heap.size w w' := by
  subst hlen
  obtain ⟨i0, hi, hz0, hz1, hz2⟩ := info_parts Try.infoCharge
  have HC := Lib.hid hc
  clear hc
  have hq : ∀ w : World, (binOp .eql 40 (.slice (some ad) ps.length cap) (.slice none 0 0)).run Try.prog w = .ok (.bool false) w := fun _ => rfl
  go_enter Try.func51, Try.ntmps51
  go_wp2_with (at_builtin; (refine wpList_append_own _ rfl _ _ 40 rfl w.heap.size 50 i0 (.agg #[.int .i64 0, .int .i64 0, .int .i64 0, .int .i64 0, .int .i64 0, .int .i64 0]) 6 48 Try.underlying40 hi hz0 hz1 hz2 rfl (by decide) _ 0 [] rfl (own_empty (Nat.le_refl _) (World.alloc_heap_new w _)) ad ps.length cap (ccells ps) rfl (ccells_length ps) (fun j u hj => cell_alloc (HC.out j u hj)) (ccells_one ps) (by unfold maxLen; omega) (by omega) (by simp) ?_); intro v' w1 hown hgrow _; simp only [Nat.zero_add, List.nil_append] at hown)
  go_ret
  refine ⟨_, rfl, hown, (bel_alloc (Below.refl w.heap.size w)).grown hgrow (by simp) (fun k e => by cases e; exact Nat.le_refl _)⟩
set_option maxRecDepth 100000 in
theorem clone_nil (w : World) : Calls Try.prog 51 #[.slice none 0 0] w fun e w' => e = .returned (.slice none 0 0) ∧ w' = w := by
  have hq : ∀ w : World, (binOp .eql 40 (.slice none 0 0) (.slice none 0 0)).run Try.prog w = .ok (.bool true) w := fun _ => rfl
  go_enter Try.func51, Try.ntmps51
  go_wp2_with fail
  go_ret
  exact ⟨rfl, rfl⟩
theorem clone_any (v : Value) (ps : List Chg) (w : World) (h : ChgRow w v ps) (hn : SliceOk v) (hl : ps.length ≤ 4000) :
    Calls Try.prog 51 #[v] w fun e w' => ∃ v', e = .returned v' ∧ Owns w' w.heap.size v' ps ∧ Below w.heap.size w w' := by
  obtain ⟨a, len, cap, rfl⟩ := row_slice h
  cases a with
  | none =>
    obtain ⟨rfl, rfl⟩ := hn.1 _ _ rfl
    have e : ps = [] := by
      rcases h with ⟨_, _, _, rfl⟩ | ⟨b, off, cap', e, _⟩
      · rfl
      · cases e
    subst e
    exact (clone_nil w).mono fun e w' ⟨h1, h2⟩ => ⟨_, h1, own_nil _ _, by rw [h2]; exact Below.refl _ _⟩
  | some ad =>
    obtain ⟨h1, h2⟩ := row_cells h
    exact clone_some ad len cap ps w h1 hl h2
theorem values_any (a : Option Addr) (n c : Nat) (w : World) :
    Calls Try.prog 50 #[.slice a n c] w fun e w' => e = .returned (.func (.func 57) #[] #[.pointer (some ⟨w.heap.size, 0, none⟩)]) ∧ Below w.heap.size w w' ∧ w'.cell? ⟨w.heap.size, 0, none⟩ = some (.slice a n c) := by
  have hmf : ∀ (fn : Fn) (first cap : Array Value) (w : World), (Instr.makeFunc fn first cap).run Try.prog w = .ok (.func fn first cap) w := fun _ _ _ _ => rfl
  go_enter Try.func50, Try.ntmps50
  go_wp2_with fail
  go_ret
  exact ⟨rfl, bel_alloc (Below.refl _ _), by go_simp⟩
theorem all_any (B g : Nat) (v : Value) (cs : List Chg) (w : World) (h : TAt w B g v cs) (hl : cs.length ≤ 4000) :
    Calls Try.prog 38 #[.pointer (some ⟨g, 0, none⟩)] w fun e w' => ∃ k v', e = .returned (.func (.func 57) #[] #[.pointer (some ⟨k, 0, none⟩)]) ∧ Below w.heap.size w w' ∧ w'.cell? ⟨k, 0, none⟩ = some v' ∧ ChgRow w' v' cs := by
  obtain ⟨hr, hs⟩ := owns_row h.own
  have C := Lib.hid (clone_any v cs w hr hs hl)
  have hc := h.cell
  have lt := h.lt
  clear h hr hs
  go_enter Try.func38, Try.ntmps38
  go_wp2_with fail
  refine C.out.mono ?_
  rintro e w1 ⟨v', rfl, ho, hb⟩
  have HO := Lib.hid (owns_row ho).1
  obtain ⟨a, n, c, rfl⟩ := row_slice HO.out
  have HB := Lib.hid hb
  clear ho hb hc
  go_wp2_with fail
  refine (values_any a n c w1).mono ?_
  rintro e w2 ⟨rfl, hb2, hc2⟩
  have HB2 := Lib.hid hb2
  clear hb2
  go_wp2_with fail
  go_ret
  exact ⟨_, _, rfl, HB.out.trans (HB2.out.mono HB.out.size), hc2, HO.out.below HB2.out⟩
end Go.Proofs.Ytfpifaccjfgfkaa
