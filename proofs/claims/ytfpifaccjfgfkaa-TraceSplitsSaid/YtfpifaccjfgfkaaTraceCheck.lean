/- What ratio.Check answers; what slices.SortedFunc hands back of a server's charges. Each theorem's premises are its conditions. -/
import Derived.Test.YtfpifaccjfgfkaaTraceSorted
import Derived.BigQuiet
namespace Go.Proofs.Ytfpifaccjfgfkaa
open Go.RowKit Go.Shelf Go.Sort
attribute [local go_sem] Oper.semAt_some

/-- which params may be. -/
def ParamsMay (q d t : Int) : Prop := 1 ≤ q ∧ q ≤ d ∧ d ≤ t ∧ t ≤ 1073741824

set_option maxHeartbeats 400000 in
theorem pcheck_ok (q d t : Int) (h : ParamsMay q d t) (w : World) :
    Calls Try.prog 27 #[.agg #[.int .i64 q, .int .i64 d, .int .i64 t]] w (Gives (.int .i64 0) w) := by
  obtain ⟨h1, h2, h3, h4⟩ := h
  go_enter Try.func27, Try.ntmps27
  go_wp2
  go_ret
  exact ⟨rfl, bel_alloc (Below.refl _ _)⟩
set_option maxHeartbeats 400000 in
theorem pcheck_bad (q d t : Int) (h : ¬ ParamsMay q d t) (w : World) :
    Calls Try.prog 27 #[.agg #[.int .i64 q, .int .i64 d, .int .i64 t]] w (Gives (.int .i64 1) w) := by
  unfold ParamsMay at h
  by_cases h1 : 1 ≤ q
  · by_cases h2 : q ≤ d
    · by_cases h3 : d ≤ t
      · have h4 : 1073741824 < t := by omega
        clear h
        go_enter Try.func27, Try.ntmps27
        go_wp2
        go_ret
        exact ⟨rfl, bel_alloc (Below.refl _ _)⟩
      · have h4 : t < d := by omega
        clear h h3
        go_enter Try.func27, Try.ntmps27
        go_wp2
        go_ret
        exact ⟨rfl, bel_alloc (Below.refl _ _)⟩
    · have h4 : d < q := by omega
      clear h h2
      go_enter Try.func27, Try.ntmps27
      go_wp2
      go_ret
      exact ⟨rfl, bel_alloc (Below.refl _ _)⟩
  · have h4 : q < 1 := by omega
    clear h h1
    go_enter Try.func27, Try.ntmps27
    go_wp2
    go_ret
    exact ⟨rfl, bel_alloc (Below.refl _ _)⟩


theorem sorted_hands (gf : FuncId) (lb : Array Value) (zs : List VC) (w : World) (eg : Enters Try.prog gf) (hz : zs.length ≤ 4000)
    (hS : ∀ W, Below w.heap.size w W → Hands Try.prog gf lb out6 w.heap.size (fun ys _ => ys = zs) (fun _ => True) 4000 W) :
    Calls Try.prog 28 #[.func (.func gf) #[] lb, .func (.func 30) #[] #[]] w fun e w' => ∃ v ts, e = .returned v ∧ ts.Perm zs ∧ Ups ts ∧ ChgRow w' v (ts.map (·.1)) ∧ Below w.heap.size w w' := by
  have H := Lib.hid (collect_hands gf lb zs w eg hz hS)
  clear hS
  go_enter Try.func28, Try.ntmps28
  go_wp2_with fail
  refine H.out.mono ?_
  rintro e w1 ⟨v, rfl, ho, hb⟩
  have HO := Lib.hid ho
  have HB := Lib.hid hb
  obtain ⟨a, n, c, rfl⟩ := own_shape ho
  clear ho hb H
  go_wp2_with fail
  refine (sort_any _ _ zs w1 hz HO.out).mono ?_
  rintro e w2 ⟨rfl, hb, ts, h1, h2, h3⟩
  have H2 := Lib.hid (And.intro h1 (And.intro h2 h3))
  have HB2 := Lib.hid (HB.out.trans (hb.mono (Nat.le_succ _)))
  clear h1 h2 h3 hb
  go_wp2_with fail
  go_ret
  exact ⟨_, ts, rfl, H2.out.1, H2.out.2.1, H2.out.2.2, HB2.out⟩
end Go.Proofs.Ytfpifaccjfgfkaa
