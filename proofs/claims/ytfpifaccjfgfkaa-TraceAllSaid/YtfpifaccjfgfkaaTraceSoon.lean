/- What the law's soon answers. Each theorem's premises are its conditions. -/
import Derived.Test.YtfpifaccjfgfkaaTracePlain
namespace Go.Proofs.Ytfpifaccjfgfkaa
open Go.ChangeShapes Go.WideShapes Go.ChangeAt Go.RowKit Go.Deep
attribute [local go_sem] Oper.semAt_some

def soonB (l : List Chg) : Bool := l.all fun c => decide (c.to ≤ 1073741824)
theorem soon_not {l : List Chg} {k : Nat} (hk : k < l.length) (h : ¬ (l.getD k c0).to ≤ 1073741824) : soonB l = false := by
  unfold soonB
  rw [List.all_eq_false]
  refine ⟨l.getD k c0, ?_, by simpa using h⟩
  have : l.getD k c0 = l[k] := by simp [List.getD, hk]
  rw [this]; exact List.getElem_mem hk
theorem soon_yes {l : List Chg} (h : ∀ j, j < l.length → (l.getD j c0).to ≤ 1073741824) : soonB l = true := by
  unfold soonB
  rw [List.all_eq_true]
  intro c hc
  obtain ⟨j, hj, rfl⟩ := List.getElem_of_mem hc
  have := h j hj
  have e : l.getD j c0 = l[j] := by simp [List.getD, hj]
  rw [e] at this
  simpa using this
set_option maxRecDepth 100000 in
set_option maxHeartbeats 2000000 in
theorem soon_some (g cap : Nat) (l : List Chg) (w : World) (hg : g < w.heap.size) (hc : ∀ j, j < l.length → ChgAt w g (j * 6) (l.getD j c0)) (hl : l.length ≤ 4000) :
    Calls Try.prog 16 #[.slice (some ⟨g, 0, none⟩) l.length cap] w (Gives (.bool (soonB l)) w) := by
  have HC := Lib.hid hc
  clear hc
  go_enter Try.func16, Try.ntmps16
  go_wp2_with fail
  go_loopw [3] (fun i wr => ∃ k : Nat, k ≤ l.length ∧ i = .int .i64 k ∧ (∀ j, j < k → (l.getD j c0).to ≤ 1073741824) ∧ wr = w) (fun i _ => l.length - (intOf i).toNat)
  case atStart => exact ⟨0, Nat.zero_le _, rfl, fun j h => absurd h (by omega), rfl⟩
  case round =>
    obtain ⟨k, hk, rfl, hall, rfl⟩ := hrel
    have HA := Lib.hid hall
    clear hall
    by_cases hlt : k < l.length
    · obtain ⟨_, _, _, _, q4, _⟩ := HC.out k hlt
      have hlt' : (k : Int) < (l.length : Int) := by omega
      by_cases ht : (l.getD k c0).to ≤ 1073741824
      · have HN : Hid (∀ j, j < k + 1 → (l.getD j c0).to ≤ 1073741824) := fun j hj => by
          by_cases e : j = k
          · rw [e]; exact ht
          · exact HA.out j (by omega)
        have d1 : decide (1073741824 < (l.getD k c0).to) = false := decide_eq_false (by omega)
        generalize (l.getD k c0).to = T at *
        clear ht
        go_wp2_with fail
        go_roundw
        case rel => exact ⟨k + 1, by omega, by simp, HN.out, by first | trivial | rfl⟩
        case measure => first | (simp [intOf]; done) | (simp [intOf]; omega)
      · have HN := Lib.hid (soon_not hlt ht)
        have d1 : decide (1073741824 < (l.getD k c0).to) = true := decide_eq_true (by omega)
        generalize (l.getD k c0).to = T at *
        clear ht
        go_wp2_with fail
        go_ret
        exact ⟨by rw [HN.out]; rfl, Below.refl _ _⟩
    · obtain rfl : k = l.length := by omega
      have HN := Lib.hid (soon_yes HA.out)
      have hge : ¬ (l.length : Int) < (l.length : Int) := by omega
      go_wp2_with fail
      go_ret
      exact ⟨by rw [HN.out]; rfl, Below.refl _ _⟩
set_option maxHeartbeats 1000000 in
theorem soon_nil (w : World) : Calls Try.prog 16 #[.slice none 0 0] w (Gives (.bool true) w) := by
  go_enter Try.func16, Try.ntmps16
  go_wp2_with fail
  refine wp_loop_rounds 1 ?_
  rw [rounds_succ]
  go_wp2_with fail
  go_ret
  exact ⟨rfl, Below.refl _ _⟩
theorem soon_any (B : Nat) (v : Value) (l : List Chg) (w : World) (h : ROwns w B v l) (hl : l.length ≤ 4000) : Calls Try.prog 16 #[v] w (Gives (.bool (soonB l)) w) := by
  rcases rown_cells h with ⟨rfl, rfl⟩ | ⟨g, cap, rfl, hg, hc⟩
  · exact soon_nil w
  · exact soon_some g cap l w hg hc hl
end Go.Proofs.Ytfpifaccjfgfkaa
