/- What ledger.New lays. Each theorem's premises are its conditions. -/
import Derived.Test.YtmcilmmnpolieaaK26
import Derived.Deep.OwnRows
/- What ledger.New lays. Each theorem's premises are its conditions. -/
namespace Go.Proofs.Ytmcilmmnpolieaa
open Go.ChangeShapes Go.WideShapes Go.ChangeAt Go.RowKit Go.Shelf Go.Deep

theorem infoInt : (Try.prog.info? 3).map (fun i => (i.zero, i.size, i.bytes)) = some (some (.int .i64 0), 1, 8) := by kernel_rfl
theorem z75 : Try.zeroCells75 = #[.int .i64 0, .slice none 0 0, .slice none 0 0] ++ Array.replicate 64 (.pointer none) := by kernel_rfl
/-- where a new ledger's blocks lie. -/
def newLay (s : Nat) : Lay where
  role := fun k => if k = s then some (.dom 0) else if k = s + 1 then some .doms else if k = s + 2 then some .wks else if k = s + 3 then some .led else none
  g := s + 3
  dv := .slice (some ⟨s + 1, 0, none⟩) 1 1
  db := fun _ => s
  wb := s + 2
  ov := fun _ => .slice none 0 0
  ol := fun _ => []
  mb := fun _ => 0
theorem newLay_role (s : Nat) : ∀ k, (newLay s).role k ≠ none → s ≤ k := fun k h => by
  unfold newLay at h
  simp only at h
  repeat' split at h
  all_goals first | omega | (exact absurd rfl h)
theorem cell_of_obj {w : World} {b : Nat} {cs : Array Value} {t : TypeId} {fr : Nat × Nat} (h : w.heap[b]? = some (.cells cs t fr)) (o : Nat) : w.cell? ⟨b, o, none⟩ = cs[o]? := by simp [World.cell?, h]
theorem froz_of_obj {w : World} {b : Nat} {cs : Array Value} {t : TypeId} (h : w.heap[b]? = some (.cells cs t (0, 0))) (o : Nat) : w.frozen? ⟨b, o, none⟩ = false := by simp [World.frozen?, h]
theorem fresh_at (w : World) (n : Nat) : LAt ((((w.alloc (.cells #[.bool false, .int .i64 1048576, .int .i64 n, .slice none 0 0] 82)).alloc (.cells #[.pointer (some ⟨w.heap.size, 0, none⟩)] 80)).alloc (.cells (madeCells #[.int .i64 0] n) 3)).alloc (.cells ((Try.zeroCells75.setIfInBounds 1 (.slice (some ⟨w.heap.size + 1, 0, none⟩) 1 1)).setIfInBounds 2 (.slice (some ⟨w.heap.size + 1 + 1, 0, none⟩) n n)) 75)) (newLay w.heap.size) (newLS n) := by
  obtain ⟨W, hW⟩ : ∃ W, W = (((w.alloc (.cells #[.bool false, .int .i64 1048576, .int .i64 n, .slice none 0 0] 82)).alloc (.cells #[.pointer (some ⟨w.heap.size, 0, none⟩)] 80)).alloc (.cells (madeCells #[.int .i64 0] n) 3)).alloc (.cells ((Try.zeroCells75.setIfInBounds 1 (.slice (some ⟨w.heap.size + 1, 0, none⟩) 1 1)).setIfInBounds 2 (.slice (some ⟨w.heap.size + 1 + 1, 0, none⟩) n n)) 75) := ⟨_, rfl⟩
  rw [← hW]
  have hs : W.heap.size = w.heap.size + 4 := by rw [hW]; simp
  have h0 : W.heap[w.heap.size]? = some (.cells #[.bool false, .int .i64 1048576, .int .i64 n, .slice none 0 0] 82) := by
    rw [hW, Below.heap_alloc _ _ _ (by simp <;> omega), Below.heap_alloc _ _ _ (by simp <;> omega), Below.heap_alloc _ _ _ (by simp)]
    exact heap_alloc_new _ _
  have h1 : W.heap[w.heap.size + 1]? = some (.cells #[.pointer (some ⟨w.heap.size, 0, none⟩)] 80) := by
    rw [hW, Below.heap_alloc _ _ _ (by simp <;> omega), Below.heap_alloc _ _ _ (by simp)]
    have := heap_alloc_new (w.alloc (.cells #[.bool false, .int .i64 1048576, .int .i64 n, .slice none 0 0] 82)) (.cells #[.pointer (some ⟨w.heap.size, 0, none⟩)] 80)
    rwa [World.size_alloc] at this
  have h2 : W.heap[w.heap.size + 2]? = some (.cells (madeCells #[.int .i64 0] n) 3) := by
    rw [hW, Below.heap_alloc _ _ _ (by simp)]
    have := heap_alloc_new ((w.alloc (.cells #[.bool false, .int .i64 1048576, .int .i64 n, .slice none 0 0] 82)).alloc (.cells #[.pointer (some ⟨w.heap.size, 0, none⟩)] 80)) (.cells (madeCells #[.int .i64 0] n) 3)
    rwa [World.size_alloc, World.size_alloc] at this
  have h3 : W.heap[w.heap.size + 3]? = some (.cells ((Try.zeroCells75.setIfInBounds 1 (.slice (some ⟨w.heap.size + 1, 0, none⟩) 1 1)).setIfInBounds 2 (.slice (some ⟨w.heap.size + 1 + 1, 0, none⟩) n n)) 75) := by
    rw [hW]
    have := heap_alloc_new (((w.alloc (.cells #[.bool false, .int .i64 1048576, .int .i64 n, .slice none 0 0] 82)).alloc (.cells #[.pointer (some ⟨w.heap.size, 0, none⟩)] 80)).alloc (.cells (madeCells #[.int .i64 0] n) 3)) (.cells ((Try.zeroCells75.setIfInBounds 1 (.slice (some ⟨w.heap.size + 1, 0, none⟩) 1 1)).setIfInBounds 2 (.slice (some ⟨w.heap.size + 1 + 1, 0, none⟩) n n)) 75)
    rwa [World.size_alloc, World.size_alloc, World.size_alloc] at this
  clear hW
  rw [z75] at h3
  generalize w.heap.size = s at *
  have c0 := cell_of_obj h0
  have c2 := cell_of_obj h2
  have c3 := cell_of_obj h3
  refine ⟨fun k hk => by
      rw [hs]
      unfold newLay at hk
      simp only at hk
      repeat' split at hk
      all_goals first | omega | (exact absurd rfl hk), ⟨by simp [newLay], froz_of_obj h3, ?_, ?_, ?_, fun i hi => ?_⟩, ⟨fun k hk => ?_, ?_⟩, ⟨by simp [newLay], froz_of_obj h2, fun i hi => ?_⟩, fun i hi => ?_, fun i hi => ?_⟩
  · refine (c3 0).trans ?_; simp [newLS]
  · refine (c3 1).trans ?_; simp [newLay]
  · refine (c3 2).trans ?_; simp [newLay, newLS]
  · refine (c3 (3 + i)).trans ?_
    simp only [srvPtr, newLS]
    rw [Array.getElem?_setIfInBounds_ne (by omega), Array.getElem?_setIfInBounds_ne (by omega), Array.getElem?_append_right (by simp)]
    simp
    rw [Array.getElem?_replicate, if_pos hi]
  · cases hk
    simp [newLay]
  · refine ⟨rfl, .inr ⟨s + 1, 1, _, rfl, Nat.zero_le _, h1, Nat.le_refl _, by unfold maxLen; omega, rfl, rfl⟩⟩
  · refine (c2 i).trans ?_
    simp only [newLS] at hi ⊢
    simp [madeCells, hi, Nat.mod_one]
  · have hi0 : i = 0 := by simp only [newLS] at hi; omega
    subst hi0
    exact ⟨by simp [newLay], froz_of_obj h0, (c0 0).trans rfl, (c0 1).trans rfl, (c0 2).trans rfl, (c0 3).trans rfl, (fun k hk => (by cases hk)), ⟨rfl, .inl ⟨rfl, rfl⟩⟩, List.Perm.refl _, List.Pairwise.nil⟩
  · exact trivial
set_option maxRecDepth 100000 in
set_option maxHeartbeats 4000000 in
theorem new3 (w : World) : Calls Try.prog 25 #[.int .i64 3] w fun e w' => ∃ L, e = .returned (.tuple #[.pointer (some ⟨L.g, 0, none⟩), .int .i64 0]) ∧ LAt w' L (newLS 3) ∧ Below w.heap.size w w' ∧ ∀ k, L.role k ≠ none → w.heap.size ≤ k := by
  have hmk : ∀ w, (Instr.makeSlice 46 (.int .i64 3) (.int .i64 3)).run Try.prog w = .ok (.slice (some ⟨w.heap.size, 0, none⟩) 3 3) (w.alloc (.cells (madeCells #[.int .i64 0] 3) 3)) := fun w => by
    have h := run_make_row' (P := Try.prog) 46 3 (.int .i64 0) 8 Try.underlying46 infoInt rfl .i64 .i64 3 (by omega) (by omega) w
    simp only [Int.cast_ofNat_Int] at h
    exact h
  go_enter Try.func25, Try.ntmps25
  go_wp2_with fail
  go_ret2
  exact ⟨newLay w.heap.size, rfl, fresh_at w 3, by (repeat (first | with_reducible refine bel_alloc ?_ | with_reducible refine bel_drew ?_)); exact Below.refl _ _, newLay_role _⟩
set_option maxRecDepth 100000 in
set_option maxHeartbeats 4000000 in
theorem new1 (w : World) : Calls Try.prog 25 #[.int .i64 1] w fun e w' => ∃ L, e = .returned (.tuple #[.pointer (some ⟨L.g, 0, none⟩), .int .i64 0]) ∧ LAt w' L (newLS 1) ∧ Below w.heap.size w w' ∧ ∀ k, L.role k ≠ none → w.heap.size ≤ k := by
  have hmk : ∀ w, (Instr.makeSlice 46 (.int .i64 1) (.int .i64 1)).run Try.prog w = .ok (.slice (some ⟨w.heap.size, 0, none⟩) 1 1) (w.alloc (.cells (madeCells #[.int .i64 0] 1) 3)) := fun w => by
    have h := run_make_row' (P := Try.prog) 46 3 (.int .i64 0) 8 Try.underlying46 infoInt rfl .i64 .i64 1 (by omega) (by omega) w
    simp only [Int.cast_ofNat_Int] at h
    exact h
  go_enter Try.func25, Try.ntmps25
  go_wp2_with fail
  go_ret2
  exact ⟨newLay w.heap.size, rfl, fresh_at w 1, by (repeat (first | with_reducible refine bel_alloc ?_ | with_reducible refine bel_drew ?_)); exact Below.refl _ _, newLay_role _⟩
end Go.Proofs.Ytmcilmmnpolieaa
