/- slices.SortStableFunc of a row of what is owed (up to 80). Each theorem's premises are its conditions. -/
import Derived.Test.YtmcilmmnpolieaaK22
import Derived.Test.YtmcilmmnpolieaaK25
/- slices.SortStableFunc of a row of what is owed (up to 80). Each theorem's premises are its conditions. -/
namespace Go.Proofs.Ytmcilmmnpolieaa
open Go.RowKit Go.Shelf Go.Sort

theorem enc_oc (x : VO) {c : Nat} (hc : c < 5) : (enc5 x)[c]! = oc x.1 c := by
  match c, hc with
  | 0, _ => rfl
  | 1, _ => rfl
  | 2, _ => rfl
  | 3, _ => rfl
  | 4, _ => rfl
/-- things owed that may be. -/
def vos : (l : List Ow) → (∀ o ∈ l, OwOk o) → List VO
  | [], _ => []
  | x :: l, h => ⟨x, h x (by simp)⟩ :: vos l fun o ho => h o (by simp [ho])
theorem vos_map : ∀ (l : List Ow) (h : ∀ o ∈ l, OwOk o), (vos l h).map (·.1) = l
  | [], _ => rfl
  | x :: l, h => by rw [vos, List.map_cons, vos_map l]
theorem vos_len (l : List Ow) (h : ∀ o ∈ l, OwOk o) : (vos l h).length = l.length := by
  have := congrArg List.length (vos_map l h)
  rwa [List.length_map] at this
theorem vo_get {ys : List VO} {q : Nat} (hq : q < ys.length) : (ys.map (·.1)).getD q default = ys[q].1 := by simp [List.getD, hq]
theorem holds5 {w : World} {g cap : Nat} {ys : List VO} (R : RowF w g cap ys.length (fun t => (ys.map (·.1)).getD t default)) : HoldsK enc5 5 w g 0 ys.toArray := by
  intro j hj
  rw [size_flatK] at hj
  have hj' : j < ys.length * 5 := by simpa using hj
  have hq : j / 5 < ys.length := by omega
  have h1 := (R.row (j / 5) hq).oc (c := j % 5) (by omega)
  rw [show j / 5 * 5 + j % 5 = j by omega] at h1
  refine ⟨?_, R.froz _⟩
  rw [Nat.zero_add, h1, get_flatK _ _ _ _ (by simpa using hj'), vo_get hq]
  have e3 : ys.toArray[j / 5]! = ys[j / 5] := by simp [hq]
  rw [e3, enc_oc _ (by omega)]
  rfl
theorem sorted_grown {w : World} {g n : Nat} {os : Array Obj} (d : Array VO) : w.grownBy (sortWorldK enc5 5 w g 0 n d os) (some g) := by
  refine ⟨rfl, rfl, rfl, by simp [sortWorldK, putRowK], fun k hk hne => ?_⟩
  unfold sortWorldK putRowK
  rw [heap_grow_old _ _ (by simpa using hk)]
  have : g ≠ k := fun e => hne (by rw [e])
  simp [putRow, mapBlock, Sort.ahead, Array.getElem?_modify, this]
theorem sort_obj {w : World} {g n : Nat} {os : Array Obj} (d : Array VO) {cur : Array Value} {t : TypeId} {fr : Nat × Nat} (hg : w.heap[g]? = some (.cells cur t fr)) :
    ∃ cur', (sortWorldK enc5 5 w g 0 n d os).heap[g]? = some (.cells cur' t fr) ∧ cur'.size = cur.size := by
  have hlt : g < w.heap.size := (Array.getElem?_eq_some_iff.1 hg).1
  unfold sortWorldK putRowK
  rw [heap_grow_old _ _ (by simpa [putRow, mapBlock, Sort.ahead] using hlt)]
  refine ⟨putCells id 0 (flatK enc5 5 d) cur, ?_, ?_⟩
  · simp only [putRow, mapBlock, Sort.ahead, Array.getElem?_modify, if_pos, hg]
    rfl
  · simp [putCells]
theorem row_sorted {w : World} {g cap n : Nat} {os : Array Obj} {ys : List VO} (R : RowF w g cap ys.length (fun t => (ys.map (·.1)).getD t default)) {d : Array VO} (hd : d.size = ys.length) :
    RowF (sortWorldK enc5 5 w g 0 n d os) g cap d.size (fun t => (d.toList.map (·.1)).getD t default) := by
  obtain ⟨cur, hg, hs⟩ := R.obj
  obtain ⟨cur', hg', hs'⟩ := sort_obj (n := n) (os := os) d hg
  refine ⟨⟨cur', hg', hs'.trans hs⟩, by rw [hd]; exact R.le, R.max, fun t ht => ?_⟩
  have hK := holdsK_sortWorldK_c enc5 5 w g 0 ys.toArray d n os (holds5 R) R.lt (by simp [hd])
  have each : ∀ c, c < 5 → (sortWorldK enc5 5 w g 0 n d os).cell? ⟨g, t * 5 + c, none⟩ = some (oc ((d.toList.map (·.1)).getD t default) c) := fun c hc => by
    have h1 := (hK (t * 5 + c) (by rw [size_flatK]; omega)).1
    rw [get_flatK _ _ _ _ (by omega), show (t * 5 + c) / 5 = t by omega, show (t * 5 + c) % 5 = c by omega, Nat.zero_add] at h1
    rw [h1]
    have e3 : d[t]! = d[t] := by simp [ht]
    have e4 : (d.toList.map (·.1)).getD t default = d[t].1 := by simp [List.getD, ht]
    rw [e3, e4, id, enc_oc _ hc]
  exact ⟨each 0 (by omega), each 1 (by omega), each 2 (by omega), each 3 (by omega), each 4 (by omega)⟩
set_option maxHeartbeats 1000000 in
theorem sortO {g cap : Nat} {l : List Ow} {w : World} (h : OwnsO w (.slice (some ⟨g, 0, none⟩) l.length cap) l) (hOk : ∀ o ∈ l, OwOk o) (hn : l.length ≤ 80) :
    Calls Try.prog 32 #[.slice (some ⟨g, 0, none⟩) l.length cap, .func (.func 33) #[] #[]] w fun e w' => e = .returned (.tuple #[]) ∧ ∃ l', l'.Perm l ∧ SortedO l' ∧ OwnsO w' (.slice (some ⟨g, 0, none⟩) l.length cap) l' ∧ Only w w' (· = g) := by
  obtain ⟨ys, hys⟩ : ∃ ys, ys = vos l hOk := ⟨_, rfl⟩
  have hmap : ys.map (·.1) = l := by rw [hys]; exact vos_map l hOk
  have hlen : ys.length = l.length := by rw [hys]; exact vos_len l hOk
  clear hys
  have R := RowF.of_own h
  rw [← hmap, List.length_map] at R
  have hsz : ys.toArray.size = l.length := by simp [hlen]
  have C := stable5 cap (rowK5 (holds5 R) R.lt) rfl (SWK.start (holds5 R)) (by rw [hsz]; exact hn)
  rw [hsz] at C
  have HC := Lib.hid C
  have HR := Lib.hid R
  have HM := Lib.hid hmap
  have HL := Lib.hid hlen
  clear C R hmap h hsz hOk hlen
  go_enter Try.func32, Try.ntmps32
  go_wp2_with fail
  refine HC.out.mono ?_
  rintro e w1 ⟨rfl, d, ⟨n, os, hw⟩, ⟨p1, p2, p3⟩, s1⟩
  have hd : d.size = ys.length := by rw [p1]; simp
  have hperm : d.toList.Perm ys := by
    rw [Array.extract_eq_self_of_le (by rw [hd, HL.out]; exact Nat.le_refl _), Array.extract_eq_self_of_le (by simp [HL.out])] at p3
    simpa using p3
  have hres : Hid ((d.toList.map (·.1)).Perm l ∧ SortedO (d.toList.map (·.1)) ∧ OwnsO w1 (.slice (some ⟨g, 0, none⟩) l.length cap) (d.toList.map (·.1)) ∧ Only w w1 (· = g)) := by
    refine ⟨by rw [← HM.out]; exact hperm.map _, ?_, ?_, ?_⟩
    · unfold SortedO
      rw [List.pairwise_map, List.pairwise_iff_getElem]
      intro i j hi hj hij
      have hi' : i < d.size := by simpa using hi
      have hj' : j < d.size := by simpa using hj
      have := s1 i j (Nat.zero_le _) hij (by have := HL.out; omega)
      rw [lt5, getElem!_pos d i hi', getElem!_pos d j hj'] at this
      have := of_decide_eq_false this
      simpa using this
    · have hrow := row_sorted (n := n) (os := os) HR.out hd
      rw [← hw] at hrow
      have hl2 : (d.toList.map (·.1)).length = d.size := by simp
      have := RowF.own (l := d.toList.map (·.1)) (by rw [hl2]; exact hrow)
      rw [hl2, hd, HL.out] at this
      exact this
    · have := sorted_grown (w := w) (g := g) (n := n) (os := os) d
      rw [← hw] at this
      exact ⟨this.os, this.tape, this.output, this.size, fun k hk hs => this.block k hk (fun e => by cases e; exact hs rfl)⟩
  clear hw p1 p2 p3 s1 hd hperm
  go_wp2_with fail
  go_end0
  exact ⟨rfl, _, hres.out⟩
end Go.Proofs.Ytmcilmmnpolieaa
