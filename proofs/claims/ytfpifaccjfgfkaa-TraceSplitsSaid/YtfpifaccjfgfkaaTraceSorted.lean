/- What slices.SortedFunc answers of a server's charges: they, by the time from. Each theorem's premises are its conditions. -/
import Derived.Test.YtfpifaccjfgfkaaTraceShelf
import Derived.Test.YtfpifaccjfgfkaaTraceCollect
import Derived.Shelf.SlSortCmp.WholeK
namespace Go.Proofs.Ytfpifaccjfgfkaa
open Go.RowKit Go.Shelf Go.Sort
attribute [local go_sem] Oper.semAt_some

instance : Inhabited VC := ⟨⟨⟨0, 0, 0, 0, 1, 0⟩, by unfold Vld; simp⟩⟩
/-- a charge's six cells. -/
def enc6 (x : VC) : List Value := [.int .i64 x.1.sv, .int .i64 x.1.wk, .int .i64 x.1.th, .int .i64 x.1.fr, .int .i64 x.1.to, .int .i64 x.1.n]
def cmp6 (x y : VC) : Int := x.1.fr - y.1.fr
theorem lt6 (x y : VC) : ltOf cmp6 x y = decide (x.1.fr < y.1.fr) := by
  unfold ltOf cmp6
  by_cases h : x.1.fr < y.1.fr
  · rw [decide_eq_true h, decide_eq_true (by omega)]
  · rw [decide_eq_false h, decide_eq_false (by omega)]
theorem swo6 : SWO (ltOf cmp6) where
  irrefl x := by rw [lt6]; simp
  trans x y z h1 h2 := by rw [lt6] at *; simp at *; omega
  ntrans x y z h1 h2 := by rw [lt6] at *; simp at *; omega
set_option maxHeartbeats 1000000 in
theorem cmp_one (x y : VC) (W : World) : Calls Try.prog 30 #[.agg (enc6 x).toArray, .agg (enc6 y).toArray] W fun e w' => e = .returned (.int .i64 (cmp6 x y)) ∧ ∃ q os', w' = grow (W.drewN q) os' := by
  obtain ⟨x, hx⟩ := x
  obtain ⟨y, hy⟩ := y
  obtain ⟨_, _, _, _, _, _, x1, x2, x3, _, _⟩ := hx
  obtain ⟨_, _, _, _, _, _, y1, y2, y3, _, _⟩ := hy
  unfold cmp6 enc6
  go_enter Try.func30, Try.ntmps30
  go_wp2_with fail
  go_ret
  exact ⟨rfl, 0, _, by rw [alloc_eq_grow, alloc_eq_grow, grow_grow]; rfl⟩
theorem len_sorted (ys : List VC) : (ccells (ys.map (·.1))).length = ys.length * 6 := by rw [ccells_length, List.length_map]
theorem enc_cc (x : VC) (i : Nat) (h : i < 6) : (enc6 x)[i]! = cc x.1 i := by
  match i, h with
  | 0, _ => rfl
  | 1, _ => rfl
  | 2, _ => rfl
  | 3, _ => rfl
  | 4, _ => rfl
  | 5, _ => rfl
/-- the cells of what a slice owns, as the sort asks for them. -/
theorem holds6 {w : World} {B g n cap : Nat} {ys : List VC} (h : Owns w B (.slice (some ⟨g, 0, none⟩) n cap) (ys.map (·.1))) : HoldsK enc6 6 w g 0 ys.toArray ∧ g < w.heap.size ∧ n = ys.length := by
  obtain ⟨h0, ⟨e, _⟩ | ⟨g', cap', cur, e, hB, hg, hn, hm, hs, ht⟩⟩ := h
  · cases e
  · cases e
    rw [List.length_map] at *
    have hlt : g < w.heap.size := (Array.getElem?_eq_some_iff.1 hg).1
    refine ⟨fun j hj => ?_, hlt, rfl⟩
    rw [size_flatK] at hj
    have hj' : j < ys.length * 6 := by simpa using hj
    refine ⟨?_, by simp [World.frozen?, hg]⟩
    have e1 : (cur.toList.take (ys.length * 6))[j]? = (ccells (ys.map (·.1)))[j]? := by rw [ht]
    have e2 := ccells_get (ys.map (·.1)) (j / 6) (j % 6) (by rw [List.length_map]; omega) (by omega)
    rw [show j / 6 * 6 + j % 6 = j by omega] at e2
    rw [List.getElem?_take, if_pos hj', Array.getElem?_toList, e2] at e1
    simp only [World.cell?, hg, Nat.zero_add]
    simp only [Option.isSome_none, Bool.false_eq_true, if_false]
    rw [e1, get_flatK _ _ _ _ (by simpa using hj')]
    have hq : j / 6 < ys.length := by omega
    have e3 : ys.toArray[j / 6]! = ys[j / 6] := by simp [hq]
    rw [e3, enc_cc _ _ (by omega), get_vc hq]
    rfl
theorem sorted_grown {w : World} {g n : Nat} {os : Array Obj} (d : Array VC) : w.grownBy (sortWorldK enc6 6 w g 0 n d os) (some g) := by
  refine ⟨rfl, rfl, rfl, by simp [sortWorldK, putRowK], fun k hk hne => ?_⟩
  unfold sortWorldK putRowK
  rw [heap_grow_old _ _ (by simpa using hk)]
  have : g ≠ k := fun e => hne (by rw [e])
  simp [putRow, mapBlock, Sort.ahead, Array.getElem?_modify, this]
theorem row6 {w : World} {g : Nat} {d : Array VC} (h : HoldsK enc6 6 w g 0 d) (hg : g < w.heap.size) (cap : Nat) (h0 : 0 < d.size) : ChgRow w (.slice (some ⟨g, 0, none⟩) d.size cap) (d.toList.map (·.1)) := by
  refine .inr ⟨g, 0, cap, by simp, hg, by simpa using h0, fun j hj => ?_⟩
  have hj' : j < d.size := by simpa using hj
  refine chg_of fun i hi => ?_
  have h1 := (h (j * 6 + i) (by rw [size_flatK]; omega)).1
  rw [get_flatK _ _ _ _ (by omega), show (j * 6 + i) / 6 = j by omega, show (j * 6 + i) % 6 = i by omega] at h1
  have e2 : 0 + j * 6 + i = 0 + (j * 6 + i) := by omega
  rw [e2, h1]
  have e3 : d[j]! = d[j] := by simp [hj']
  have e4 : (d.toList.map (·.1)).getD j c0 = d[j].1 := by simp [List.getD, hj']
  rw [e3, e4, enc_cc _ _ hi]
  rfl
set_option maxHeartbeats 2000000 in
theorem ins_none (a : Option Addr) (cap : Nat) (fv : Value) (w : World) : Calls Try.prog 58 #[.slice a 0 cap, .int .i64 0, .int .i64 0, fv] w fun e w' => e = .returned (.tuple #[]) ∧ w' = w := by
  go_enter Try.func58, Try.ntmps58
  go_wp2
  refine wp_loop_rounds 1 ?_
  rw [rounds_succ]
  go_wp2
  go_end0
  exact ⟨rfl, rfl⟩
set_option maxHeartbeats 2000000 in
theorem pdq_none (a : Option Addr) (cap : Nat) (lim : Int) (fv : Value) (w : World) : Calls Try.prog 54 #[.slice a 0 cap, .int .i64 0, .int .i64 0, .int .i64 lim, fv] w fun e w' => e = .returned (.tuple #[]) ∧ w' = w := by
  go_enter Try.func54, Try.ntmps54
  go_wp2
  refine wp_loop_rounds 1 ?_
  rw [rounds_succ]
  go_wp2_with fail
  refine (ins_none a cap fv _).mono ?_
  rintro e w1 ⟨rfl, rfl⟩
  go_wp2_with fail
  (try simp only [Exit.inBlock, Exit.then]); refine bodyPost_ret (results_none rfl _ _ _) rfl ?_
  exact ⟨rfl, rfl⟩
set_option maxHeartbeats 2000000 in
theorem sort_none (a : Option Addr) (cap : Nat) (fv : Value) (w : World) : Calls Try.prog 45 #[.slice a 0 cap, fv] w fun e w' => e = .returned (.tuple #[]) ∧ w' = w := by
  have hl : ∀ W, Calls Try.prog 55 #[.int .u64 0] W fun e w' => e = .returned (.int .i64 (Lib.bitLen 0 : Nat)) ∧ w' = W := fun W => by
    have h := Any.bits_Len (SlLaysF0.n15.bits (P := Try.prog) (ρ := Try.sortC_ren) { Try.sortC with }) 0 W (by omega) (by omega)
    exact h
  go_enter Try.func45, Try.ntmps45
  go_wp2_with fail
  refine (hl _).mono ?_
  rintro e w1 ⟨rfl, rfl⟩
  go_wp2_with fail
  refine (pdq_none a cap _ fv _).mono ?_
  rintro e w1 ⟨rfl, rfl⟩
  go_wp2_with fail
  go_end0
  exact ⟨rfl, rfl⟩
/-- by the time from. -/
def Ups (zs : List VC) : Prop := ∀ i j (hi : i < zs.length) (hj : j < zs.length), i < j → zs[i].1.fr ≤ zs[j].1.fr
theorem sort_any (B : Nat) (v : Value) (ys : List VC) (w : World) (hl : ys.length ≤ 4000) (h : Owns w B v (ys.map (·.1))) :
    Calls Try.prog 45 #[v, .func (.func 30) #[] #[]] w fun e w' => e = .returned (.tuple #[]) ∧ Below B w w' ∧ ∃ zs, zs.Perm ys ∧ Ups zs ∧ ChgRow w' v (zs.map (·.1)) := by
  by_cases h0 : ys = []
  · subst h0
    obtain ⟨a, n, c, rfl⟩ := row_slice (owns_row h).1
    obtain rfl : n = 0 := row_len (owns_row h).1
    exact (sort_none a c _ w).mono fun e w' ⟨h1, h2⟩ => ⟨h1, by rw [h2]; exact Below.refl _ _, [], List.Perm.refl _, fun i j hi _ _ => absurd hi (by simp), .inl ⟨_, _, rfl, rfl⟩⟩
  · have hB := own_block h
    obtain ⟨_, ⟨rfl, e0⟩ | ⟨g, cap, cur, rfl, _⟩⟩ := id h
    · exact absurd (List.map_eq_nil_iff.1 (List.length_eq_zero_iff.1 e0)) h0
    · obtain ⟨hH, hg, hn⟩ := holds6 h
      have hgB := hB g rfl
      have eg : ∀ args w, (callFunc 30 args).run Try.prog w = .ok (.enter 30 args) w := enters_of Try.func30 (by kernel_rfl) rfl
      have hs : ys.toArray.size = ys.length := by simp
      have hcon := AnyQ.slices_SortFunc Try.sortC 6 Try.isAgg50 Try.sizeOf50 enc6 (fun _ => rfl) (fun x v hv => by simp [enc6] at hv; rcases hv with rfl | rfl | rfl | rfl | rfl | rfl <;> rfl) cmp6 swo6 30 #[] g 0 cap ys.toArray w eg (fun _ _ _ _ x y => cmp_one x y _) hH hg (by rw [hs]; omega)
      rw [List.length_map]
      rw [hs] at hcon
      refine Calls.mono hcon ?_
      rintro e w' ⟨he, d, n, os, ⟨p1, p2, p3⟩, s1, rfl⟩
      have hd : d.size = ys.length := by rw [p1, hs]
      have hperm : d.toList.Perm ys := by
        rw [Array.extract_eq_self_of_le (by rw [hd]; exact Nat.le_refl _), Array.extract_eq_self_of_le (by rw [hs]; exact Nat.le_refl _)] at p3
        simpa using p3
      refine ⟨he, (Below.refl _ w).grown (sorted_grown d) (by omega) (fun k e => by cases e; exact hgB), d.toList, hperm, ?_, ?_⟩
      · intro i j hi hj hij
        have hi' : i < d.size := by simpa using hi
        have hj' : j < d.size := by simpa using hj
        have := s1 i j (Nat.zero_le _) hij (by omega)
        rw [lt6, getElem!_pos d i hi', getElem!_pos d j hj'] at this
        have := of_decide_eq_false this
        simp only [Array.getElem_toList]
        omega
      · have h6 := holdsK_sortWorldK_c enc6 6 w g 0 ys.toArray d n os hH hg (by rw [hd, hs])
        have := row6 h6 (by have := (sorted_grown (w := w) (g := g) (n := n) (os := os) d).size; omega) cap (by rw [hd]; exact List.length_pos_iff.2 h0)
        rw [hd] at this
        exact this
end Go.Proofs.Ytfpifaccjfgfkaa
