/- What the law's Plain and soon answer of charges. Each theorem's premises are its conditions. -/
import Derived.Test.YtfpifaccjfgfkaaTraceIso
import Derived.Test.YtfpifaccjfgfkaaTraceCollect
import Derived.Deep.AppendLies
import Derived.Deep.RegionHeld3
namespace Go.Proofs.Ytfpifaccjfgfkaa
open Go.ChangeShapes Go.WideShapes Go.ChangeAt Go.RowKit Go.Deep
attribute [local go_sem] Oper.semAt_some

/-- charges as the reference has them, in a block from B on. -/
abbrev ROwns (w : World) (B : Nat) (v : Value) (cs : List Chg) : Prop := w.ownsRow B 67 6 v cs.length (ccells cs)
theorem Try.infoRef : (Try.prog.info? 67).map (fun i => (i.zero, i.size, i.bytes)) = some (some (.agg #[.int .i64 0, .int .i64 0, .int .i64 0, .int .i64 0, .int .i64 0, .int .i64 0]), 6, 48) := by kernel_rfl
theorem take_chg {l : List Chg} {k : Nat} (hk : k < l.length) : l.take (k + 1) = l.take k ++ [l.getD k c0] := by
  rw [List.take_succ_eq_append_getElem hk]
  simp [List.getD, hk]
theorem rown_block {w : World} {B : Nat} {v : Value} {cs : List Chg} (h : ROwns w B v cs) : ∀ k, v.ownBlock = some k → B ≤ k := fun k e => (World.ownsRow.lt h k e).1

set_option maxRecDepth 100000 in
set_option maxHeartbeats 4000000 in
theorem plain_some (b off cap : Nat) (l : List Chg) (w : World) (hb : b < w.heap.size) (hc : ∀ j, j < l.length → ChgAt w b (off + j * 6) (l.getD j c0)) (hl : l.length ≤ 4000) :
    Calls Try.prog 17 #[.slice (some ⟨b, off, none⟩) l.length cap] w fun e w' => ∃ v, e = .returned v ∧ ROwns w' w.heap.size v l ∧ Below w.heap.size w w' := by
  obtain ⟨i0, hi, hz0, hz1, hz2⟩ := info_parts Try.infoRef
  have HC := Lib.hid hc
  clear hc
  go_enter Try.func17, Try.ntmps17
  go_wp2_with fail
  go_loopw [3, 4] (fun v i wr => ∃ k : Nat, k ≤ l.length ∧ i = .int .i64 k ∧ ROwns wr w.heap.size v (l.take k) ∧ Below w.heap.size w wr) (fun _ i _ => l.length - (intOf i).toNat)
  case atStart => exact ⟨0, Nat.zero_le _, rfl, ⟨rfl, .inl ⟨rfl, rfl⟩⟩, Below.refl _ _⟩
  case round =>
    obtain ⟨k, hk, rfl, hown, hbw⟩ := hrel
    have HB := Lib.hid hbw
    have hsz := hbw.size
    obtain ⟨av, nv, cv, rfl⟩ := own_shape hown
    by_cases hlt : k < l.length
    · have hA : ChgAt wr b (off + k * 6) (l.getD k c0) := (HC.out k hlt).same (hbw.block b hb)
      have HT := Lib.hid (take_chg hlt)
      have hlk : (l.take k).length = k := by rw [List.length_take]; omega
      generalize l.getD k c0 = x at *
      generalize hcur : l.take k = cur at *
      have hne := fun h => Nat.not_le.2 hb (rown_block hown b h)
      have HO := Lib.hid hown
      obtain ⟨q0, q1, q2, q3, q4, q5⟩ := hA
      have hlt' : (k : Int) < (l.length : Int) := by omega
      have lbb : b < wr.heap.size := cell_lt q0
      clear hown hbw
      go_upto_region 5 with fail
      go_region_held3 (fun w' => w'.cell? ⟨b, off + k * 6, none⟩ = some (.int .i64 x.sv) ∧ w'.cell? ⟨b, off + k * 6 + 1, none⟩ = some (.int .i64 x.wk) ∧ w'.cell? ⟨b, off + k * 6 + 2, none⟩ = some (.int .i64 x.th) ∧ w'.cell? ⟨b, off + k * 6 + 3, none⟩ = some (.int .i64 x.fr) ∧ w'.cell? ⟨b, off + k * 6 + 4, none⟩ = some (.int .i64 x.to) ∧ w'.cell? ⟨b, off + k * 6 + 5, none⟩ = some (.int .i64 x.n))
        (first
          | go_keep
          | (go_split_ands
             refine ⟨?_, ?_, ?_, ?_, ?_, ?_⟩
             all_goals (rw [hgrow.cell_far _ (by simp; omega) (Ne.symm hne)]; assumption)))
        ((refine step_append_lies _ (by rfl) _ _ _ (by rfl) w.heap.size 67 i0 _ 6 48 Try.underlying28 hi hz0 hz1 hz2 rfl (by omega) _ cur.length (ccells cur) (by rfl) ((HO.out.alloc _).drew)
            ⟨wr.heap.size, 0, none⟩ 1 1 [.int .i64 x.sv, .int .i64 x.wk, .int .i64 x.th, .int .i64 x.fr, .int .i64 x.to, .int .i64 x.n] (by rfl) (by rfl) (World.news_of_block (cs := #[.int .i64 x.sv, .int .i64 x.wk, .int .i64 x.th, .int .i64 x.fr, .int .i64 x.to, .int .i64 x.n]) (t := 67) (fr := (0, 0)) (heap_alloc_new wr _)) (by simp [Value.oneCell'])
            (by omega) (by unfold maxLen; omega) (by omega) (by simp; omega) (wr.heap.size + 1) (by simp) ?_; intro gg cap1 w1 hown1 hgrow hat hlt1))
      have HO3 : Hid (ROwns w1 w.heap.size (.slice (some ⟨gg, 0, none⟩) (k + 1) cap1) (l.take (k + 1))) := by
        show World.ownsRow _ _ _ _ _ _ _
        rw [HT.out, ccells_append, List.length_append]
        first | exact hown1 | (rw [hlk] at hown1 ⊢; exact hown1)
      have HB3 := Lib.hid (((HB.out.alloc hsz _).drew).grown hgrow (by simp; omega) (rown_block HO.out))
      clear hown1 hgrow hat hlt1
      go_wp2_with fail
      go_roundw
      case rel => exact ⟨k + 1, by omega, by simp, HO3.out, HB3.out⟩
      case measure => first | (simp [intOf]; done) | (simp [intOf]; omega)
    · obtain rfl : k = l.length := by omega
      have HF : Hid (ROwns wr w.heap.size (.slice av nv cv) l) := by show ROwns _ _ _ _; have := hown; rw [List.take_length] at this; exact this
      have hge : ¬ (l.length : Int) < (l.length : Int) := by omega
      clear hown hbw
      go_wp2_with fail
      go_ret
      exact ⟨_, rfl, HF.out, HB.out⟩
set_option maxHeartbeats 1000000 in
theorem plain_empty (a : Option Addr) (cap : Nat) (w : World) : Calls Try.prog 17 #[.slice a 0 cap] w fun e w' => e = .returned (.slice none 0 0) ∧ w' = w := by
  go_enter Try.func17, Try.ntmps17
  go_wp2_with fail
  refine wp_loop_rounds 1 ?_
  rw [rounds_succ]
  go_wp2_with fail
  go_ret
  exact ⟨rfl, rfl⟩
theorem plain_any (v : Value) (l : List Chg) (w : World) (h : ChgRow w v l) (hl : l.length ≤ 4000) :
    Calls Try.prog 17 #[v] w fun e w' => ∃ v', e = .returned v' ∧ ROwns w' w.heap.size v' l ∧ Below w.heap.size w w' := by
  rcases h with ⟨a, cap, rfl, rfl⟩ | ⟨b, off, cap, rfl, hb, _, hc⟩
  · exact (plain_empty a cap w).mono fun e w' ⟨h1, h2⟩ => ⟨_, h1, ⟨rfl, .inl ⟨rfl, rfl⟩⟩, by rw [h2]; exact Below.refl _ _⟩
  · exact plain_some b off cap l w hb hc hl
/-- do they all end ahead of 2^30? -/
def soonAll (l : List Chg) : Prop := ∀ c ∈ l, c.to ≤ 1073741824
theorem rown_cells {w : World} {B : Nat} {v : Value} {l : List Chg} (h : ROwns w B v l) : (v = .slice none 0 0 ∧ l = []) ∨ ∃ g cap, v = .slice (some ⟨g, 0, none⟩) l.length cap ∧ g < w.heap.size ∧ ∀ j, j < l.length → ChgAt w g (j * 6) (l.getD j c0) := by
  obtain ⟨_, ⟨rfl, h0⟩ | ⟨g, cap, cur, rfl, _, hg, hn, hm, hs, hc⟩⟩ := h
  · exact .inl ⟨rfl, List.length_eq_zero_iff.1 h0⟩
  · refine .inr ⟨g, cap, rfl, (Array.getElem?_eq_some_iff.1 hg).1, fun j hj => chg_of fun i hi => ?_⟩
    have h2 : (cur.toList.take (l.length * 6))[j * 6 + i]? = some (cc (l.getD j c0) i) := by rw [hc]; exact ccells_get l j i hj hi
    rw [List.getElem?_take, if_pos (by omega), Array.getElem?_toList] at h2
    simp only [World.cell?, hg]
    simp [h2]
end Go.Proofs.Ytfpifaccjfgfkaa
