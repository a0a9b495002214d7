/- The iterator of charges, in a loop whose body turns one block. Each theorem's premises are its conditions. -/
import Derived.Test.YtfpifaccjfgfkaaSeqM
import Derived.Test.YtfpifaccjfgfkaaTraceSeq
import Derived.RangeFuncBound
import Derived.RangeFuncCalls
import Derived.RangeFuncLeaves
import Derived.RangeFuncBox
import Derived.Shelf.RegionOpen
import Derived.OwnWalkIn
import Derived.TacticsInMore
import Derived.LoopNIn
import Derived.LoopIn
import Derived.Scope
import Derived.ControlIn
namespace Go.Proofs.Ytfpifaccjfgfkaa
open Go.RowKit Go.Shelf
attribute [local go_sem] Oper.semAt_some

set_option maxRecDepth 100000 in
set_option maxHeartbeats 4000000 in
theorem val1_someM (M l Bs n₀ b off cap : Nat) (ys : List VC) (hl : ys.length ≤ 4000) (hb : b < n₀) (hbM : b ≠ M) (W : World) (hn : n₀ ≤ W.heap.size)
    (cS : W.cell? ⟨Bs, 0, none⟩ = some (.slice (some ⟨b, off, none⟩) ys.length cap))
    (hc : ∀ j, j < ys.length → ChgAt W b (off + j * 6) ((ys.map (·.1)).getD j c0)) (J Jx : List VC → World → Prop) (gJ : Grows J)
    (hY : ∀ pre x U, J pre U → pre.length < 4000 → YieldAt Fence.wide (5 - 1) Try.prog l (out6 x) U fun e V => (e = .returned (.bool true) ∧ J (pre ++ [x]) V ∧ Bel2 M n₀ U V) ∨ (e = .returned (.bool false) ∧ Jx (pre ++ [x]) V)) (h0 : J [] W) :
    CallsIn Fence.wide 5 Try.prog 57 #[.func (.yield l) #[] #[], .pointer (some ⟨Bs, 0, none⟩)] W fun e V => (∃ v, e = .returned v) ∧ ((∃ zs, zs = ys ∧ J zs V) ∨ ∃ pre, True ∧ Jx pre V) := by
  have HC := Lib.hid hc
  have HJ : Hid (∀ pre x U, J pre U → pre.length < 4000 → YieldAt Fence.wide (5 - 1) Try.prog l (out6 x) U fun e V => (e = .returned (.bool true) ∧ J (pre ++ [x]) V ∧ Bel2 M n₀ U V) ∨ (e = .returned (.bool false) ∧ Jx (pre ++ [x]) V)) := hY
  clear hc hY
  refine callsIn_of_wp Try.func57 rfl trivial ?_ rfl
  simp only [Try.ntmps57, List.size_toArray, List.length_cons, List.length_nil, Nat.reduceAdd, Nat.reduceSub, Array.replicate_succ, Array.replicate_zero, List.push_toArray, List.append_toArray, List.nil_append, List.cons_append]
  gi_wp2
  gi_loopw [7] (fun i wr => ∃ k : Nat, k ≤ ys.length ∧ i = .int .i64 k ∧ J (ys.take k) wr ∧ Bel2 M n₀ W wr) (fun i _ => ys.length - (intOf i).toNat)
  case atStart => exact ⟨0, Nat.zero_le _, rfl, h0, Bel2.of (Below.refl _ _)⟩
  case round =>
    obtain ⟨k, hk, rfl, hJs, hnx⟩ := hrel
    have HK := Lib.hid hJs
    have HW := Lib.hid hnx
    have hsz := hnx.size
    clear hJs hnx
    by_cases hlt : k < ys.length
    · have hA : ChgAt wr b (off + k * 6) ((ys.map (·.1)).getD k c0) := (HC.out k hlt).same (HW.out.block b hb hbM)
      rw [get_vc hlt] at hA
      have HT := Lib.hid (take_vc hlt)
      have HL : Hid ((ys.take k).length ≤ k) := by show _ ≤ _; rw [List.length_take]; omega
      generalize ys[k] = x at *
      obtain ⟨x, hx⟩ := x
      have hV : Hid (∀ U, J (ys.take k) U → YieldAt Fence.wide (5 - 1) Try.prog l #[.agg #[.int .i64 x.sv, .int .i64 x.wk, .int .i64 x.th, .int .i64 x.fr, .int .i64 x.to, .int .i64 x.n]] U fun e V => (e = .returned (.bool true) ∧ J (ys.take (k + 1)) V ∧ Bel2 M n₀ U V) ∨ (e = .returned (.bool false) ∧ Jx (ys.take (k + 1)) V)) := fun U h => by
        have h1 := HJ.out _ ⟨x, hx⟩ U h (by have := HL.out; omega)
        rw [HT.out]
        exact h1
      clear HT HL
      obtain ⟨q0, q1, q2, q3, q4, q5⟩ := hA
      simp only at q0 q1 q2 q3 q4 q5
      have hlt' : (k : Int) < (ys.length : Int) := by omega
      have lr : b < wr.heap.size := cell_lt q0
      have bw := bel_alloc (o := .cells #[.int .i64 x.sv, .int .i64 x.wk, .int .i64 x.th, .int .i64 x.fr, .int .i64 x.to, .int .i64 x.n] 50) (Below.refl wr.heap.size wr)
      have hb1 := HW.out.trans (Bel2.of (bw.mono (show n₀ ≤ wr.heap.size by omega)))
      obtain ⟨fn, tmps, assign, body, hy, hR⟩ := hV.out _ (gJ _ _ _ HK.out bw)
      clear hV bw
      gi_wp2
      refine hR.mono ?_
      rintro e w2 (⟨rfl, hJ2, hk2⟩ | ⟨rfl, hJx2⟩)
      · have HJ2 := Lib.hid hJ2
        have HB2 := Lib.hid hk2
        clear hJ2 hk2
        gi_wp2
        go_roundw
        case rel => exact ⟨k + 1, by omega, by simp, HJ2.out, hb1.trans HB2.out⟩
        case measure => first | (simp [intOf]; done) | (simp [intOf]; omega)
      · have HJ2 := Lib.hid hJx2
        clear hJx2
        gi_wp2
        refine bodyPost_ret (results_none rfl _ _ _) rfl ?_
        exact ⟨⟨_, rfl⟩, .inr ⟨_, trivial, HJ2.out⟩⟩
    · obtain rfl : k = ys.length := by omega
      have hge : ¬ (ys.length : Int) < (ys.length : Int) := by omega
      gi_wp2
      go_end0
      exact ⟨⟨_, rfl⟩, .inl (by have := HK.out; rw [List.take_length] at this; first | exact this | exact ⟨_, rfl, this⟩)⟩
set_option maxRecDepth 100000 in
set_option maxHeartbeats 2000000 in
theorem val1_noneM (l Bs cap : Nat) (a : Option Addr) (W : World) (cS : W.cell? ⟨Bs, 0, none⟩ = some (.slice a 0 cap)) (J : List VC → World → Prop) (h0 : J [] W) :
    CallsIn Fence.wide 5 Try.prog 57 #[.func (.yield l) #[] #[], .pointer (some ⟨Bs, 0, none⟩)] W fun e V => (∃ v, e = .returned v) ∧ J [] V := by
  refine callsIn_of_wp Try.func57 rfl trivial ?_ rfl
  simp only [Try.ntmps57, List.size_toArray, List.length_cons, List.length_nil, Nat.reduceAdd, Nat.reduceSub, Array.replicate_succ, Array.replicate_zero, List.push_toArray, List.append_toArray, List.nil_append, List.cons_append]
  gi_wp2
  gi_loopw [7] (fun i wr => i = .int .i64 0 ∧ J [] wr ∧ wr = W) (fun _ _ => 0)
  case atStart => exact ⟨rfl, h0, rfl⟩
  case round =>
    obtain ⟨rfl, hJs, rfl⟩ := hrel
    gi_wp2
    go_end0
    exact ⟨⟨_, rfl⟩, hJs⟩
theorem val_handsM (M Bs : Nat) (v : Value) (ys : List VC) (w : World) (hl : ys.length ≤ 4000) (hM : Bs ≠ M) (h : ChgRow w v (ys.map (·.1))) (hX : ∀ b o c, ChgAt w b o c → b ≠ M) (cS : w.cell? ⟨Bs, 0, none⟩ = some v) (W : World) (hW : Bel2 M w.heap.size w W) :
    HandsM M Try.prog 57 #[.pointer (some ⟨Bs, 0, none⟩)] out6 w.heap.size (fun zs _ => zs = ys) (fun _ => True) 4000 W := by
  intro l J Jx W2 hW2 gJ hY h0
  have hB := hW.trans hW2
  have kS := (World.cell?_of_block (hB.block Bs (cell_lt cS) hM)).trans cS
  rcases h with ⟨a, cap, rfl, e0⟩ | ⟨b, off, cap, rfl, hb, hp, hc⟩
  · have e1 : ys = [] := List.map_eq_nil_iff.1 e0
    subst e1
    exact (val1_noneM l Bs cap a W2 kS J h0).mono fun e V ⟨he, hj⟩ => ⟨he, .inl ⟨_, rfl, hj⟩⟩
  · have hbM := hX _ _ _ (hc 0 hp)
    rw [List.length_map] at kS hc
    exact val1_someM M l Bs w.heap.size b off cap ys hl hb hbM W2 hB.size kS (fun j hj => (hc j hj).same (hB.block b hb hbM)) J Jx gJ hY h0
end Go.Proofs.Ytfpifaccjfgfkaa
