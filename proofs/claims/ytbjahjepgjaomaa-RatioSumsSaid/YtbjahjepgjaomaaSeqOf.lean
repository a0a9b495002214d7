/- What the iterator of metronomelaw02 hands out, and what ratio.Sums answers of it. Each theorem's premises are its conditions. -/
import Derived.Test.YtbjahjepgjaomaaSeqSums
import Derived.Test.YtbjahjepgjaomaaRatioAwake
namespace Go.Proofs.Ytbjahjepgjaomaa
open Go.RowKit Go.Shelf
attribute [local go_sem] Oper.semAt_some

/-- what has come when k rounds are over. -/
def come (f : Nat → I64) (k : Nat) : List I64 := (List.range k).map f
theorem come_succ (f : Nat → I64) (k : Nat) : come f (k + 1) = come f k ++ [f k] := by simp [come, List.range_succ]
theorem come_length (f : Nat → I64) (k : Nat) : (come f k).length = k := by simp [come]
def zero64 : I64 := ⟨0, by show (-9223372036854775808 : Int) ≤ 0; omega, by show (0 : Int) ≤ 9223372036854775807; omega⟩
theorem come_take (zs : List I64) {k : Nat} (hk : k ≤ zs.length) : come (fun j => zs.getD j zero64) k = zs.take k := by
  apply List.ext_getElem
  · simp [come, hk]
  · intro i h1 h2
    have : i < zs.length := by simp [come] at h1; omega
    simp [come, this]
theorem come_all (zs : List I64) : come (fun j => zs.getD j zero64) zs.length = zs := by rw [come_take zs (Nat.le_refl _), List.take_length]

set_option maxRecDepth 100000 in
set_option maxHeartbeats 2000000 in
theorem of1_some (l Bs n₀ b off len cap : Nat) (f : Nat → I64) (hmax : len ≤ 9223372036854775807) (hb : b < n₀) (hBs : Bs < n₀) (J Jx : List I64 → World → Prop)
    (hY : ∀ pre x W, J pre W → pre.length < len → YieldAt Fence.wide (5 - 1) Try.prog l #[.int .i64 x.1] W fun e W' =>
      (e = .returned (.bool true) ∧ J (pre ++ [x]) W' ∧ Below n₀ W W') ∨ (e = .returned (.bool false) ∧ Jx (pre ++ [x]) W'))
    (W : World) (hBc : W.cell? ⟨Bs, 0, none⟩ = some (.slice (some ⟨b, off, none⟩) len cap)) (hc : ∀ j, j < len → W.cell? ⟨b, off + j, none⟩ = some (.int .i64 (f j).1)) (h0 : J [] W) :
    CallsIn Fence.wide 5 Try.prog 28 #[.func (.yield l) #[] #[], .pointer (some ⟨Bs, 0, none⟩)] W fun e W' => (∃ v, e = .returned v) ∧
      ((∃ ys, ys = come f len ∧ J ys W') ∨ (∃ pre, (∃ k, k ≤ len ∧ pre = come f k) ∧ Jx pre W')) := by
  refine callsIn_of_wp Try.func28 rfl trivial ?_ rfl
  simp only [Try.ntmps28, List.size_toArray, List.length_cons, List.length_nil, Nat.reduceAdd, Nat.reduceSub, Array.replicate_succ, Array.replicate_zero, List.push_toArray, List.append_toArray, List.nil_append, List.cons_append]
  gi_wp2
  gi_loopw [3] (fun i wr => ∃ k : Nat, k ≤ len ∧ i = .int .i64 k ∧ J (come f k) wr ∧ Below n₀ W wr)
    (fun i _ => len - (intOf i).toNat)
  case atStart => exact ⟨0, Nat.zero_le _, rfl, h0, Below.refl _ _⟩
  case round =>
    obtain ⟨k, hk, rfl, hJs, hnx⟩ := hrel
    have hbx : wr.cell? ⟨Bs, 0, none⟩ = some (.slice (some ⟨b, off, none⟩) len cap) := (hnx.cell (p := ⟨Bs, 0, none⟩) hBs).trans hBc
    have hcx : k < len → wr.cell? ⟨b, off + k, none⟩ = some (.int .i64 (f k).1) := fun h => (hnx.cell (p := ⟨b, off + k, none⟩) hb).trans (hc k h)
    by_cases hlt : k < len
    · obtain ⟨fn, tmps, assign, body, hy, hR⟩ := hY _ (f k) wr hJs (by rw [come_length]; exact hlt)
      have hcx' := hcx hlt
      have hlt' : (k : Int) < (len : Int) := by omega
      clear hcx
      gi_wp2
      refine hR.mono ?_
      rintro e W3 (⟨rfl, hJ3, hk3⟩ | ⟨rfl, hJx3⟩)
      · gi_wp2
        go_roundw
        case rel => exact ⟨k + 1, by omega, by simp, by rw [come_succ]; exact hJ3, hnx.trans hk3⟩
        case measure => simp [intOf]; omega
      · gi_wp2
        refine bodyPost_ret (results_none rfl _ _ _) rfl ?_
        exact ⟨⟨_, rfl⟩, .inr ⟨_, ⟨k + 1, by omega, (come_succ _ _).symm⟩, hJx3⟩⟩
    · obtain rfl : k = len := by omega
      have hge : ¬ (k : Int) < (k : Int) := by omega
      gi_wp2
      go_end0
      exact ⟨⟨_, rfl⟩, .inl hJs⟩

set_option maxRecDepth 100000 in
set_option maxHeartbeats 2000000 in
theorem of1_none (l Bs : Nat) (a : Option Addr) (cap : Nat) (J : List I64 → World → Prop) (W : World) (hBc : W.cell? ⟨Bs, 0, none⟩ = some (.slice a 0 cap)) (h0 : J [] W) :
    CallsIn Fence.wide 5 Try.prog 28 #[.func (.yield l) #[] #[], .pointer (some ⟨Bs, 0, none⟩)] W fun e W' => (∃ v, e = .returned v) ∧ J [] W' := by
  refine callsIn_of_wp Try.func28 rfl trivial ?_ rfl
  simp only [Try.ntmps28, List.size_toArray, List.length_cons, List.length_nil, Nat.reduceAdd, Nat.reduceSub, Array.replicate_succ, Array.replicate_zero, List.push_toArray, List.append_toArray, List.nil_append, List.cons_append]
  gi_wp2
  gi_loopw [3] (fun i wr => i = .int .i64 0 ∧ J [] wr ∧ wr = W) (fun _ _ => 0)
  case atStart => exact ⟨rfl, h0, rfl⟩
  case round =>
    obtain ⟨rfl, hJs, rfl⟩ := hrel
    gi_wp2
    go_end0
    exact ⟨⟨_, rfl⟩, hJs⟩

/-- the numbers, each with its bounds. -/
theorem bounded : ∀ xs : List Int, (∀ n ∈ xs, Fit n) → ∃ zs : List I64, zs.map (·.1) = xs
  | [], _ => ⟨[], rfl⟩
  | x :: xs, h => by
    obtain ⟨zs, hz⟩ := bounded xs (fun n hn => h n (List.mem_cons_of_mem _ hn))
    exact ⟨⟨x, h x (List.mem_cons_self ..)⟩ :: zs, by rw [List.map_cons, hz]⟩
theorem getD_map (zs : List I64) (j : Nat) : (zs.map (·.1)).getD j 0 = (zs.getD j zero64).1 := by
  simp only [List.getD, List.getElem?_map]
  cases zs[j]? <;> rfl

/-- what ratio.Sums hands back of numbers: the sum, the greatest one, what is wrong. -/
def foldAll (xs : List Int) : Int × Int × Int := xs.foldl sumsStep (0, 0, 0)

theorem sums_of (v : Value) (xs : List Int) (hf : ∀ n ∈ xs, Fit n) (hl : xs.length ≤ 9223372036854775807) (Bs : Nat) (w : World) (hB : w.cell? ⟨Bs, 0, none⟩ = some v) (hv : IntRow w v xs) :
    Calls Try.prog 20 #[.func (.func 28) #[] #[.pointer (some ⟨Bs, 0, none⟩)]] w fun e W' =>
      e = .returned (if (foldAll xs).2.2 = 0 then .tuple #[.int .i64 (foldAll xs).1, .int .i64 (foldAll xs).2.1, .int .i64 0] else .tuple #[.int .i64 0, .int .i64 0, .int .i64 (foldAll xs).2.2]) ∧ Below w.heap.size w W' := by
  obtain ⟨zs, rfl⟩ := bounded xs hf
  have hBs := cell_lt hB
  refine callsIn_wide.1 (sums_wide 28 #[.pointer (some ⟨Bs, 0, none⟩)] zs zs.length w (enters_of Try.func28 (by kernel_rfl) rfl) (fun W hW => ?_))
  intro l J Jx W2 hW2 _ _ hY h0
  have hB2 : W2.cell? ⟨Bs, 0, none⟩ = some v := ((hW2.cell (p := ⟨Bs, 0, none⟩) (Nat.lt_of_lt_of_le hBs hW.size)).trans (hW.cell (p := ⟨Bs, 0, none⟩) hBs)).trans hB
  rcases hv with ⟨a, cap, rfl, he⟩ | ⟨b, off, cap, rfl, hb, _, hc⟩
  · have hz : zs = [] := List.map_eq_nil_iff.1 he
    subst hz
    exact (of1_none l Bs a cap J W2 hB2 h0).mono fun e W' ⟨he, hj⟩ => ⟨he, .inl ⟨_, rfl, hj⟩⟩
  · rw [List.length_map] at hB2 hc hl
    refine (of1_some l Bs w.heap.size b off zs.length cap (fun j => zs.getD j zero64) hl hb hBs J Jx hY W2 hB2 (fun j hj => ?_) h0).mono ?_
    · rw [hW2.cell (p := ⟨b, off + j, none⟩) (Nat.lt_of_lt_of_le hb hW.size), hW.cell (p := ⟨b, off + j, none⟩) hb, hc j hj, getD_map]
    · rintro e W' ⟨he, ⟨ys, rfl, hj⟩ | ⟨pre, ⟨k, hk, rfl⟩, hj⟩⟩
      · exact ⟨he, .inl ⟨_, come_all zs, hj⟩⟩
      · exact ⟨he, .inr ⟨_, by rw [come_take zs hk]; exact List.take_prefix _ _, hj⟩⟩

set_option maxHeartbeats 1000000 in
theorem sums_nil (w : World) : Calls Try.prog 20 #[.nilFunc] w (Gives (.tuple #[.int .i64 0, .int .i64 0, .int .i64 0]) w) := by
  unfold Gives
  have hq : ∀ w : World, (binOp .eql 52 .nilFunc .nilFunc).run Try.prog w = .ok (.bool true) w := fun _ => rfl
  go_enter Try.func20, Try.ntmps20
  go_wp2
  go_step3
  go_wp2
  rw [Exit.noGoto_ret]
  refine bodyPost_ret (v := .tuple #[.int .i64 0, .int .i64 0, .int .i64 0]) (by simp [results, Try.results20, go_sem]) rfl ⟨rfl, ?_⟩
  repeat (with_reducible refine bel_alloc ?_)
  with_reducible exact Below.refl _ _
theorem of_any2 (a : Option Addr) (len cap : Nat) (w : World) : Calls Try.prog 21 #[.slice a len cap] w fun e w' => e = .returned (.func (.func 28) #[] #[.pointer (some ⟨w.heap.size, 0, none⟩)]) ∧ w' = w.alloc (.cells #[.slice a len cap] 41) := by
  have hmf : ∀ (fn : Fn) (first cap : Array Value) (w : World), (Instr.makeFunc fn first cap).run Try.prog w = .ok (.func fn first cap) w := fun _ _ _ _ => rfl
  go_enter Try.func21, Try.ntmps21
  go_wp2
  go_ret
  exact ⟨rfl, rfl⟩
end Go.Proofs.Ytbjahjepgjaomaa
