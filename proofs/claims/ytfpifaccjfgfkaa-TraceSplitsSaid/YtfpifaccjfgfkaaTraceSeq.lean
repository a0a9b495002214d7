/- What trace's asked answers, and what the iterators of a trace hand out. Each theorem's premises are its conditions. -/
import Derived.Test.YtfpifaccjfgfkaaSeqG
import Derived.Test.YtfpifaccjfgfkaaTraceAdd2
import Derived.RangeFuncBound
import Derived.RangeFuncCalls
import Derived.RangeFuncLeaves
import Derived.RangeFuncBox
import Derived.Shelf.RegionOpen
import Derived.OwnWalkIn
import Derived.TacticsInMore
import Derived.LoopNIn
import Derived.LoopIn
import Derived.Scope
import Derived.ControlIn
namespace Go.Proofs.Ytfpifaccjfgfkaa
open Go.RowKit Go.Shelf
attribute [local go_sem] Oper.semAt_some

/-- what is wrong with what is asked of a window. -/
def askErr (n below f t : Int) : Int := if inB n below = false then 1 else if first2 (timeErr f) (timeErr t) ≠ 0 then first2 (timeErr f) (timeErr t) else if t < f then 10 else 0
set_option maxHeartbeats 1000000 in
theorem asked_any (g : Nat) (n below f t : Int) (w : World) : Calls Try.prog 26 #[.pointer (some ⟨g, 0, none⟩), .int .i64 n, .int .i64 below, .int .i64 f, .int .i64 t] w (Gives (.int .i64 (askErr n below f t)) w) := by
  have W1 := Lib.hid (within_any n below)
  unfold askErr
  cases hx : inB n below with
  | false =>
    rw [hx] at W1
    rw [if_pos rfl]
    clear hx
    go_enter Try.func26, Try.ntmps26
    go_wp2_with fail
    refine (W1.out _).mono ?_
    rintro e w1 ⟨rfl, rfl⟩
    go_wp2_with fail
    go_ret
    exact ⟨rfl, Below.refl _ _⟩
  | true =>
    rw [hx] at W1
    rw [if_neg (by decide)]
    clear hx
    have T1 := Lib.hid (time_any f)
    have T2 := Lib.hid (time_any t)
    have F0 := Lib.hid (first_two (timeErr f) (timeErr t))
    generalize timeErr f = e1 at *
    generalize timeErr t = e2 at *
    generalize first2 e1 e2 = F at *
    by_cases h : F = 0
    · subst h
      rw [if_neg (fun h => h rfl)]
      by_cases h2 : t < f
      · have d1 : decide (t < f) = true := decide_eq_true h2
        rw [if_pos h2]
        clear h2
        go_enter Try.func26, Try.ntmps26
        go_wp2_with fail
        refine (W1.out _).mono ?_
        rintro e w1 ⟨rfl, rfl⟩
        go_wp2_with fail
        refine (T1.out _).mono ?_
        rintro e w1 ⟨rfl, rfl⟩
        go_wp2_with fail
        refine (T2.out _).mono ?_
        rintro e w1 ⟨rfl, rfl⟩
        go_wp2_with fail
        refine (F0.out _ _ (by go_simp) (by go_simp)).mono ?_
        rintro e w1 ⟨rfl, rfl⟩
        go_wp2_with fail
        go_ret
        exact ⟨rfl, bel_alloc (Below.refl _ _)⟩
      · have d1 : decide (t < f) = false := decide_eq_false h2
        rw [if_neg h2]
        clear h2
        go_enter Try.func26, Try.ntmps26
        go_wp2_with fail
        refine (W1.out _).mono ?_
        rintro e w1 ⟨rfl, rfl⟩
        go_wp2_with fail
        refine (T1.out _).mono ?_
        rintro e w1 ⟨rfl, rfl⟩
        go_wp2_with fail
        refine (T2.out _).mono ?_
        rintro e w1 ⟨rfl, rfl⟩
        go_wp2_with fail
        refine (F0.out _ _ (by go_simp) (by go_simp)).mono ?_
        rintro e w1 ⟨rfl, rfl⟩
        go_wp2_with fail
        go_ret
        exact ⟨rfl, bel_alloc (Below.refl _ _)⟩
    · have d1 : (F == 0) = false := by rw [beq_eq_false_iff_ne]; exact h
      have d2 : (F != 0) = true := by rw [bne_iff_ne]; exact h
      rw [if_pos h]
      clear h
      go_enter Try.func26, Try.ntmps26
      go_wp2_with fail
      refine (W1.out _).mono ?_
      rintro e w1 ⟨rfl, rfl⟩
      go_wp2_with fail
      refine (T1.out _).mono ?_
      rintro e w1 ⟨rfl, rfl⟩
      go_wp2_with fail
      refine (T2.out _).mono ?_
      rintro e w1 ⟨rfl, rfl⟩
      go_wp2_with fail
      refine (F0.out _ _ (by go_simp) (by go_simp)).mono ?_
      rintro e w1 ⟨rfl, rfl⟩
      go_wp2_with fail
      go_ret
      exact ⟨rfl, bel_alloc (Below.refl _ _)⟩
theorem of_any (g : Nat) (s : Int) (w : World) : Calls Try.prog 29 #[.pointer (some ⟨g, 0, none⟩), .int .i64 s] w fun e w' =>
    e = .returned (.func (.func 46) #[] #[.pointer (some ⟨w.heap.size, 0, none⟩), .pointer (some ⟨w.heap.size + 1, 0, none⟩)]) ∧ Below w.heap.size w w' ∧ w'.cell? ⟨w.heap.size, 0, none⟩ = some (.pointer (some ⟨g, 0, none⟩)) ∧ w'.cell? ⟨w.heap.size + 1, 0, none⟩ = some (.int .i64 s) := by
  have hmf : ∀ (fn : Fn) (first cap : Array Value) (w : World), (Instr.makeFunc fn first cap).run Try.prog w = .ok (.func fn first cap) w := fun _ _ _ _ => rfl
  go_enter Try.func29, Try.ntmps29
  go_wp2_with fail
  go_ret
  exact ⟨rfl, bel_alloc (bel_alloc (Below.refl _ _)), by go_simp, by go_simp⟩

/-- a charge that may be. -/
abbrev VC := { c : Chg // Vld c }
def out6 (x : VC) : Array Value := #[.agg #[.int .i64 x.1.sv, .int .i64 x.1.wk, .int .i64 x.1.th, .int .i64 x.1.fr, .int .i64 x.1.to, .int .i64 x.1.n]]
/-- a server's charges. -/
def ofServer (s : Int) (ys : List VC) : List VC := ys.filter fun c => decide (c.1.sv = s)
theorem vcs : ∀ cs : List Chg, (∀ c ∈ cs, Vld c) → ∃ ys : List VC, ys.map (·.1) = cs
  | [], _ => ⟨[], rfl⟩
  | c :: l, h => by
    obtain ⟨ys, hy⟩ := vcs l (fun x hx => h x (List.mem_cons_of_mem _ hx))
    exact ⟨⟨c, h c (List.mem_cons_self ..)⟩ :: ys, by rw [List.map_cons, hy]⟩
theorem take_vc {ys : List VC} {k : Nat} (hk : k < ys.length) : ys.take (k + 1) = ys.take k ++ [ys[k]] := List.take_succ_eq_append_getElem hk
theorem get_vc {ys : List VC} {k : Nat} (hk : k < ys.length) : (ys.map (·.1)).getD k c0 = ys[k].1 := by simp [List.getD, hk]

set_option maxRecDepth 100000 in
set_option maxHeartbeats 4000000 in
theorem of1_some (l Bt Bs n₀ g r cap : Nat) (s : Int) (ys : List VC) (hl : ys.length ≤ 4000) (hBs : Bs < n₀) (hr : r < n₀) (W : World) (hn : n₀ ≤ W.heap.size)
    (cT : W.cell? ⟨Bt, 0, none⟩ = some (.pointer (some ⟨g, 0, none⟩))) (cS : W.cell? ⟨Bs, 0, none⟩ = some (.int .i64 s)) (cg : W.cell? ⟨g, 0, none⟩ = some (.slice (some ⟨r, 0, none⟩) ys.length cap))
    (hc : ∀ j, j < ys.length → ChgAt W r (j * 6) ((ys.map (·.1)).getD j c0)) (J Jx : List VC → World → Prop) (gJ : Grows J)
    (hY : ∀ pre x U, J pre U → pre.length < 4000 → YieldAt Fence.wide (5 - 1) Try.prog l (out6 x) U fun e V => (e = .returned (.bool true) ∧ J (pre ++ [x]) V ∧ Below n₀ U V) ∨ (e = .returned (.bool false) ∧ Jx (pre ++ [x]) V)) (h0 : J [] W) :
    CallsIn Fence.wide 5 Try.prog 46 #[.func (.yield l) #[] #[], .pointer (some ⟨Bt, 0, none⟩), .pointer (some ⟨Bs, 0, none⟩)] W fun e V => (∃ v, e = .returned v) ∧ ((∃ zs, zs = ofServer s ys ∧ J zs V) ∨ ∃ pre, True ∧ Jx pre V) := by
  have HC := Lib.hid hc
  have HJ : Hid (∀ pre x U, J pre U → pre.length < 4000 → YieldAt Fence.wide (5 - 1) Try.prog l (out6 x) U fun e V => (e = .returned (.bool true) ∧ J (pre ++ [x]) V ∧ Below n₀ U V) ∨ (e = .returned (.bool false) ∧ Jx (pre ++ [x]) V)) := hY
  clear hc hY
  refine callsIn_of_wp Try.func46 rfl trivial ?_ rfl
  simp only [Try.ntmps46, List.size_toArray, List.length_cons, List.length_nil, Nat.reduceAdd, Nat.reduceSub, Array.replicate_succ, Array.replicate_zero, List.push_toArray, List.append_toArray, List.nil_append, List.cons_append]
  gi_wp2
  gi_loopw [11] (fun i wr => ∃ k : Nat, k ≤ ys.length ∧ i = .int .i64 k ∧ J (ofServer s (ys.take k)) wr ∧ Below n₀ W wr) (fun i _ => ys.length - (intOf i).toNat)
  case atStart => exact ⟨0, Nat.zero_le _, rfl, h0, Below.refl _ _⟩
  case round =>
    obtain ⟨k, hk, rfl, hJs, hnx⟩ := hrel
    have HK := Lib.hid hJs
    have HW := Lib.hid hnx
    have hsz := hnx.size
    have xS := (hnx.cell (p := ⟨Bs, 0, none⟩) hBs).trans cS
    clear hJs hnx
    by_cases hlt : k < ys.length
    · have hA : ChgAt wr r (k * 6) ((ys.map (·.1)).getD k c0) := (HC.out k hlt).same (HW.out.block r hr)
      rw [get_vc hlt] at hA
      have HT := Lib.hid (take_vc hlt)
      have HL : Hid ((ofServer s (ys.take k)).length ≤ k) := by
        show _ ≤ _
        refine Nat.le_trans (List.length_filter_le _ _) ?_
        rw [List.length_take]; omega
      generalize ys[k] = x at *
      obtain ⟨x, hx⟩ := x
      have hV : Hid (x.sv = s → ∀ U, J (ofServer s (ys.take k)) U → YieldAt Fence.wide (5 - 1) Try.prog l #[.agg #[.int .i64 x.sv, .int .i64 x.wk, .int .i64 x.th, .int .i64 x.fr, .int .i64 x.to, .int .i64 x.n]] U fun e V => (e = .returned (.bool true) ∧ J (ofServer s (ys.take (k + 1))) V ∧ Below n₀ U V) ∨ (e = .returned (.bool false) ∧ Jx (ofServer s (ys.take (k + 1))) V)) := fun hs U h => by
        have h1 := HJ.out _ ⟨x, hx⟩ U h (by have := HL.out; omega)
        have e : ofServer s (ys.take (k + 1)) = ofServer s (ys.take k) ++ [⟨x, hx⟩] := by rw [HT.out]; simp [ofServer, List.filter_append, hs]
        rw [e]
        exact h1
      have hN : Hid (x.sv ≠ s → ofServer s (ys.take (k + 1)) = ofServer s (ys.take k)) := fun hs => by rw [HT.out]; simp [ofServer, List.filter_append, hs]
      clear HT HL
      obtain ⟨q0, q1, q2, q3, q4, q5⟩ := hA
      simp only at q0 q1 q2 q3 q4 q5
      have hlt' : (k : Int) < (ys.length : Int) := by omega
      have lr : r < wr.heap.size := cell_lt q0
      have ls : Bs < wr.heap.size := cell_lt xS
      by_cases hs : x.sv = s
      · have e1 : (x.sv == s) = true := by rw [beq_iff_eq]; exact hs
        have bw := bel_alloc (o := .cells #[.int .i64 x.sv, .int .i64 x.wk, .int .i64 x.th, .int .i64 x.fr, .int .i64 x.to, .int .i64 x.n] 50) (Below.refl wr.heap.size wr)
        have hb1 := HW.out.trans (bw.mono (show n₀ ≤ wr.heap.size by omega))
        obtain ⟨fn, tmps, assign, body, hy, hR⟩ := hV.out hs _ (gJ _ _ _ HK.out bw)
        clear hV hN hs bw
        gi_wp2
        refine hR.mono ?_
        rintro e w2 (⟨rfl, hJ2, hk2⟩ | ⟨rfl, hJx2⟩)
        · have HJ2 := Lib.hid hJ2
          have HB2 := Lib.hid hk2
          clear hJ2 hk2
          gi_wp2
          go_roundw
          case rel => exact ⟨k + 1, by omega, by simp, HJ2.out, hb1.trans HB2.out⟩
          case measure => first | (simp [intOf]; done) | (simp [intOf]; omega)
        · have HJ2 := Lib.hid hJx2
          clear hJx2
          gi_wp2
          refine bodyPost_ret (results_none rfl _ _ _) rfl ?_
          exact ⟨⟨_, rfl⟩, .inr ⟨_, trivial, HJ2.out⟩⟩
      · have e1 : (x.sv == s) = false := by rw [beq_eq_false_iff_ne]; exact hs
        have hE := Lib.hid (hN.out hs)
        have bw := bel_alloc (o := .cells #[.int .i64 x.sv, .int .i64 x.wk, .int .i64 x.th, .int .i64 x.fr, .int .i64 x.to, .int .i64 x.n] 50) (Below.refl wr.heap.size wr)
        have HJ2 := Lib.hid (gJ _ _ _ HK.out bw)
        have hb1 := Lib.hid (HW.out.trans (bw.mono (show n₀ ≤ wr.heap.size by omega)))
        clear hV hN hs bw
        gi_wp2
        refine ⟨fun f hf => (by cases hf), ?_⟩
        gi_wp2
        go_roundw
        case rel => exact ⟨k + 1, by omega, by simp, by rw [hE.out]; exact HJ2.out, hb1.out⟩
        case measure => first | (simp [intOf]; done) | (simp [intOf]; omega)
    · obtain rfl : k = ys.length := by omega
      have hge : ¬ (ys.length : Int) < (ys.length : Int) := by omega
      gi_wp2
      go_end0
      exact ⟨⟨_, rfl⟩, .inl (by have := HK.out; rw [List.take_length] at this; first | exact this | exact ⟨_, rfl, this⟩)⟩
set_option maxRecDepth 100000 in
set_option maxHeartbeats 2000000 in
theorem of1_none (l Bt Bs g cap : Nat) (a : Option Addr) (W : World) (hg : g < W.heap.size) (cT : W.cell? ⟨Bt, 0, none⟩ = some (.pointer (some ⟨g, 0, none⟩))) (cg : W.cell? ⟨g, 0, none⟩ = some (.slice a 0 cap)) (J : List VC → World → Prop) (h0 : J [] W) :
    CallsIn Fence.wide 5 Try.prog 46 #[.func (.yield l) #[] #[], .pointer (some ⟨Bt, 0, none⟩), .pointer (some ⟨Bs, 0, none⟩)] W fun e V => (∃ v, e = .returned v) ∧ J [] V := by
  refine callsIn_of_wp Try.func46 rfl trivial ?_ rfl
  simp only [Try.ntmps46, List.size_toArray, List.length_cons, List.length_nil, Nat.reduceAdd, Nat.reduceSub, Array.replicate_succ, Array.replicate_zero, List.push_toArray, List.append_toArray, List.nil_append, List.cons_append]
  gi_wp2
  gi_loopw [11] (fun i wr => i = .int .i64 0 ∧ J [] wr ∧ wr = W) (fun _ _ => 0)
  case atStart => exact ⟨rfl, h0, rfl⟩
  case round =>
    obtain ⟨rfl, hJs, rfl⟩ := hrel
    gi_wp2
    go_end0
    exact ⟨⟨_, rfl⟩, hJs⟩
/-- the iterator of a server's charges keeps the promise. -/
theorem of_hands (B g Bt Bs : Nat) (v : Value) (s : Int) (ys : List VC) (w : World) (hl : ys.length ≤ 4000) (h : TAt w B g v (ys.map (·.1)))
    (cT : w.cell? ⟨Bt, 0, none⟩ = some (.pointer (some ⟨g, 0, none⟩))) (cS : w.cell? ⟨Bs, 0, none⟩ = some (.int .i64 s)) (W : World) (hW : Below w.heap.size w W) :
    Hands Try.prog 46 #[.pointer (some ⟨Bt, 0, none⟩), .pointer (some ⟨Bs, 0, none⟩)] out6 w.heap.size (fun zs _ => zs = ofServer s ys) (fun _ => True) 4000 W := by
  intro l J Jx W2 hW2 gJ hY h0
  have hB := hW.trans hW2
  have kT := (hB.cell (p := ⟨Bt, 0, none⟩) (cell_lt cT)).trans cT
  have kS := (hB.cell (p := ⟨Bs, 0, none⟩) (cell_lt cS)).trans cS
  have kg := (hB.cell (p := ⟨g, 0, none⟩) h.lt).trans h.cell
  have hrow := (owns_row h.own).1
  obtain ⟨_, ⟨rfl, e0⟩ | ⟨r, cap, cur, rfl, _, hr, _⟩⟩ := h.own
  · have e1 : ys = [] := by
      have := e0
      rw [List.length_map] at this
      exact List.length_eq_zero_iff.1 this
    subst e1
    exact (of1_none l Bt Bs g 0 none W2 (Nat.lt_of_lt_of_le h.lt hB.size) kT kg J h0).mono fun e V ⟨he, hj⟩ => ⟨he, .inl ⟨_, rfl, hj⟩⟩
  · have hrl : r < w.heap.size := (Array.getElem?_eq_some_iff.1 hr).1
    rw [List.length_map] at kg
    exact of1_some l Bt Bs w.heap.size g r cap s ys hl (cell_lt cS) hrl W2 hB.size kT kS kg
      (fun j hj => by
        have h1 := row_at hrow (t := j) (by rw [List.length_map]; exact hj)
        rw [Nat.zero_add] at h1
        exact h1.same (hB.block r hrl)) J Jx gJ hY h0

set_option maxRecDepth 100000 in
set_option maxHeartbeats 4000000 in
theorem val1_some (l Bs n₀ b off cap : Nat) (ys : List VC) (hl : ys.length ≤ 4000) (hb : b < n₀) (W : World) (hn : n₀ ≤ W.heap.size)
    (cS : W.cell? ⟨Bs, 0, none⟩ = some (.slice (some ⟨b, off, none⟩) ys.length cap))
    (hc : ∀ j, j < ys.length → ChgAt W b (off + j * 6) ((ys.map (·.1)).getD j c0)) (J Jx : List VC → World → Prop) (gJ : Grows J)
    (hY : ∀ pre x U, J pre U → pre.length < 4000 → YieldAt Fence.wide (5 - 1) Try.prog l (out6 x) U fun e V => (e = .returned (.bool true) ∧ J (pre ++ [x]) V ∧ Below n₀ U V) ∨ (e = .returned (.bool false) ∧ Jx (pre ++ [x]) V)) (h0 : J [] W) :
    CallsIn Fence.wide 5 Try.prog 57 #[.func (.yield l) #[] #[], .pointer (some ⟨Bs, 0, none⟩)] W fun e V => (∃ v, e = .returned v) ∧ ((∃ zs, zs = ys ∧ J zs V) ∨ ∃ pre, True ∧ Jx pre V) := by
  have HC := Lib.hid hc
  have HJ : Hid (∀ pre x U, J pre U → pre.length < 4000 → YieldAt Fence.wide (5 - 1) Try.prog l (out6 x) U fun e V => (e = .returned (.bool true) ∧ J (pre ++ [x]) V ∧ Below n₀ U V) ∨ (e = .returned (.bool false) ∧ Jx (pre ++ [x]) V)) := hY
  clear hc hY
  refine callsIn_of_wp Try.func57 rfl trivial ?_ rfl
  simp only [Try.ntmps57, List.size_toArray, List.length_cons, List.length_nil, Nat.reduceAdd, Nat.reduceSub, Array.replicate_succ, Array.replicate_zero, List.push_toArray, List.append_toArray, List.nil_append, List.cons_append]
  gi_wp2
  gi_loopw [7] (fun i wr => ∃ k : Nat, k ≤ ys.length ∧ i = .int .i64 k ∧ J (ys.take k) wr ∧ Below n₀ W wr) (fun i _ => ys.length - (intOf i).toNat)
  case atStart => exact ⟨0, Nat.zero_le _, rfl, h0, Below.refl _ _⟩
  case round =>
    obtain ⟨k, hk, rfl, hJs, hnx⟩ := hrel
    have HK := Lib.hid hJs
    have HW := Lib.hid hnx
    have hsz := hnx.size
    clear hJs hnx
    by_cases hlt : k < ys.length
    · have hA : ChgAt wr b (off + k * 6) ((ys.map (·.1)).getD k c0) := (HC.out k hlt).same (HW.out.block b hb)
      rw [get_vc hlt] at hA
      have HT := Lib.hid (take_vc hlt)
      have HL : Hid ((ys.take k).length ≤ k) := by show _ ≤ _; rw [List.length_take]; omega
      generalize ys[k] = x at *
      obtain ⟨x, hx⟩ := x
      have hV : Hid (∀ U, J (ys.take k) U → YieldAt Fence.wide (5 - 1) Try.prog l #[.agg #[.int .i64 x.sv, .int .i64 x.wk, .int .i64 x.th, .int .i64 x.fr, .int .i64 x.to, .int .i64 x.n]] U fun e V => (e = .returned (.bool true) ∧ J (ys.take (k + 1)) V ∧ Below n₀ U V) ∨ (e = .returned (.bool false) ∧ Jx (ys.take (k + 1)) V)) := fun U h => by
        have h1 := HJ.out _ ⟨x, hx⟩ U h (by have := HL.out; omega)
        rw [HT.out]
        exact h1
      clear HT HL
      obtain ⟨q0, q1, q2, q3, q4, q5⟩ := hA
      simp only at q0 q1 q2 q3 q4 q5
      have hlt' : (k : Int) < (ys.length : Int) := by omega
      have lr : b < wr.heap.size := cell_lt q0
      have bw := bel_alloc (o := .cells #[.int .i64 x.sv, .int .i64 x.wk, .int .i64 x.th, .int .i64 x.fr, .int .i64 x.to, .int .i64 x.n] 50) (Below.refl wr.heap.size wr)
      have hb1 := HW.out.trans (bw.mono (show n₀ ≤ wr.heap.size by omega))
      obtain ⟨fn, tmps, assign, body, hy, hR⟩ := hV.out _ (gJ _ _ _ HK.out bw)
      clear hV bw
      gi_wp2
      refine hR.mono ?_
      rintro e w2 (⟨rfl, hJ2, hk2⟩ | ⟨rfl, hJx2⟩)
      · have HJ2 := Lib.hid hJ2
        have HB2 := Lib.hid hk2
        clear hJ2 hk2
        gi_wp2
        go_roundw
        case rel => exact ⟨k + 1, by omega, by simp, HJ2.out, hb1.trans HB2.out⟩
        case measure => first | (simp [intOf]; done) | (simp [intOf]; omega)
      · have HJ2 := Lib.hid hJx2
        clear hJx2
        gi_wp2
        refine bodyPost_ret (results_none rfl _ _ _) rfl ?_
        exact ⟨⟨_, rfl⟩, .inr ⟨_, trivial, HJ2.out⟩⟩
    · obtain rfl : k = ys.length := by omega
      have hge : ¬ (ys.length : Int) < (ys.length : Int) := by omega
      gi_wp2
      go_end0
      exact ⟨⟨_, rfl⟩, .inl (by have := HK.out; rw [List.take_length] at this; first | exact this | exact ⟨_, rfl, this⟩)⟩
set_option maxRecDepth 100000 in
set_option maxHeartbeats 2000000 in
theorem val1_none (l Bs cap : Nat) (a : Option Addr) (W : World) (cS : W.cell? ⟨Bs, 0, none⟩ = some (.slice a 0 cap)) (J : List VC → World → Prop) (h0 : J [] W) :
    CallsIn Fence.wide 5 Try.prog 57 #[.func (.yield l) #[] #[], .pointer (some ⟨Bs, 0, none⟩)] W fun e V => (∃ v, e = .returned v) ∧ J [] V := by
  refine callsIn_of_wp Try.func57 rfl trivial ?_ rfl
  simp only [Try.ntmps57, List.size_toArray, List.length_cons, List.length_nil, Nat.reduceAdd, Nat.reduceSub, Array.replicate_succ, Array.replicate_zero, List.push_toArray, List.append_toArray, List.nil_append, List.cons_append]
  gi_wp2
  gi_loopw [7] (fun i wr => i = .int .i64 0 ∧ J [] wr ∧ wr = W) (fun _ _ => 0)
  case atStart => exact ⟨rfl, h0, rfl⟩
  case round =>
    obtain ⟨rfl, hJs, rfl⟩ := hrel
    gi_wp2
    go_end0
    exact ⟨⟨_, rfl⟩, hJs⟩
theorem val_hands (Bs : Nat) (v : Value) (ys : List VC) (w : World) (hl : ys.length ≤ 4000) (h : ChgRow w v (ys.map (·.1))) (cS : w.cell? ⟨Bs, 0, none⟩ = some v) (W : World) (hW : Below w.heap.size w W) :
    Hands Try.prog 57 #[.pointer (some ⟨Bs, 0, none⟩)] out6 w.heap.size (fun zs _ => zs = ys) (fun _ => True) 4000 W := by
  intro l J Jx W2 hW2 gJ hY h0
  have hB := hW.trans hW2
  have kS := (hB.cell (p := ⟨Bs, 0, none⟩) (cell_lt cS)).trans cS
  rcases h with ⟨a, cap, rfl, e0⟩ | ⟨b, off, cap, rfl, hb, _, hc⟩
  · have e1 : ys = [] := List.map_eq_nil_iff.1 e0
    subst e1
    exact (val1_none l Bs cap a W2 kS J h0).mono fun e V ⟨he, hj⟩ => ⟨he, .inl ⟨_, rfl, hj⟩⟩
  · rw [List.length_map] at kS hc
    exact val1_some l Bs w.heap.size b off cap ys hl hb W2 hB.size kS (fun j hj => (hc j hj).same (hB.block b hb)) J Jx gJ hY h0
end Go.Proofs.Ytfpifaccjfgfkaa
