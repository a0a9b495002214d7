/- What the iterator that admit.Rule.asks makes hands out: what servers ask for, one by one, up to the first one whose params may not be; then it writes what is wrong. Each theorem's premises are its conditions. -/
import Derived.Test.YtmcilmmnpolieaaK03
import Derived.Test.YtmcilmmnpolieaaK14
import Derived.RangeFuncBound
import Derived.RangeFuncCalls
import Derived.RangeFuncLeaves
import Derived.RangeFuncBox
import Derived.Shelf.RegionOpen
import Derived.OwnWalkIn
import Derived.TacticsInMore
import Derived.LoopNIn
import Derived.LoopIn
import Derived.Scope
import Derived.ControlIn
/- What the iterator that admit.Rule.asks makes hands out: what servers ask for, one by one, up to the first one whose params may not be; then it writes what is wrong. Each theorem's premises are its conditions. -/
namespace Go.Proofs.Ytmcilmmnpolieaa
open Go.RowKit Go.Shelf
attribute [local go_sem] Oper.semAt_some

/-- a ratio. -/
abbrev A20 := { n : Nat // n ≤ 1048576 }
def zero20 : A20 := ⟨0, by omega⟩
def out20 (x : A20) : Array Value := #[.int .i64 ((x.1 : Nat) : Int)]
/-- what has come when k rounds are over. -/
def come (f : Nat → A20) (k : Nat) : List A20 := (List.range k).map f
theorem come_succ (f : Nat → A20) (k : Nat) : come f (k + 1) = come f k ++ [f k] := by simp [come, List.range_succ]
theorem come_length (f : Nat → A20) (k : Nat) : (come f k).length = k := by simp [come]
/-- what the k-th server asks for, if it may be. -/
def askAt (hard : Bool) (ps : List P3) (k : Nat) : A20 := if h : May (ps.getD k p0) then ⟨askOf hard (ps.getD k p0), askOf_le hard h⟩ else zero20
theorem askAt_ok {hard : Bool} {ps : List P3} {k : Nat} (h : May (ps.getD k p0)) : (askAt hard ps k).1 = askOf hard (ps.getD k p0) := by unfold askAt; rw [dif_pos h]
/-- what the iterator says at its end: all came, and nothing is wrong; or one may not be, and that is told. -/
def AskedAll (hard : Bool) (ps : List P3) (E : Addr) (ys : List A20) (W : World) : Prop :=
  (allMay ps = true ∧ ys = come (askAt hard ps) ps.length ∧ W.cell? E = some (.int .i64 0)) ∨ (allMay ps = false ∧ W.cell? E = some (.int .i64 1))

theorem dense_may (p : P3) (h : May p) (w : World) : Calls Try.prog 56 #[.agg #[.int .i64 p.1, .int .i64 p.2.1, .int .i64 p.2.2]] w (Gives (.tuple #[.int .i64 ((askOf true p : Nat) : Int), .int .i64 0]) w) := by
  obtain ⟨q, d, t⟩ := p
  obtain ⟨h1, h2, h3, h4⟩ := h
  simp only at h1 h2 h3 h4
  have D := dense_ok q d t ⟨h1, h2, h3, h4⟩ w
  obtain ⟨q, rfl⟩ := Int.eq_ofNat_of_zero_le (show 0 ≤ q by omega)
  obtain ⟨d, rfl⟩ := Int.eq_ofNat_of_zero_le (show 0 ≤ d by omega)
  have a := askOf_le true (p := ((q : Int), (d : Int), t)) ⟨h1, h2, h3, h4⟩
  have e : askOf true ((q : Int), (d : Int), t) = quot true (q * 1048576) d := by simp [askOf]
  rw [e] at a ⊢
  have r := divRes_nat (x := q) (y := 1048576) (c := d) (up := true) (by omega) (by omega)
  rw [show ((1048576 : Nat) : Int) = 1048576 from rfl] at r
  rw [r.1, r.2] at D
  exact D
theorem use_may (p : P3) (h : May p) (w : World) : Calls Try.prog 57 #[.agg #[.int .i64 p.1, .int .i64 p.2.1, .int .i64 p.2.2]] w (Gives (.tuple #[.int .i64 ((askOf false p : Nat) : Int), .int .i64 0]) w) := by
  obtain ⟨q, d, t⟩ := p
  obtain ⟨h1, h2, h3, h4⟩ := h
  simp only at h1 h2 h3 h4
  have D := use_ok q d t ⟨h1, h2, h3, h4⟩ w
  obtain ⟨q, rfl⟩ := Int.eq_ofNat_of_zero_le (show 0 ≤ q by omega)
  obtain ⟨t, rfl⟩ := Int.eq_ofNat_of_zero_le (show 0 ≤ t by omega)
  have a := askOf_le false (p := ((q : Int), d, (t : Int))) ⟨h1, h2, h3, h4⟩
  have e : askOf false ((q : Int), d, (t : Int)) = quot true (q * 1048576) t := by simp [askOf]
  rw [e] at a ⊢
  have r := divRes_nat (x := q) (y := 1048576) (c := t) (up := true) (by omega) (by omega)
  rw [show ((1048576 : Nat) : Int) = 1048576 from rfl] at r
  rw [r.1, r.2] at D
  exact D
theorem dense_not (p : P3) (h : ¬ May p) (w : World) : Calls Try.prog 56 #[.agg #[.int .i64 p.1, .int .i64 p.2.1, .int .i64 p.2.2]] w (Gives (.tuple #[.int .i64 0, .int .i64 1]) w) :=
  (dense_bad p.1 p.2.1 p.2.2 h w).mono fun e w' h => ⟨h.1, by rw [h.2]; exact bel_alloc (bel_alloc (Below.refl _ _))⟩
theorem use_not (p : P3) (h : ¬ May p) (w : World) : Calls Try.prog 57 #[.agg #[.int .i64 p.1, .int .i64 p.2.1, .int .i64 p.2.2]] w (Gives (.tuple #[.int .i64 0, .int .i64 1]) w) :=
  (use_bad p.1 p.2.1 p.2.2 h w).mono fun e w' h => ⟨h.1, by rw [h.2]; exact bel_alloc (bel_alloc (Below.refl _ _))⟩

set_option maxRecDepth 100000 in
set_option maxHeartbeats 4000000 in
theorem asks_dense (l Bs Ba Be n₀ b off cap : Nat) (E : Addr) (ps : List P3) (hl : ps.length ≤ 1000) (hb : b < n₀) (hBs : Bs < n₀) (hBa : Ba < n₀) (hBe : Be < n₀) (hE : E.block < n₀) (W : World) (hn : n₀ ≤ W.heap.size)
    (cS : W.cell? ⟨Bs, 0, none⟩ = some (.slice (some ⟨b, off, none⟩) ps.length cap)) (cA : W.cell? ⟨Ba, 0, none⟩ = some (.func (.func 56) #[] #[])) (cE : W.cell? ⟨Be, 0, none⟩ = some (.pointer (some E))) (e0 : W.cell? E = some (.int .i64 0)) (ef : W.frozen? E = false)
    (hc : ∀ j, j < ps.length → ParamAt W b (off + j * 3) (ps.getD j p0)) (J Jx : List A20 → World → Prop) (gJ : Grows J) (sJ : Stays E J)
    (hY : ∀ pre x U, J pre U → pre.length < 1000 → YieldAt Fence.wide (5 - 1) Try.prog l (out20 x) U fun e V => (e = .returned (.bool true) ∧ J (pre ++ [x]) V ∧ Below n₀ U V) ∨ (e = .returned (.bool false) ∧ Jx (pre ++ [x]) V)) (h0 : J [] W) :
    CallsIn Fence.wide 5 Try.prog 58 #[.func (.yield l) #[] #[], .pointer (some ⟨Bs, 0, none⟩), .pointer (some ⟨Ba, 0, none⟩), .pointer (some ⟨Be, 0, none⟩)] W fun e V => (∃ v, e = .returned v) ∧ ((∃ ys, AskedAll true ps E ys V ∧ J ys V) ∨ ∃ pre, True ∧ Jx pre V) := by
  have HC := Lib.hid hc
  have HJ : Hid (∀ pre x U, J pre U → pre.length < 1000 → YieldAt Fence.wide (5 - 1) Try.prog l (out20 x) U fun e V => (e = .returned (.bool true) ∧ J (pre ++ [x]) V ∧ Below n₀ U V) ∨ (e = .returned (.bool false) ∧ Jx (pre ++ [x]) V)) := hY
  obtain ⟨len, hlen⟩ : ∃ n, ps.length = n := ⟨_, rfl⟩
  have HL := Lib.hid hlen
  rw [hlen] at hl cS
  clear hc hlen hY
  refine callsIn_of_wp Try.func58 rfl trivial ?_ rfl
  simp only [Try.ntmps58, List.size_toArray, List.length_cons, List.length_nil, Nat.reduceAdd, Nat.reduceSub, Array.replicate_succ, Array.replicate_zero, List.push_toArray, List.append_toArray, List.nil_append, List.cons_append]
  gi_wp2
  gi_loopw [11] (fun i wr => ∃ k : Nat, k ≤ len ∧ i = .int .i64 k ∧ J (come (askAt true ps) k) wr ∧ (∀ j, j < k → May (ps.getD j p0)) ∧ Below n₀ W wr)
    (fun i _ => len - (intOf i).toNat)
  case atStart => exact ⟨0, Nat.zero_le _, rfl, h0, (fun j hj => by omega), Below.refl _ _⟩
  case round =>
    obtain ⟨k, hk, rfl, hJs, hmay, hnx⟩ := hrel
    have HM := Lib.hid hmay
    have HK := Lib.hid hJs
    clear hmay hJs
    have hsz := hnx.size
    have xS := (hnx.cell (p := ⟨Bs, 0, none⟩) hBs).trans cS
    have xA := (hnx.cell (p := ⟨Ba, 0, none⟩) hBa).trans cA
    have xE := (hnx.cell (p := ⟨Be, 0, none⟩) hBe).trans cE
    have xe := (hnx.cell (p := E) hE).trans e0
    have xf := (hnx.frozen (p := E) hE).trans ef
    by_cases hlt : k < len
    · have hA : ParamAt wr b (off + k * 3) (ps.getD k p0) := by
        have h1 := HC.out k (by rw [HL.out]; exact hlt)
        exact ⟨(hnx.cell (p := ⟨b, off + k * 3, none⟩) hb).trans h1.1, (hnx.cell (p := ⟨b, off + k * 3 + 1, none⟩) hb).trans h1.2.1, (hnx.cell (p := ⟨b, off + k * 3 + 2, none⟩) hb).trans h1.2.2⟩
      have HN : Hid (May (ps.getD k p0) → ∀ j, j < k + 1 → May (ps.getD j p0)) := fun h j hj => by
        by_cases e : j = k
        · subst e; exact h
        · exact HM.out j (by omega)
      have HF : Hid (¬ May (ps.getD k p0) → allMay ps = false) := fun h => allMay_not (by rw [HL.out]; exact hlt) h
      have HA : Hid (May (ps.getD k p0) → (askAt true ps k).1 = askOf true (ps.getD k p0)) := fun h => askAt_ok h
      generalize ps.getD k p0 = p at *
      obtain ⟨c0, c1, c2⟩ := hA
      have hlt' : (k : Int) < (len : Int) := by omega
      have lb : b < wr.heap.size := by omega
      have la : Ba < wr.heap.size := by omega
      have le : Be < wr.heap.size := by omega
      have lE : E.block < wr.heap.size := by omega
      clear cS cA cE e0 ef
      by_cases hp : May p
      · have R := Lib.hid (dense_may p hp)
        have hv := HA.out hp
        have hn2 := Lib.hid (HN.out hp)
        have hY2 := fun U h => HJ.out (come (askAt true ps) k) (askAt true ps k) U h (by rw [come_length]; omega)
        have HV : Hid (∀ U, J (come (askAt true ps) k) U → YieldAt Fence.wide (5 - 1) Try.prog l #[.int .i64 ((askOf true p : Nat) : Int)] U fun e V => (e = .returned (.bool true) ∧ J (come (askAt true ps) (k + 1)) V ∧ Below n₀ U V) ∨ (e = .returned (.bool false) ∧ Jx (come (askAt true ps) (k + 1)) V)) := fun U h => by
          have := hY2 U h
          unfold out20 at this
          rw [hv] at this
          rw [come_succ]
          exact this
        generalize askOf true p = n at *
        clear hY2 hv HA HF HN HM hp
        gi_wp2_with fail
        refine ⟨trivial, (callsIn_wide.2 (R.out _)).mono ?_⟩
        rintro e w1 ⟨rfl, b1⟩
        have bw := bel_end (bel_alloc (Below.refl wr.heap.size wr)) b1
        have hb1 := hnx.trans (bw.mono (show n₀ ≤ wr.heap.size by omega))
        obtain ⟨fn, tmps, assign, body, hy, hR⟩ := HV.out w1 (gJ _ _ _ HK.out bw)
        clear HV xS xA xE xe xf c0 c1 c2 b1
        gi_wp2
        refine hR.mono ?_
        rintro e w2 (⟨rfl, hJ2, hk2⟩ | ⟨rfl, hJx2⟩)
        · have HJ2 := Lib.hid hJ2
          have HB2 := Lib.hid hk2
          clear hJ2 hk2
          gi_wp2
          go_roundw
          case rel => exact ⟨k + 1, by omega, by simp, HJ2.out, hn2.out, hb1.trans HB2.out⟩
          case measure => simp [intOf]; omega
        · have HJ2 := Lib.hid hJx2
          clear hJx2
          gi_wp2
          refine bodyPost_ret (results_none rfl _ _ _) rfl ?_
          exact ⟨⟨_, rfl⟩, .inr ⟨_, trivial, HJ2.out⟩⟩
      · have R := Lib.hid (dense_not p hp)
        have hf := Lib.hid (HF.out hp)
        clear HA HF HN HM hp
        gi_wp2_with fail
        refine ⟨trivial, (callsIn_wide.2 (R.out _)).mono ?_⟩
        rintro e w1 ⟨rfl, b1⟩
        have bw := bel_end (bel_alloc (Below.refl wr.heap.size wr)) b1
        have HJ1 := Lib.hid (gJ _ _ _ HK.out bw)
        have zE := (bw.cell (p := ⟨Be, 0, none⟩) le).trans xE
        have ze := (bw.cell (p := E) lE).trans xe
        have zf := (bw.frozen (p := E) lE).trans xf
        clear xS xA xE xe xf c0 c1 c2
        gi_wp2
        refine bodyPost_ret (results_none rfl _ _ _) rfl ?_
        exact ⟨⟨_, rfl⟩, .inl ⟨_, .inr ⟨hf.out, by first | exact World.cell?_setCell_same ze | go_simp⟩, sJ _ _ _ HJ1.out⟩⟩
    · obtain rfl : k = len := by omega
      have hge : ¬ (k : Int) < (k : Int) := by omega
      have ha : Hid (allMay ps = true) := allMay_upto (fun j hj => HM.out j (by rw [HL.out] at hj; omega))
      clear HM
      gi_wp2
      go_end0
      exact ⟨⟨_, rfl⟩, .inl ⟨_, .inl ⟨ha.out, by rw [HL.out], xe⟩, HK.out⟩⟩

set_option maxRecDepth 100000 in
set_option maxHeartbeats 2000000 in
theorem asks_dense0 (l Bs Ba Be cap : Nat) (a : Option Addr) (E : Addr) (W : World) (cS : W.cell? ⟨Bs, 0, none⟩ = some (.slice a 0 cap)) (e0 : W.cell? E = some (.int .i64 0))
    (J : List A20 → World → Prop) (h0 : J [] W) :
    CallsIn Fence.wide 5 Try.prog 58 #[.func (.yield l) #[] #[], .pointer (some ⟨Bs, 0, none⟩), .pointer (some ⟨Ba, 0, none⟩), .pointer (some ⟨Be, 0, none⟩)] W fun e V => (∃ v, e = .returned v) ∧ (∃ ys, AskedAll true [] E ys V ∧ J ys V) := by
  refine callsIn_of_wp Try.func58 rfl trivial ?_ rfl
  simp only [Try.ntmps58, List.size_toArray, List.length_cons, List.length_nil, Nat.reduceAdd, Nat.reduceSub, Array.replicate_succ, Array.replicate_zero, List.push_toArray, List.append_toArray, List.nil_append, List.cons_append]
  gi_wp2
  gi_loopw [11] (fun i wr => i = .int .i64 0 ∧ J [] wr ∧ wr = W) (fun _ _ => 0)
  case atStart => exact ⟨rfl, h0, rfl⟩
  case round =>
    obtain ⟨rfl, hJs, rfl⟩ := hrel
    gi_wp2
    go_end0
    exact ⟨⟨_, rfl⟩, _, .inl ⟨rfl, rfl, e0⟩, hJs⟩

set_option maxRecDepth 100000 in
set_option maxHeartbeats 4000000 in
theorem asks_use (l Bs Ba Be n₀ b off cap : Nat) (E : Addr) (ps : List P3) (hl : ps.length ≤ 1000) (hb : b < n₀) (hBs : Bs < n₀) (hBa : Ba < n₀) (hBe : Be < n₀) (hE : E.block < n₀) (W : World) (hn : n₀ ≤ W.heap.size)
    (cS : W.cell? ⟨Bs, 0, none⟩ = some (.slice (some ⟨b, off, none⟩) ps.length cap)) (cA : W.cell? ⟨Ba, 0, none⟩ = some (.func (.func 57) #[] #[])) (cE : W.cell? ⟨Be, 0, none⟩ = some (.pointer (some E))) (e0 : W.cell? E = some (.int .i64 0)) (ef : W.frozen? E = false)
    (hc : ∀ j, j < ps.length → ParamAt W b (off + j * 3) (ps.getD j p0)) (J Jx : List A20 → World → Prop) (gJ : Grows J) (sJ : Stays E J)
    (hY : ∀ pre x U, J pre U → pre.length < 1000 → YieldAt Fence.wide (5 - 1) Try.prog l (out20 x) U fun e V => (e = .returned (.bool true) ∧ J (pre ++ [x]) V ∧ Below n₀ U V) ∨ (e = .returned (.bool false) ∧ Jx (pre ++ [x]) V)) (h0 : J [] W) :
    CallsIn Fence.wide 5 Try.prog 58 #[.func (.yield l) #[] #[], .pointer (some ⟨Bs, 0, none⟩), .pointer (some ⟨Ba, 0, none⟩), .pointer (some ⟨Be, 0, none⟩)] W fun e V => (∃ v, e = .returned v) ∧ ((∃ ys, AskedAll false ps E ys V ∧ J ys V) ∨ ∃ pre, True ∧ Jx pre V) := by
  have HC := Lib.hid hc
  have HJ : Hid (∀ pre x U, J pre U → pre.length < 1000 → YieldAt Fence.wide (5 - 1) Try.prog l (out20 x) U fun e V => (e = .returned (.bool true) ∧ J (pre ++ [x]) V ∧ Below n₀ U V) ∨ (e = .returned (.bool false) ∧ Jx (pre ++ [x]) V)) := hY
  obtain ⟨len, hlen⟩ : ∃ n, ps.length = n := ⟨_, rfl⟩
  have HL := Lib.hid hlen
  rw [hlen] at hl cS
  clear hc hlen hY
  refine callsIn_of_wp Try.func58 rfl trivial ?_ rfl
  simp only [Try.ntmps58, List.size_toArray, List.length_cons, List.length_nil, Nat.reduceAdd, Nat.reduceSub, Array.replicate_succ, Array.replicate_zero, List.push_toArray, List.append_toArray, List.nil_append, List.cons_append]
  gi_wp2
  gi_loopw [11] (fun i wr => ∃ k : Nat, k ≤ len ∧ i = .int .i64 k ∧ J (come (askAt false ps) k) wr ∧ (∀ j, j < k → May (ps.getD j p0)) ∧ Below n₀ W wr)
    (fun i _ => len - (intOf i).toNat)
  case atStart => exact ⟨0, Nat.zero_le _, rfl, h0, (fun j hj => by omega), Below.refl _ _⟩
  case round =>
    obtain ⟨k, hk, rfl, hJs, hmay, hnx⟩ := hrel
    have HM := Lib.hid hmay
    have HK := Lib.hid hJs
    clear hmay hJs
    have hsz := hnx.size
    have xS := (hnx.cell (p := ⟨Bs, 0, none⟩) hBs).trans cS
    have xA := (hnx.cell (p := ⟨Ba, 0, none⟩) hBa).trans cA
    have xE := (hnx.cell (p := ⟨Be, 0, none⟩) hBe).trans cE
    have xe := (hnx.cell (p := E) hE).trans e0
    have xf := (hnx.frozen (p := E) hE).trans ef
    by_cases hlt : k < len
    · have hA : ParamAt wr b (off + k * 3) (ps.getD k p0) := by
        have h1 := HC.out k (by rw [HL.out]; exact hlt)
        exact ⟨(hnx.cell (p := ⟨b, off + k * 3, none⟩) hb).trans h1.1, (hnx.cell (p := ⟨b, off + k * 3 + 1, none⟩) hb).trans h1.2.1, (hnx.cell (p := ⟨b, off + k * 3 + 2, none⟩) hb).trans h1.2.2⟩
      have HN : Hid (May (ps.getD k p0) → ∀ j, j < k + 1 → May (ps.getD j p0)) := fun h j hj => by
        by_cases e : j = k
        · subst e; exact h
        · exact HM.out j (by omega)
      have HF : Hid (¬ May (ps.getD k p0) → allMay ps = false) := fun h => allMay_not (by rw [HL.out]; exact hlt) h
      have HA : Hid (May (ps.getD k p0) → (askAt false ps k).1 = askOf false (ps.getD k p0)) := fun h => askAt_ok h
      generalize ps.getD k p0 = p at *
      obtain ⟨c0, c1, c2⟩ := hA
      have hlt' : (k : Int) < (len : Int) := by omega
      have lb : b < wr.heap.size := by omega
      have la : Ba < wr.heap.size := by omega
      have le : Be < wr.heap.size := by omega
      have lE : E.block < wr.heap.size := by omega
      clear cS cA cE e0 ef
      by_cases hp : May p
      · have R := Lib.hid (use_may p hp)
        have hv := HA.out hp
        have hn2 := Lib.hid (HN.out hp)
        have hY2 := fun U h => HJ.out (come (askAt false ps) k) (askAt false ps k) U h (by rw [come_length]; omega)
        have HV : Hid (∀ U, J (come (askAt false ps) k) U → YieldAt Fence.wide (5 - 1) Try.prog l #[.int .i64 ((askOf false p : Nat) : Int)] U fun e V => (e = .returned (.bool true) ∧ J (come (askAt false ps) (k + 1)) V ∧ Below n₀ U V) ∨ (e = .returned (.bool false) ∧ Jx (come (askAt false ps) (k + 1)) V)) := fun U h => by
          have := hY2 U h
          unfold out20 at this
          rw [hv] at this
          rw [come_succ]
          exact this
        generalize askOf false p = n at *
        clear hY2 hv HA HF HN HM hp
        gi_wp2_with fail
        refine ⟨trivial, (callsIn_wide.2 (R.out _)).mono ?_⟩
        rintro e w1 ⟨rfl, b1⟩
        have bw := bel_end (bel_alloc (Below.refl wr.heap.size wr)) b1
        have hb1 := hnx.trans (bw.mono (show n₀ ≤ wr.heap.size by omega))
        obtain ⟨fn, tmps, assign, body, hy, hR⟩ := HV.out w1 (gJ _ _ _ HK.out bw)
        clear HV xS xA xE xe xf c0 c1 c2 b1
        gi_wp2
        refine hR.mono ?_
        rintro e w2 (⟨rfl, hJ2, hk2⟩ | ⟨rfl, hJx2⟩)
        · have HJ2 := Lib.hid hJ2
          have HB2 := Lib.hid hk2
          clear hJ2 hk2
          gi_wp2
          go_roundw
          case rel => exact ⟨k + 1, by omega, by simp, HJ2.out, hn2.out, hb1.trans HB2.out⟩
          case measure => simp [intOf]; omega
        · have HJ2 := Lib.hid hJx2
          clear hJx2
          gi_wp2
          refine bodyPost_ret (results_none rfl _ _ _) rfl ?_
          exact ⟨⟨_, rfl⟩, .inr ⟨_, trivial, HJ2.out⟩⟩
      · have R := Lib.hid (use_not p hp)
        have hf := Lib.hid (HF.out hp)
        clear HA HF HN HM hp
        gi_wp2_with fail
        refine ⟨trivial, (callsIn_wide.2 (R.out _)).mono ?_⟩
        rintro e w1 ⟨rfl, b1⟩
        have bw := bel_end (bel_alloc (Below.refl wr.heap.size wr)) b1
        have HJ1 := Lib.hid (gJ _ _ _ HK.out bw)
        have zE := (bw.cell (p := ⟨Be, 0, none⟩) le).trans xE
        have ze := (bw.cell (p := E) lE).trans xe
        have zf := (bw.frozen (p := E) lE).trans xf
        clear xS xA xE xe xf c0 c1 c2
        gi_wp2
        refine bodyPost_ret (results_none rfl _ _ _) rfl ?_
        exact ⟨⟨_, rfl⟩, .inl ⟨_, .inr ⟨hf.out, by first | exact World.cell?_setCell_same ze | go_simp⟩, sJ _ _ _ HJ1.out⟩⟩
    · obtain rfl : k = len := by omega
      have hge : ¬ (k : Int) < (k : Int) := by omega
      have ha : Hid (allMay ps = true) := allMay_upto (fun j hj => HM.out j (by rw [HL.out] at hj; omega))
      clear HM
      gi_wp2
      go_end0
      exact ⟨⟨_, rfl⟩, .inl ⟨_, .inl ⟨ha.out, by rw [HL.out], xe⟩, HK.out⟩⟩

set_option maxRecDepth 100000 in
set_option maxHeartbeats 2000000 in
theorem asks_use0 (l Bs Ba Be cap : Nat) (a : Option Addr) (E : Addr) (W : World) (cS : W.cell? ⟨Bs, 0, none⟩ = some (.slice a 0 cap)) (e0 : W.cell? E = some (.int .i64 0))
    (J : List A20 → World → Prop) (h0 : J [] W) :
    CallsIn Fence.wide 5 Try.prog 58 #[.func (.yield l) #[] #[], .pointer (some ⟨Bs, 0, none⟩), .pointer (some ⟨Ba, 0, none⟩), .pointer (some ⟨Be, 0, none⟩)] W fun e V => (∃ v, e = .returned v) ∧ (∃ ys, AskedAll false [] E ys V ∧ J ys V) := by
  refine callsIn_of_wp Try.func58 rfl trivial ?_ rfl
  simp only [Try.ntmps58, List.size_toArray, List.length_cons, List.length_nil, Nat.reduceAdd, Nat.reduceSub, Array.replicate_succ, Array.replicate_zero, List.push_toArray, List.append_toArray, List.nil_append, List.cons_append]
  gi_wp2
  gi_loopw [11] (fun i wr => i = .int .i64 0 ∧ J [] wr ∧ wr = W) (fun _ _ => 0)
  case atStart => exact ⟨rfl, h0, rfl⟩
  case round =>
    obtain ⟨rfl, hJs, rfl⟩ := hrel
    gi_wp2
    go_end0
    exact ⟨⟨_, rfl⟩, _, .inl ⟨rfl, rfl, e0⟩, hJs⟩
end Go.Proofs.Ytmcilmmnpolieaa
