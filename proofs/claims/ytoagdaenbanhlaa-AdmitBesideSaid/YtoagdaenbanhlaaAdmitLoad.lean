/- What admit.Check, Bound, Load and Test answer of any rule and any slice of params (up to 1000). Each theorem's premises are its conditions. -/
import Derived.Test.YtoagdaenbanhlaaSumsE
import Derived.Test.YtoagdaenbanhlaaAdmitRef
import Derived.Test.YtoagdaenbanhlaaNumMul
import Derived.Shelf.Abstract
import Derived.Laws.EntriesVeiled
import Derived.CallsIn
namespace Go.Proofs.Ytoagdaenbanhlaa
open Go.RowKit Go.Shelf

set_option maxHeartbeats 400000 in
theorem acheck_ok (hard : Bool) (c k : Int) (h : RuleMay c k) (w : World) : Calls Try.prog 13 #[.agg #[.bool hard, .int .i64 c, .int .i64 k]] w fun e w' => e = .returned (.int .i64 0) ∧ w' = w.alloc (ruleBox hard c k) := by
  obtain ⟨h1, h2, h3, h4⟩ := h
  unfold ruleBox
  go_enter Try.func13, Try.ntmps13
  go_wp2
  go_ret
  exact ⟨rfl, rfl⟩
set_option maxHeartbeats 400000 in
theorem acheck_bad (hard : Bool) (c k : Int) (h : ¬ RuleMay c k) (w : World) : Calls Try.prog 13 #[.agg #[.bool hard, .int .i64 c, .int .i64 k]] w fun e w' => e = .returned (.int .i64 1) ∧ w' = w.alloc (ruleBox hard c k) := by
  unfold RuleMay at h
  unfold ruleBox
  by_cases h1 : c < 0
  · have d0 : decide (c < 0) = true := decide_eq_true h1
    clear h h1
    go_enter Try.func13, Try.ntmps13
    go_wp2
    go_ret
    exact ⟨rfl, rfl⟩
  have d0 : decide (c < 0) = false := decide_eq_false h1
  by_cases h2 : 1048576 < c
  · have d1 : decide (1048576 < c) = true := decide_eq_true h2
    clear h h1 h2
    go_enter Try.func13, Try.ntmps13
    go_wp2
    go_ret
    exact ⟨rfl, rfl⟩
  have d1 : decide (1048576 < c) = false := decide_eq_false h2
  by_cases h3 : k < 1
  · have d2 : decide (k < 1) = true := decide_eq_true h3
    clear h h1 h2 h3
    go_enter Try.func13, Try.ntmps13
    go_wp2
    go_ret
    exact ⟨rfl, rfl⟩
  have d2 : decide (k < 1) = false := decide_eq_false h3
  have d3 : decide (16 < k) = true := decide_eq_true (by omega)
  clear h h1 h2 h3
  go_enter Try.func13, Try.ntmps13
  go_wp2
  go_ret
  exact ⟨rfl, rfl⟩
/-- what Check says of a rule. -/
def ruleErr (c k : Int) : Int := if RuleMay c k then 0 else 1
theorem acheck_any (hard : Bool) (c k : Int) (w : World) : Calls Try.prog 13 #[.agg #[.bool hard, .int .i64 c, .int .i64 k]] w fun e w' => e = .returned (.int .i64 (ruleErr c k)) ∧ w' = w.alloc (ruleBox hard c k) := by
  unfold ruleErr
  by_cases h : RuleMay c k
  · rw [if_pos h]; exact acheck_ok hard c k h w
  · rw [if_neg h]; exact acheck_bad hard c k h w

/-- what Bound hands back. -/
def boundVal (hard : Bool) (c k m : Int) : Value :=
  if RuleMay c k then (if m < 0 ∨ 1048576 < m then .tuple #[.int .i64 0, .int .i64 10] else .tuple #[.int .i64 (boundOf hard c k m), .int .i64 0]) else .tuple #[.int .i64 0, .int .i64 1]
set_option maxHeartbeats 1000000 in
theorem bound_any (hard : Bool) (c k m : Int) (w : World) : Calls Try.prog 11 #[.agg #[.bool hard, .int .i64 c, .int .i64 k], .int .i64 m] w (Gives (boundVal hard c k m) w) := by
  unfold boundVal
  by_cases h : RuleMay c k
  · have C := Lib.hid (acheck_ok hard c k h)
    unfold ruleBox at C
    rw [if_pos h]
    by_cases h1 : m < 0
    · rw [if_pos (.inl h1)]
      clear h
      go_enter Try.func11, Try.ntmps11
      go_wp2_with (go_at_call 13; refine (C.out _).mono ?_; rintro e w' ⟨rfl, rfl⟩)
      go_ret2
      exact ⟨rfl, bel_alloc (bel_alloc (Below.refl _ _))⟩
    · by_cases h2 : 1048576 < m
      · rw [if_pos (.inr h2)]
        clear h
        go_enter Try.func11, Try.ntmps11
        go_wp2_with (go_at_call 13; refine (C.out _).mono ?_; rintro e w' ⟨rfl, rfl⟩)
        go_ret2
        exact ⟨rfl, bel_alloc (bel_alloc (Below.refl _ _))⟩
      · rw [if_neg (by omega)]
        obtain ⟨r1, r2, r3, r4⟩ := h
        have d1 : decide (m < 0) = false := decide_eq_false h1
        have d2 : decide (1048576 < m) = false := decide_eq_false h2
        cases hard with
        | false =>
          rw [boundOf_soft]
          obtain ⟨p1, p2⟩ := mul_small (a := c) (b := k) (by omega) (by omega) (A := 1048576) (B := 16) (by omega) (by omega)
          have M := Lib.hid (mul_any c k (by omega) (by omega))
          rw [(mulRes_fit (a := c) (b := k) (by omega)).1, (mulRes_fit (a := c) (b := k) (by omega)).2] at M
          generalize c * k = p at *
          clear p1 p2
          go_enter Try.func11, Try.ntmps11
          go_wp2_with (go_at_call 13; refine (C.out _).mono ?_; rintro e w' ⟨rfl, rfl⟩)
          refine (M.out _).mono ?_
          rintro e w1 ⟨rfl, rfl⟩
          go_wp2_with fail
          go_ret2
          exact ⟨rfl, bel_alloc (bel_alloc (Below.refl _ _))⟩
        | true =>
          rw [boundOf_hard]
          obtain ⟨p1, p2⟩ := mul_small (a := k - 1) (b := m) (by omega) (by omega) (A := 15) (B := 1048576) (by omega) (by omega)
          obtain ⟨M, hM⟩ : ∃ M, (k - 1) * m = M := ⟨_, rfl⟩
          rw [hM] at p1 p2
          rw [hM]
          simp only [Nat.reduceMul, Int.cast_ofNat_Int] at p2
          go_enter Try.func11, Try.ntmps11
          go_wp2_with (go_at_call 13; refine (C.out _).mono ?_; rintro e w' ⟨rfl, rfl⟩)
          go_ret2
          exact ⟨rfl, bel_alloc (bel_alloc (Below.refl _ _))⟩
  · have C := Lib.hid (acheck_bad hard c k h)
    unfold ruleBox at C
    rw [if_neg h]
    clear h
    go_enter Try.func11, Try.ntmps11
    go_wp2_with (go_at_call 13; refine (C.out _).mono ?_; rintro e w' ⟨rfl, rfl⟩)
    go_ret2
    exact ⟨rfl, bel_alloc (bel_alloc (Below.refl _ _))⟩

/-! ### Load -/
theorem fold20_map : ∀ (l : List A20) (s : Nat × Nat), l.foldl (fun s x => (s.1 + x.1, max s.2 x.1)) s = (l.map (·.1)).foldl (fun s x => (s.1 + x, max s.2 x)) s
  | [], _ => rfl
  | x :: l, s => by rw [List.foldl_cons, List.map_cons, List.foldl_cons]; exact fold20_map l _
theorem sumGo2_map (hard : Bool) : ∀ (l : List P3) (s : Nat × Nat), sumGo2 hard s l = (l.map (askOf hard)).foldl (fun s x => (s.1 + x, max s.2 x)) s
  | [], _ => rfl
  | p :: l, s => by rw [List.map_cons, List.foldl_cons]; exact sumGo2_map hard l _
theorem come_ask {hard : Bool} {ps : List P3} (h : allMay ps = true) : (come (askAt hard ps) ps.length).map (·.1) = ps.map (askOf hard) := by
  apply List.ext_getElem
  · simp [come]
  · intro i h1 h2
    have hi : i < ps.length := by simpa using h2
    have e := askAt_ok (hard := hard) (allMay_at h hi)
    have e2 : ps.getD i p0 = ps[i] := by simp [List.getD, hi]
    rw [e2] at e
    simpa [come] using e
theorem come_asked {hard : Bool} {ps : List P3} (h : allMay ps = true) : sums20 (come (askAt hard ps) ps.length) = asked hard ps := by
  unfold sums20 asked
  rw [fold20_map, come_ask h, sumGo2_map]

def fval (g : FuncId) : Value := .func (.func g) #[] #[]
theorem pick_hard (w : World) : Calls Try.prog 32 #[.bool true, .func (.func 33) #[] #[], .func (.func 34) #[] #[]] w fun e w' => e = .returned (.func (.func 33) #[] #[]) ∧ w' = w := by
  go_enter Try.func32, Try.ntmps32
  go_wp2
  go_ret
  exact ⟨rfl, rfl⟩
set_option maxHeartbeats 400000 in
theorem asks_hard (c k : Int) (a0 : Option Addr) (len cap : Nat) (E : Addr) (w : World) : Calls Try.prog 25 #[.agg #[.bool true, .int .i64 c, .int .i64 k], .slice a0 len cap, .pointer (some E)] w fun e w' =>
    e = .returned (.func (.func 35) #[] #[.pointer (some ⟨w.heap.size + 1, 0, none⟩), .pointer (some ⟨w.heap.size + 1 + 1 + 1, 0, none⟩), .pointer (some ⟨w.heap.size + 1 + 1, 0, none⟩)]) ∧
    Below w.heap.size w w' ∧ w'.cell? ⟨w.heap.size + 1, 0, none⟩ = some (.slice a0 len cap) ∧ w'.cell? ⟨w.heap.size + 1 + 1, 0, none⟩ = some (.pointer (some E)) ∧ w'.cell? ⟨w.heap.size + 1 + 1 + 1, 0, none⟩ = some (.func (.func 33) #[] #[]) := by
  have hmf : ∀ (fn : Fn) (first cap : Array Value) (w : World), (Instr.makeFunc fn first cap).run Try.prog w = .ok (.func fn first cap) w := fun _ _ _ _ => rfl
  have PK := Lib.hid pick_hard
  go_enter Try.func25, Try.ntmps25
  go_wp2_with (go_at_call 32; refine (PK.out _).mono ?_; rintro e w' ⟨rfl, rfl⟩)
  go_ret
  exact ⟨rfl, bel_alloc (bel_alloc (bel_alloc (bel_alloc (Below.refl _ _)))), by go_simp, by go_simp, by go_simp⟩
theorem pick_soft (w : World) : Calls Try.prog 32 #[.bool false, .func (.func 33) #[] #[], .func (.func 34) #[] #[]] w fun e w' => e = .returned (.func (.func 34) #[] #[]) ∧ w' = w := by
  go_enter Try.func32, Try.ntmps32
  go_wp2
  go_ret
  exact ⟨rfl, rfl⟩
set_option maxHeartbeats 400000 in
theorem asks_soft (c k : Int) (a0 : Option Addr) (len cap : Nat) (E : Addr) (w : World) : Calls Try.prog 25 #[.agg #[.bool false, .int .i64 c, .int .i64 k], .slice a0 len cap, .pointer (some E)] w fun e w' =>
    e = .returned (.func (.func 35) #[] #[.pointer (some ⟨w.heap.size + 1, 0, none⟩), .pointer (some ⟨w.heap.size + 1 + 1 + 1, 0, none⟩), .pointer (some ⟨w.heap.size + 1 + 1, 0, none⟩)]) ∧
    Below w.heap.size w w' ∧ w'.cell? ⟨w.heap.size + 1, 0, none⟩ = some (.slice a0 len cap) ∧ w'.cell? ⟨w.heap.size + 1 + 1, 0, none⟩ = some (.pointer (some E)) ∧ w'.cell? ⟨w.heap.size + 1 + 1 + 1, 0, none⟩ = some (.func (.func 34) #[] #[]) := by
  have hmf : ∀ (fn : Fn) (first cap : Array Value) (w : World), (Instr.makeFunc fn first cap).run Try.prog w = .ok (.func fn first cap) w := fun _ _ _ _ => rfl
  have PK := Lib.hid pick_soft
  go_enter Try.func25, Try.ntmps25
  go_wp2_with (go_at_call 32; refine (PK.out _).mono ?_; rintro e w' ⟨rfl, rfl⟩)
  go_ret
  exact ⟨rfl, bel_alloc (bel_alloc (bel_alloc (bel_alloc (Below.refl _ _)))), by go_simp, by go_simp, by go_simp⟩

theorem asked_kept {hard : Bool} {ps : List P3} {E : Addr} {ys : List A20} {U V : World} (h : AskedAll hard ps E ys U) (k : ∀ v, U.cell? E = some v → V.cell? E = some v) : AskedAll hard ps E ys V := by
  rcases h with ⟨a, b, c⟩ | ⟨a, c⟩
  · exact .inl ⟨a, b, k _ c⟩
  · exact .inr ⟨a, k _ c⟩
/-- what Load hands back. -/
def admitLoad (hard : Bool) (ps : List P3) : Value := if allMay ps = true then .tuple #[.int .i64 ((asked hard ps).1 : Nat), .int .i64 ((asked hard ps).2 : Nat), .int .i64 0] else .tuple #[.int .i64 0, .int .i64 0, .int .i64 1]

theorem hands_hard (Bs Ba Be : Nat) (E : Addr) (a0 : Option Addr) (len cap : Nat) (ps : List P3) (w : World) (h : ParamRow w (.slice a0 len cap) ps) (hl : ps.length ≤ 1000)
    (cS : w.cell? ⟨Bs, 0, none⟩ = some (.slice a0 len cap)) (cA : w.cell? ⟨Ba, 0, none⟩ = some (.func (.func 33) #[] #[])) (cE : w.cell? ⟨Be, 0, none⟩ = some (.pointer (some E))) (e0 : w.cell? E = some (.int .i64 0)) (ef : w.frozen? E = false)
    (W : World) (hW : Below w.heap.size w W) : Hands Try.prog 35 #[.pointer (some ⟨Bs, 0, none⟩), .pointer (some ⟨Ba, 0, none⟩), .pointer (some ⟨Be, 0, none⟩)] out20 w.heap.size E (AskedAll true ps E) (fun _ => True) 1000 W := by
  intro l J Jx W2 hW2 gJ sJ hY h0
  have hB := hW.trans hW2
  have kS := (hB.cell (p := ⟨Bs, 0, none⟩) (cell_lt cS)).trans cS
  have kA := (hB.cell (p := ⟨Ba, 0, none⟩) (cell_lt cA)).trans cA
  have kE := (hB.cell (p := ⟨Be, 0, none⟩) (cell_lt cE)).trans cE
  have lE : E.block < w.heap.size := by obtain ⟨b, o, s⟩ := E; exact cell_lt e0
  have ke := (hB.cell (p := E) lE).trans e0
  have kf := (hB.frozen (p := E) lE).trans ef
  rcases h with ⟨a, cap', e, rfl⟩ | ⟨b, off, cap', e, hlt, _, hc⟩
  · cases e
    exact (asks_dense0 l Bs Ba Be cap a0 E W2 kS ke J h0).mono fun e V ⟨he, hj⟩ => ⟨he, .inl hj⟩
  · cases e
    exact asks_dense l Bs Ba Be w.heap.size b off cap E ps hl hlt (cell_lt cS) (cell_lt cA) (cell_lt cE) lE W2 hB.size kS kA kE ke kf
      (fun j hj => ⟨(hB.cell (p := ⟨b, off + j * 3, none⟩) hlt).trans (hc j hj).1, (hB.cell (p := ⟨b, off + j * 3 + 1, none⟩) hlt).trans (hc j hj).2.1, (hB.cell (p := ⟨b, off + j * 3 + 2, none⟩) hlt).trans (hc j hj).2.2⟩) J Jx gJ sJ hY h0

set_option maxRecDepth 100000 in
set_option maxHeartbeats 1000000 in
theorem load_hard (c k : Int) (hr : RuleMay c k) (a0 : Option Addr) (len cap : Nat) (ps : List P3) (w : World) (h : ParamRow w (.slice a0 len cap) ps) (hl : ps.length ≤ 1000) :
    Calls Try.prog 10 #[.agg #[.bool true, .int .i64 c, .int .i64 k], .slice a0 len cap] w (Gives (admitLoad true ps) w) := by
  have C := Lib.hid (acheck_ok true c k hr)
  have HP := Lib.hid h
  unfold ruleBox at C
  have A := Lib.hid (asks_hard c k a0 len cap)
  clear h hr
  go_enter Try.func10, Try.ntmps10
  go_wp2_with fail
  refine (C.out _).mono ?_
  rintro e w1 ⟨rfl, rfl⟩
  go_wp2_with fail
  refine (A.out _ _).mono ?_
  rintro e w3 ⟨rfl, b3, cS, cE, cA⟩
  simp only [World.size_alloc] at cS cE cA
  have e0 : w3.cell? ⟨w.heap.size + 1 + 1, 0, none⟩ = some (.int .i64 0) := (b3.cell (p := ⟨w.heap.size + 1 + 1, 0, none⟩) (by simp)).trans (by go_simp)
  have ef : w3.frozen? ⟨w.heap.size + 1 + 1, 0, none⟩ = false := (b3.frozen (p := ⟨w.heap.size + 1 + 1, 0, none⟩) (by simp)).trans (by go_simp)
  have bw3 := bel_end (bel_alloc (bel_alloc (bel_alloc (Below.refl w.heap.size w)))) b3
  have lE : w.heap.size + 1 + 1 < w3.heap.size := cell_lt e0
  have SU := Lib.hid (callsIn_wide.1 (sums_hands 35 _ ⟨w.heap.size + 1 + 1, 0, none⟩ (AskedAll true ps ⟨w.heap.size + 1 + 1, 0, none⟩) w3 (enters_of Try.func35 (by kernel_rfl) rfl) lE
    (fun ys U V hs hb => asked_kept hs fun v hv => (hb.cell (p := ⟨w.heap.size + 1 + 1, 0, none⟩) (cell_lt hv)).trans hv)
    (fun ys U l o o' hs hl' hc _ => asked_kept hs fun v hv => put_cell hv hl' hc)
    (fun ys U a v hs hle => asked_kept hs fun u hv => (other_cell (by simp only; omega)).trans hv)
    (hands_hard _ _ _ ⟨w.heap.size + 1 + 1, 0, none⟩ a0 len cap ps w3 (HP.out.below bw3) hl cS cA cE e0 ef)))
  have HB := Lib.hid bw3
  clear cS cE cA e0 ef bw3 b3 A C HP
  go_wp2_with fail
  refine SU.out.mono ?_
  rintro e w4 ⟨ys, hS, rfl, b4⟩
  have HB4 := Lib.hid (HB.out.trans (b4.mono (show w.heap.size ≤ w.heap.size + 1 + 1 by omega)))
  clear b4 SU
  rcases hS with ⟨ha, rfl, ce⟩ | ⟨ha, ce⟩
  · rw [come_asked ha]
    have hv : Hid (admitLoad true ps = .tuple #[.int .i64 ((asked true ps).1 : Nat), .int .i64 ((asked true ps).2 : Nat), .int .i64 0]) := by show _ = _; unfold admitLoad; rw [if_pos ha]
    clear ha
    generalize asked true ps = q at *
    go_wp2_with fail
    go_ret3
    exact ⟨ret1 (by rw [hv.out]; rfl), HB4.out⟩
  · have hv : Hid (admitLoad true ps = .tuple #[.int .i64 0, .int .i64 0, .int .i64 1]) := by show _ = _; unfold admitLoad; rw [if_neg (by rw [ha]; decide)]
    clear ha
    generalize sums20 ys = q at *
    go_wp2_with fail
    go_region
    all_goals go_wp2_with fail
    all_goals go_ret3
    all_goals exact ⟨ret1 (by rw [hv.out]; rfl), HB4.out.drew⟩

theorem hands_soft (Bs Ba Be : Nat) (E : Addr) (a0 : Option Addr) (len cap : Nat) (ps : List P3) (w : World) (h : ParamRow w (.slice a0 len cap) ps) (hl : ps.length ≤ 1000)
    (cS : w.cell? ⟨Bs, 0, none⟩ = some (.slice a0 len cap)) (cA : w.cell? ⟨Ba, 0, none⟩ = some (.func (.func 34) #[] #[])) (cE : w.cell? ⟨Be, 0, none⟩ = some (.pointer (some E))) (e0 : w.cell? E = some (.int .i64 0)) (ef : w.frozen? E = false)
    (W : World) (hW : Below w.heap.size w W) : Hands Try.prog 35 #[.pointer (some ⟨Bs, 0, none⟩), .pointer (some ⟨Ba, 0, none⟩), .pointer (some ⟨Be, 0, none⟩)] out20 w.heap.size E (AskedAll false ps E) (fun _ => True) 1000 W := by
  intro l J Jx W2 hW2 gJ sJ hY h0
  have hB := hW.trans hW2
  have kS := (hB.cell (p := ⟨Bs, 0, none⟩) (cell_lt cS)).trans cS
  have kA := (hB.cell (p := ⟨Ba, 0, none⟩) (cell_lt cA)).trans cA
  have kE := (hB.cell (p := ⟨Be, 0, none⟩) (cell_lt cE)).trans cE
  have lE : E.block < w.heap.size := by obtain ⟨b, o, s⟩ := E; exact cell_lt e0
  have ke := (hB.cell (p := E) lE).trans e0
  have kf := (hB.frozen (p := E) lE).trans ef
  rcases h with ⟨a, cap', e, rfl⟩ | ⟨b, off, cap', e, hlt, _, hc⟩
  · cases e
    exact (asks_use0 l Bs Ba Be cap a0 E W2 kS ke J h0).mono fun e V ⟨he, hj⟩ => ⟨he, .inl hj⟩
  · cases e
    exact asks_use l Bs Ba Be w.heap.size b off cap E ps hl hlt (cell_lt cS) (cell_lt cA) (cell_lt cE) lE W2 hB.size kS kA kE ke kf
      (fun j hj => ⟨(hB.cell (p := ⟨b, off + j * 3, none⟩) hlt).trans (hc j hj).1, (hB.cell (p := ⟨b, off + j * 3 + 1, none⟩) hlt).trans (hc j hj).2.1, (hB.cell (p := ⟨b, off + j * 3 + 2, none⟩) hlt).trans (hc j hj).2.2⟩) J Jx gJ sJ hY h0

set_option maxRecDepth 100000 in
set_option maxHeartbeats 1000000 in
theorem load_soft (c k : Int) (hr : RuleMay c k) (a0 : Option Addr) (len cap : Nat) (ps : List P3) (w : World) (h : ParamRow w (.slice a0 len cap) ps) (hl : ps.length ≤ 1000) :
    Calls Try.prog 10 #[.agg #[.bool false, .int .i64 c, .int .i64 k], .slice a0 len cap] w (Gives (admitLoad false ps) w) := by
  have C := Lib.hid (acheck_ok false c k hr)
  have HP := Lib.hid h
  unfold ruleBox at C
  have A := Lib.hid (asks_soft c k a0 len cap)
  clear h hr
  go_enter Try.func10, Try.ntmps10
  go_wp2_with fail
  refine (C.out _).mono ?_
  rintro e w1 ⟨rfl, rfl⟩
  go_wp2_with fail
  refine (A.out _ _).mono ?_
  rintro e w3 ⟨rfl, b3, cS, cE, cA⟩
  simp only [World.size_alloc] at cS cE cA
  have e0 : w3.cell? ⟨w.heap.size + 1 + 1, 0, none⟩ = some (.int .i64 0) := (b3.cell (p := ⟨w.heap.size + 1 + 1, 0, none⟩) (by simp)).trans (by go_simp)
  have ef : w3.frozen? ⟨w.heap.size + 1 + 1, 0, none⟩ = false := (b3.frozen (p := ⟨w.heap.size + 1 + 1, 0, none⟩) (by simp)).trans (by go_simp)
  have bw3 := bel_end (bel_alloc (bel_alloc (bel_alloc (Below.refl w.heap.size w)))) b3
  have lE : w.heap.size + 1 + 1 < w3.heap.size := cell_lt e0
  have SU := Lib.hid (callsIn_wide.1 (sums_hands 35 _ ⟨w.heap.size + 1 + 1, 0, none⟩ (AskedAll false ps ⟨w.heap.size + 1 + 1, 0, none⟩) w3 (enters_of Try.func35 (by kernel_rfl) rfl) lE
    (fun ys U V hs hb => asked_kept hs fun v hv => (hb.cell (p := ⟨w.heap.size + 1 + 1, 0, none⟩) (cell_lt hv)).trans hv)
    (fun ys U l o o' hs hl' hc _ => asked_kept hs fun v hv => put_cell hv hl' hc)
    (fun ys U a v hs hle => asked_kept hs fun u hv => (other_cell (by simp only; omega)).trans hv)
    (hands_soft _ _ _ ⟨w.heap.size + 1 + 1, 0, none⟩ a0 len cap ps w3 (HP.out.below bw3) hl cS cA cE e0 ef)))
  have HB := Lib.hid bw3
  clear cS cE cA e0 ef bw3 b3 A C HP
  go_wp2_with fail
  refine SU.out.mono ?_
  rintro e w4 ⟨ys, hS, rfl, b4⟩
  have HB4 := Lib.hid (HB.out.trans (b4.mono (show w.heap.size ≤ w.heap.size + 1 + 1 by omega)))
  clear b4 SU
  rcases hS with ⟨ha, rfl, ce⟩ | ⟨ha, ce⟩
  · rw [come_asked ha]
    have hv : Hid (admitLoad false ps = .tuple #[.int .i64 ((asked false ps).1 : Nat), .int .i64 ((asked false ps).2 : Nat), .int .i64 0]) := by show _ = _; unfold admitLoad; rw [if_pos ha]
    clear ha
    generalize asked false ps = q at *
    go_wp2_with fail
    go_ret3
    exact ⟨ret1 (by rw [hv.out]; rfl), HB4.out⟩
  · have hv : Hid (admitLoad false ps = .tuple #[.int .i64 0, .int .i64 0, .int .i64 1]) := by show _ = _; unfold admitLoad; rw [if_neg (by rw [ha]; decide)]
    clear ha
    generalize sums20 ys = q at *
    go_wp2_with fail
    go_region
    all_goals go_wp2_with fail
    all_goals go_ret3
    all_goals exact ⟨ret1 (by rw [hv.out]; rfl), HB4.out.drew⟩

theorem load_bad (hard : Bool) (c k : Int) (hr : ¬ RuleMay c k) (a0 : Option Addr) (len cap : Nat) (w : World) :
    Calls Try.prog 10 #[.agg #[.bool hard, .int .i64 c, .int .i64 k], .slice a0 len cap] w (Gives (.tuple #[.int .i64 0, .int .i64 0, .int .i64 1]) w) := by
  have C := Lib.hid (acheck_bad hard c k hr)
  unfold ruleBox at C
  clear hr
  go_enter Try.func10, Try.ntmps10
  go_wp2_with fail
  refine (C.out _).mono ?_
  rintro e w1 ⟨rfl, rfl⟩
  go_wp2_with fail
  go_ret3
  exact ⟨rfl, bel_alloc (bel_alloc (Below.refl _ _))⟩
/-- what Load hands back, of any rule. -/
def loadRule (hard : Bool) (c k : Int) (ps : List P3) : Value := if RuleMay c k then admitLoad hard ps else .tuple #[.int .i64 0, .int .i64 0, .int .i64 1]
theorem row_slice {w : World} {v : Value} {ps : List P3} (h : ParamRow w v ps) : ∃ a len cap, v = .slice a len cap := by
  rcases h with ⟨a, cap, rfl, _⟩ | ⟨b, off, cap, rfl, _⟩ <;> exact ⟨_, _, _, rfl⟩
theorem load_any (hard : Bool) (c k : Int) (v : Value) (ps : List P3) (w : World) (h : ParamRow w v ps) (hl : ps.length ≤ 1000) :
    Calls Try.prog 10 #[.agg #[.bool hard, .int .i64 c, .int .i64 k], v] w (Gives (loadRule hard c k ps) w) := by
  obtain ⟨a, len, cap, rfl⟩ := row_slice h
  unfold loadRule
  by_cases hr : RuleMay c k
  · rw [if_pos hr]
    cases hard
    · exact load_soft c k hr a len cap ps w h hl
    · exact load_hard c k hr a len cap ps w h hl
  · rw [if_neg hr]
    exact load_bad hard c k hr a len cap w
end Go.Proofs.Ytoagdaenbanhlaa
