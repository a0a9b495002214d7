/- What admit.Check, Bound, Load and Test answer of any rule and any slice of params (up to 1000). What admit.Test and Room answer of any rule and any slice of params (up to 1000), and that the chapter's example answers true. What is owed, in plain words. No condition. A ledger in plain words: its state, and what each call makes of it. A slice of calls: how it comes in. Each theorem's premises are its conditions. -/
import Derived.Test.YtmcilmmnpolieaaK11
import Derived.Test.YtmcilmmnpolieaaK13
import Derived.Test.YtmcilmmnpolieaaK14
import Derived.Test.YtmcilmmnpolieaaK17
import Derived.Shelf.Abstract
import Derived.Laws.EntriesVeiled
import Derived.CallsIn
/- What admit.Check, Bound, Load and Test answer of any rule and any slice of params (up to 1000). Each theorem's premises are its conditions. -/
namespace Go.Proofs.Ytmcilmmnpolieaa
open Go.RowKit Go.Shelf

set_option maxHeartbeats 400000 in
theorem acheck_ok (hard : Bool) (c k : Int) (h : RuleMay c k) (w : World) : Calls Try.prog 40 #[.agg #[.bool hard, .int .i64 c, .int .i64 k]] w fun e w' => e = .returned (.int .i64 0) ∧ w' = w.alloc (ruleBox hard c k) := by
  obtain ⟨h1, h2, h3, h4⟩ := h
  unfold ruleBox
  go_enter Try.func40, Try.ntmps40
  go_wp2
  go_ret
  exact ⟨rfl, rfl⟩
set_option maxHeartbeats 400000 in
theorem acheck_bad (hard : Bool) (c k : Int) (h : ¬ RuleMay c k) (w : World) : Calls Try.prog 40 #[.agg #[.bool hard, .int .i64 c, .int .i64 k]] w fun e w' => e = .returned (.int .i64 1) ∧ w' = w.alloc (ruleBox hard c k) := by
  unfold RuleMay at h
  unfold ruleBox
  by_cases h1 : c < 0
  · have d0 : decide (c < 0) = true := decide_eq_true h1
    clear h h1
    go_enter Try.func40, Try.ntmps40
    go_wp2
    go_ret
    exact ⟨rfl, rfl⟩
  have d0 : decide (c < 0) = false := decide_eq_false h1
  by_cases h2 : 1048576 < c
  · have d1 : decide (1048576 < c) = true := decide_eq_true h2
    clear h h1 h2
    go_enter Try.func40, Try.ntmps40
    go_wp2
    go_ret
    exact ⟨rfl, rfl⟩
  have d1 : decide (1048576 < c) = false := decide_eq_false h2
  by_cases h3 : k < 1
  · have d2 : decide (k < 1) = true := decide_eq_true h3
    clear h h1 h2 h3
    go_enter Try.func40, Try.ntmps40
    go_wp2
    go_ret
    exact ⟨rfl, rfl⟩
  have d2 : decide (k < 1) = false := decide_eq_false h3
  have d3 : decide (16 < k) = true := decide_eq_true (by omega)
  clear h h1 h2 h3
  go_enter Try.func40, Try.ntmps40
  go_wp2
  go_ret
  exact ⟨rfl, rfl⟩
/-- what Check says of a rule. -/
def ruleErr (c k : Int) : Int := if RuleMay c k then 0 else 1
theorem acheck_any (hard : Bool) (c k : Int) (w : World) : Calls Try.prog 40 #[.agg #[.bool hard, .int .i64 c, .int .i64 k]] w fun e w' => e = .returned (.int .i64 (ruleErr c k)) ∧ w' = w.alloc (ruleBox hard c k) := by
  unfold ruleErr
  by_cases h : RuleMay c k
  · rw [if_pos h]; exact acheck_ok hard c k h w
  · rw [if_neg h]; exact acheck_bad hard c k h w

/-- what Bound hands back. -/
def boundVal (hard : Bool) (c k m : Int) : Value :=
  if RuleMay c k then (if m < 0 ∨ 1048576 < m then .tuple #[.int .i64 0, .int .i64 10] else .tuple #[.int .i64 (boundOf hard c k m), .int .i64 0]) else .tuple #[.int .i64 0, .int .i64 1]
set_option maxHeartbeats 1000000 in
theorem bound_any (hard : Bool) (c k m : Int) (w : World) : Calls Try.prog 43 #[.agg #[.bool hard, .int .i64 c, .int .i64 k], .int .i64 m] w (Gives (boundVal hard c k m) w) := by
  unfold boundVal
  by_cases h : RuleMay c k
  · have C := Lib.hid (acheck_ok hard c k h)
    unfold ruleBox at C
    rw [if_pos h]
    by_cases h1 : m < 0
    · rw [if_pos (.inl h1)]
      clear h
      go_enter Try.func43, Try.ntmps43
      go_wp2_with (go_at_call 40; refine (C.out _).mono ?_; rintro e w' ⟨rfl, rfl⟩)
      go_ret2
      exact ⟨rfl, bel_alloc (bel_alloc (Below.refl _ _))⟩
    · by_cases h2 : 1048576 < m
      · rw [if_pos (.inr h2)]
        clear h
        go_enter Try.func43, Try.ntmps43
        go_wp2_with (go_at_call 40; refine (C.out _).mono ?_; rintro e w' ⟨rfl, rfl⟩)
        go_ret2
        exact ⟨rfl, bel_alloc (bel_alloc (Below.refl _ _))⟩
      · rw [if_neg (by omega)]
        obtain ⟨r1, r2, r3, r4⟩ := h
        have d1 : decide (m < 0) = false := decide_eq_false h1
        have d2 : decide (1048576 < m) = false := decide_eq_false h2
        cases hard with
        | false =>
          rw [boundOf_soft]
          obtain ⟨p1, p2⟩ := mul_small (a := c) (b := k) (by omega) (by omega) (A := 1048576) (B := 16) (by omega) (by omega)
          have M := Lib.hid (mul_any c k (by omega) (by omega))
          rw [(mulRes_fit (a := c) (b := k) (by omega)).1, (mulRes_fit (a := c) (b := k) (by omega)).2] at M
          generalize c * k = p at *
          clear p1 p2
          go_enter Try.func43, Try.ntmps43
          go_wp2_with (go_at_call 40; refine (C.out _).mono ?_; rintro e w' ⟨rfl, rfl⟩)
          refine (M.out _).mono ?_
          rintro e w1 ⟨rfl, rfl⟩
          go_wp2_with fail
          go_ret2
          exact ⟨rfl, bel_alloc (bel_alloc (Below.refl _ _))⟩
        | true =>
          rw [boundOf_hard]
          obtain ⟨p1, p2⟩ := mul_small (a := k - 1) (b := m) (by omega) (by omega) (A := 15) (B := 1048576) (by omega) (by omega)
          obtain ⟨M, hM⟩ : ∃ M, (k - 1) * m = M := ⟨_, rfl⟩
          rw [hM] at p1 p2
          rw [hM]
          simp only [Nat.reduceMul, Int.cast_ofNat_Int] at p2
          go_enter Try.func43, Try.ntmps43
          go_wp2_with (go_at_call 40; refine (C.out _).mono ?_; rintro e w' ⟨rfl, rfl⟩)
          go_ret2
          exact ⟨rfl, bel_alloc (bel_alloc (Below.refl _ _))⟩
  · have C := Lib.hid (acheck_bad hard c k h)
    unfold ruleBox at C
    rw [if_neg h]
    clear h
    go_enter Try.func43, Try.ntmps43
    go_wp2_with (go_at_call 40; refine (C.out _).mono ?_; rintro e w' ⟨rfl, rfl⟩)
    go_ret2
    exact ⟨rfl, bel_alloc (bel_alloc (Below.refl _ _))⟩

/-! ### Load -/
theorem fold20_map : ∀ (l : List A20) (s : Nat × Nat), l.foldl (fun s x => (s.1 + x.1, max s.2 x.1)) s = (l.map (·.1)).foldl (fun s x => (s.1 + x, max s.2 x)) s
  | [], _ => rfl
  | x :: l, s => by rw [List.foldl_cons, List.map_cons, List.foldl_cons]; exact fold20_map l _
theorem sumGo2_map (hard : Bool) : ∀ (l : List P3) (s : Nat × Nat), sumGo2 hard s l = (l.map (askOf hard)).foldl (fun s x => (s.1 + x, max s.2 x)) s
  | [], _ => rfl
  | p :: l, s => by rw [List.map_cons, List.foldl_cons]; exact sumGo2_map hard l _
theorem come_ask {hard : Bool} {ps : List P3} (h : allMay ps = true) : (come (askAt hard ps) ps.length).map (·.1) = ps.map (askOf hard) := by
  apply List.ext_getElem
  · simp [come]
  · intro i h1 h2
    have hi : i < ps.length := by simpa using h2
    have e := askAt_ok (hard := hard) (allMay_at h hi)
    have e2 : ps.getD i p0 = ps[i] := by simp [List.getD, hi]
    rw [e2] at e
    simpa [come] using e
theorem come_asked {hard : Bool} {ps : List P3} (h : allMay ps = true) : sums20 (come (askAt hard ps) ps.length) = asked hard ps := by
  unfold sums20 asked
  rw [fold20_map, come_ask h, sumGo2_map]

def fval (g : FuncId) : Value := .func (.func g) #[] #[]
theorem pick_hard (w : World) : Calls Try.prog 55 #[.bool true, .func (.func 56) #[] #[], .func (.func 57) #[] #[]] w fun e w' => e = .returned (.func (.func 56) #[] #[]) ∧ w' = w := by
  go_enter Try.func55, Try.ntmps55
  go_wp2
  go_ret
  exact ⟨rfl, rfl⟩
set_option maxHeartbeats 400000 in
theorem asks_hard (c k : Int) (a0 : Option Addr) (len cap : Nat) (E : Addr) (w : World) : Calls Try.prog 42 #[.agg #[.bool true, .int .i64 c, .int .i64 k], .slice a0 len cap, .pointer (some E)] w fun e w' =>
    e = .returned (.func (.func 58) #[] #[.pointer (some ⟨w.heap.size + 1, 0, none⟩), .pointer (some ⟨w.heap.size + 1 + 1 + 1, 0, none⟩), .pointer (some ⟨w.heap.size + 1 + 1, 0, none⟩)]) ∧
    Below w.heap.size w w' ∧ w'.cell? ⟨w.heap.size + 1, 0, none⟩ = some (.slice a0 len cap) ∧ w'.cell? ⟨w.heap.size + 1 + 1, 0, none⟩ = some (.pointer (some E)) ∧ w'.cell? ⟨w.heap.size + 1 + 1 + 1, 0, none⟩ = some (.func (.func 56) #[] #[]) := by
  have hmf : ∀ (fn : Fn) (first cap : Array Value) (w : World), (Instr.makeFunc fn first cap).run Try.prog w = .ok (.func fn first cap) w := fun _ _ _ _ => rfl
  have PK := Lib.hid pick_hard
  go_enter Try.func42, Try.ntmps42
  go_wp2_with (go_at_call 55; refine (PK.out _).mono ?_; rintro e w' ⟨rfl, rfl⟩)
  go_ret
  exact ⟨rfl, bel_alloc (bel_alloc (bel_alloc (bel_alloc (Below.refl _ _)))), by go_simp, by go_simp, by go_simp⟩
theorem pick_soft (w : World) : Calls Try.prog 55 #[.bool false, .func (.func 56) #[] #[], .func (.func 57) #[] #[]] w fun e w' => e = .returned (.func (.func 57) #[] #[]) ∧ w' = w := by
  go_enter Try.func55, Try.ntmps55
  go_wp2
  go_ret
  exact ⟨rfl, rfl⟩
set_option maxHeartbeats 400000 in
theorem asks_soft (c k : Int) (a0 : Option Addr) (len cap : Nat) (E : Addr) (w : World) : Calls Try.prog 42 #[.agg #[.bool false, .int .i64 c, .int .i64 k], .slice a0 len cap, .pointer (some E)] w fun e w' =>
    e = .returned (.func (.func 58) #[] #[.pointer (some ⟨w.heap.size + 1, 0, none⟩), .pointer (some ⟨w.heap.size + 1 + 1 + 1, 0, none⟩), .pointer (some ⟨w.heap.size + 1 + 1, 0, none⟩)]) ∧
    Below w.heap.size w w' ∧ w'.cell? ⟨w.heap.size + 1, 0, none⟩ = some (.slice a0 len cap) ∧ w'.cell? ⟨w.heap.size + 1 + 1, 0, none⟩ = some (.pointer (some E)) ∧ w'.cell? ⟨w.heap.size + 1 + 1 + 1, 0, none⟩ = some (.func (.func 57) #[] #[]) := by
  have hmf : ∀ (fn : Fn) (first cap : Array Value) (w : World), (Instr.makeFunc fn first cap).run Try.prog w = .ok (.func fn first cap) w := fun _ _ _ _ => rfl
  have PK := Lib.hid pick_soft
  go_enter Try.func42, Try.ntmps42
  go_wp2_with (go_at_call 55; refine (PK.out _).mono ?_; rintro e w' ⟨rfl, rfl⟩)
  go_ret
  exact ⟨rfl, bel_alloc (bel_alloc (bel_alloc (bel_alloc (Below.refl _ _)))), by go_simp, by go_simp, by go_simp⟩

theorem asked_kept {hard : Bool} {ps : List P3} {E : Addr} {ys : List A20} {U V : World} (h : AskedAll hard ps E ys U) (k : ∀ v, U.cell? E = some v → V.cell? E = some v) : AskedAll hard ps E ys V := by
  rcases h with ⟨a, b, c⟩ | ⟨a, c⟩
  · exact .inl ⟨a, b, k _ c⟩
  · exact .inr ⟨a, k _ c⟩
/-- what Load hands back. -/
def admitLoad (hard : Bool) (ps : List P3) : Value := if allMay ps = true then .tuple #[.int .i64 ((asked hard ps).1 : Nat), .int .i64 ((asked hard ps).2 : Nat), .int .i64 0] else .tuple #[.int .i64 0, .int .i64 0, .int .i64 1]

theorem hands_hard (Bs Ba Be : Nat) (E : Addr) (a0 : Option Addr) (len cap : Nat) (ps : List P3) (w : World) (h : ParamRow w (.slice a0 len cap) ps) (hl : ps.length ≤ 1000)
    (cS : w.cell? ⟨Bs, 0, none⟩ = some (.slice a0 len cap)) (cA : w.cell? ⟨Ba, 0, none⟩ = some (.func (.func 56) #[] #[])) (cE : w.cell? ⟨Be, 0, none⟩ = some (.pointer (some E))) (e0 : w.cell? E = some (.int .i64 0)) (ef : w.frozen? E = false)
    (W : World) (hW : Below w.heap.size w W) : Hands Try.prog 58 #[.pointer (some ⟨Bs, 0, none⟩), .pointer (some ⟨Ba, 0, none⟩), .pointer (some ⟨Be, 0, none⟩)] out20 w.heap.size E (AskedAll true ps E) (fun _ => True) 1000 W := by
  intro l J Jx W2 hW2 gJ sJ hY h0
  have hB := hW.trans hW2
  have kS := (hB.cell (p := ⟨Bs, 0, none⟩) (cell_lt cS)).trans cS
  have kA := (hB.cell (p := ⟨Ba, 0, none⟩) (cell_lt cA)).trans cA
  have kE := (hB.cell (p := ⟨Be, 0, none⟩) (cell_lt cE)).trans cE
  have lE : E.block < w.heap.size := by obtain ⟨b, o, s⟩ := E; exact cell_lt e0
  have ke := (hB.cell (p := E) lE).trans e0
  have kf := (hB.frozen (p := E) lE).trans ef
  rcases h with ⟨a, cap', e, rfl⟩ | ⟨b, off, cap', e, hlt, _, hc⟩
  · cases e
    exact (asks_dense0 l Bs Ba Be cap a0 E W2 kS ke J h0).mono fun e V ⟨he, hj⟩ => ⟨he, .inl hj⟩
  · cases e
    exact asks_dense l Bs Ba Be w.heap.size b off cap E ps hl hlt (cell_lt cS) (cell_lt cA) (cell_lt cE) lE W2 hB.size kS kA kE ke kf
      (fun j hj => ⟨(hB.cell (p := ⟨b, off + j * 3, none⟩) hlt).trans (hc j hj).1, (hB.cell (p := ⟨b, off + j * 3 + 1, none⟩) hlt).trans (hc j hj).2.1, (hB.cell (p := ⟨b, off + j * 3 + 2, none⟩) hlt).trans (hc j hj).2.2⟩) J Jx gJ sJ hY h0

set_option maxRecDepth 100000 in
set_option maxHeartbeats 1000000 in
theorem load_hard (c k : Int) (hr : RuleMay c k) (a0 : Option Addr) (len cap : Nat) (ps : List P3) (w : World) (h : ParamRow w (.slice a0 len cap) ps) (hl : ps.length ≤ 1000) :
    Calls Try.prog 22 #[.agg #[.bool true, .int .i64 c, .int .i64 k], .slice a0 len cap] w (Gives (admitLoad true ps) w) := by
  have C := Lib.hid (acheck_ok true c k hr)
  have HP := Lib.hid h
  unfold ruleBox at C
  have A := Lib.hid (asks_hard c k a0 len cap)
  clear h hr
  go_enter Try.func22, Try.ntmps22
  go_wp2_with fail
  refine (C.out _).mono ?_
  rintro e w1 ⟨rfl, rfl⟩
  go_wp2_with fail
  refine (A.out _ _).mono ?_
  rintro e w3 ⟨rfl, b3, cS, cE, cA⟩
  simp only [World.size_alloc] at cS cE cA
  have e0 : w3.cell? ⟨w.heap.size + 1 + 1, 0, none⟩ = some (.int .i64 0) := (b3.cell (p := ⟨w.heap.size + 1 + 1, 0, none⟩) (by simp)).trans (by go_simp)
  have ef : w3.frozen? ⟨w.heap.size + 1 + 1, 0, none⟩ = false := (b3.frozen (p := ⟨w.heap.size + 1 + 1, 0, none⟩) (by simp)).trans (by go_simp)
  have bw3 := bel_end (bel_alloc (bel_alloc (bel_alloc (Below.refl w.heap.size w)))) b3
  have lE : w.heap.size + 1 + 1 < w3.heap.size := cell_lt e0
  have SU := Lib.hid (callsIn_wide.1 (sums_hands 58 _ ⟨w.heap.size + 1 + 1, 0, none⟩ (AskedAll true ps ⟨w.heap.size + 1 + 1, 0, none⟩) w3 (enters_of Try.func58 (by kernel_rfl) rfl) lE
    (fun ys U V hs hb => asked_kept hs fun v hv => (hb.cell (p := ⟨w.heap.size + 1 + 1, 0, none⟩) (cell_lt hv)).trans hv)
    (fun ys U l o o' hs hl' hc _ => asked_kept hs fun v hv => put_cell hv hl' hc)
    (fun ys U a v hs hle => asked_kept hs fun u hv => (other_cell (by simp only; omega)).trans hv)
    (hands_hard _ _ _ ⟨w.heap.size + 1 + 1, 0, none⟩ a0 len cap ps w3 (HP.out.below bw3) hl cS cA cE e0 ef)))
  have HB := Lib.hid bw3
  clear cS cE cA e0 ef bw3 b3 A C HP
  go_wp2_with fail
  refine SU.out.mono ?_
  rintro e w4 ⟨ys, hS, rfl, b4⟩
  have HB4 := Lib.hid (HB.out.trans (b4.mono (show w.heap.size ≤ w.heap.size + 1 + 1 by omega)))
  clear b4 SU
  rcases hS with ⟨ha, rfl, ce⟩ | ⟨ha, ce⟩
  · rw [come_asked ha]
    have hv : Hid (admitLoad true ps = .tuple #[.int .i64 ((asked true ps).1 : Nat), .int .i64 ((asked true ps).2 : Nat), .int .i64 0]) := by show _ = _; unfold admitLoad; rw [if_pos ha]
    clear ha
    generalize asked true ps = q at *
    go_wp2_with fail
    go_ret3
    exact ⟨ret1 (by rw [hv.out]; rfl), HB4.out⟩
  · have hv : Hid (admitLoad true ps = .tuple #[.int .i64 0, .int .i64 0, .int .i64 1]) := by show _ = _; unfold admitLoad; rw [if_neg (by rw [ha]; decide)]
    clear ha
    generalize sums20 ys = q at *
    go_wp2_with fail
    go_region
    all_goals go_wp2_with fail
    all_goals go_ret3
    all_goals exact ⟨ret1 (by rw [hv.out]; rfl), HB4.out.drew⟩

theorem hands_soft (Bs Ba Be : Nat) (E : Addr) (a0 : Option Addr) (len cap : Nat) (ps : List P3) (w : World) (h : ParamRow w (.slice a0 len cap) ps) (hl : ps.length ≤ 1000)
    (cS : w.cell? ⟨Bs, 0, none⟩ = some (.slice a0 len cap)) (cA : w.cell? ⟨Ba, 0, none⟩ = some (.func (.func 57) #[] #[])) (cE : w.cell? ⟨Be, 0, none⟩ = some (.pointer (some E))) (e0 : w.cell? E = some (.int .i64 0)) (ef : w.frozen? E = false)
    (W : World) (hW : Below w.heap.size w W) : Hands Try.prog 58 #[.pointer (some ⟨Bs, 0, none⟩), .pointer (some ⟨Ba, 0, none⟩), .pointer (some ⟨Be, 0, none⟩)] out20 w.heap.size E (AskedAll false ps E) (fun _ => True) 1000 W := by
  intro l J Jx W2 hW2 gJ sJ hY h0
  have hB := hW.trans hW2
  have kS := (hB.cell (p := ⟨Bs, 0, none⟩) (cell_lt cS)).trans cS
  have kA := (hB.cell (p := ⟨Ba, 0, none⟩) (cell_lt cA)).trans cA
  have kE := (hB.cell (p := ⟨Be, 0, none⟩) (cell_lt cE)).trans cE
  have lE : E.block < w.heap.size := by obtain ⟨b, o, s⟩ := E; exact cell_lt e0
  have ke := (hB.cell (p := E) lE).trans e0
  have kf := (hB.frozen (p := E) lE).trans ef
  rcases h with ⟨a, cap', e, rfl⟩ | ⟨b, off, cap', e, hlt, _, hc⟩
  · cases e
    exact (asks_use0 l Bs Ba Be cap a0 E W2 kS ke J h0).mono fun e V ⟨he, hj⟩ => ⟨he, .inl hj⟩
  · cases e
    exact asks_use l Bs Ba Be w.heap.size b off cap E ps hl hlt (cell_lt cS) (cell_lt cA) (cell_lt cE) lE W2 hB.size kS kA kE ke kf
      (fun j hj => ⟨(hB.cell (p := ⟨b, off + j * 3, none⟩) hlt).trans (hc j hj).1, (hB.cell (p := ⟨b, off + j * 3 + 1, none⟩) hlt).trans (hc j hj).2.1, (hB.cell (p := ⟨b, off + j * 3 + 2, none⟩) hlt).trans (hc j hj).2.2⟩) J Jx gJ sJ hY h0

set_option maxRecDepth 100000 in
set_option maxHeartbeats 1000000 in
theorem load_soft (c k : Int) (hr : RuleMay c k) (a0 : Option Addr) (len cap : Nat) (ps : List P3) (w : World) (h : ParamRow w (.slice a0 len cap) ps) (hl : ps.length ≤ 1000) :
    Calls Try.prog 22 #[.agg #[.bool false, .int .i64 c, .int .i64 k], .slice a0 len cap] w (Gives (admitLoad false ps) w) := by
  have C := Lib.hid (acheck_ok false c k hr)
  have HP := Lib.hid h
  unfold ruleBox at C
  have A := Lib.hid (asks_soft c k a0 len cap)
  clear h hr
  go_enter Try.func22, Try.ntmps22
  go_wp2_with fail
  refine (C.out _).mono ?_
  rintro e w1 ⟨rfl, rfl⟩
  go_wp2_with fail
  refine (A.out _ _).mono ?_
  rintro e w3 ⟨rfl, b3, cS, cE, cA⟩
  simp only [World.size_alloc] at cS cE cA
  have e0 : w3.cell? ⟨w.heap.size + 1 + 1, 0, none⟩ = some (.int .i64 0) := (b3.cell (p := ⟨w.heap.size + 1 + 1, 0, none⟩) (by simp)).trans (by go_simp)
  have ef : w3.frozen? ⟨w.heap.size + 1 + 1, 0, none⟩ = false := (b3.frozen (p := ⟨w.heap.size + 1 + 1, 0, none⟩) (by simp)).trans (by go_simp)
  have bw3 := bel_end (bel_alloc (bel_alloc (bel_alloc (Below.refl w.heap.size w)))) b3
  have lE : w.heap.size + 1 + 1 < w3.heap.size := cell_lt e0
  have SU := Lib.hid (callsIn_wide.1 (sums_hands 58 _ ⟨w.heap.size + 1 + 1, 0, none⟩ (AskedAll false ps ⟨w.heap.size + 1 + 1, 0, none⟩) w3 (enters_of Try.func58 (by kernel_rfl) rfl) lE
    (fun ys U V hs hb => asked_kept hs fun v hv => (hb.cell (p := ⟨w.heap.size + 1 + 1, 0, none⟩) (cell_lt hv)).trans hv)
    (fun ys U l o o' hs hl' hc _ => asked_kept hs fun v hv => put_cell hv hl' hc)
    (fun ys U a v hs hle => asked_kept hs fun u hv => (other_cell (by simp only; omega)).trans hv)
    (hands_soft _ _ _ ⟨w.heap.size + 1 + 1, 0, none⟩ a0 len cap ps w3 (HP.out.below bw3) hl cS cA cE e0 ef)))
  have HB := Lib.hid bw3
  clear cS cE cA e0 ef bw3 b3 A C HP
  go_wp2_with fail
  refine SU.out.mono ?_
  rintro e w4 ⟨ys, hS, rfl, b4⟩
  have HB4 := Lib.hid (HB.out.trans (b4.mono (show w.heap.size ≤ w.heap.size + 1 + 1 by omega)))
  clear b4 SU
  rcases hS with ⟨ha, rfl, ce⟩ | ⟨ha, ce⟩
  · rw [come_asked ha]
    have hv : Hid (admitLoad false ps = .tuple #[.int .i64 ((asked false ps).1 : Nat), .int .i64 ((asked false ps).2 : Nat), .int .i64 0]) := by show _ = _; unfold admitLoad; rw [if_pos ha]
    clear ha
    generalize asked false ps = q at *
    go_wp2_with fail
    go_ret3
    exact ⟨ret1 (by rw [hv.out]; rfl), HB4.out⟩
  · have hv : Hid (admitLoad false ps = .tuple #[.int .i64 0, .int .i64 0, .int .i64 1]) := by show _ = _; unfold admitLoad; rw [if_neg (by rw [ha]; decide)]
    clear ha
    generalize sums20 ys = q at *
    go_wp2_with fail
    go_region
    all_goals go_wp2_with fail
    all_goals go_ret3
    all_goals exact ⟨ret1 (by rw [hv.out]; rfl), HB4.out.drew⟩

theorem load_bad (hard : Bool) (c k : Int) (hr : ¬ RuleMay c k) (a0 : Option Addr) (len cap : Nat) (w : World) :
    Calls Try.prog 22 #[.agg #[.bool hard, .int .i64 c, .int .i64 k], .slice a0 len cap] w (Gives (.tuple #[.int .i64 0, .int .i64 0, .int .i64 1]) w) := by
  have C := Lib.hid (acheck_bad hard c k hr)
  unfold ruleBox at C
  clear hr
  go_enter Try.func22, Try.ntmps22
  go_wp2_with fail
  refine (C.out _).mono ?_
  rintro e w1 ⟨rfl, rfl⟩
  go_wp2_with fail
  go_ret3
  exact ⟨rfl, bel_alloc (bel_alloc (Below.refl _ _))⟩
/-- what Load hands back, of any rule. -/
def loadRule (hard : Bool) (c k : Int) (ps : List P3) : Value := if RuleMay c k then admitLoad hard ps else .tuple #[.int .i64 0, .int .i64 0, .int .i64 1]
theorem row_slice {w : World} {v : Value} {ps : List P3} (h : ParamRow w v ps) : ∃ a len cap, v = .slice a len cap := by
  rcases h with ⟨a, cap, rfl, _⟩ | ⟨b, off, cap, rfl, _⟩ <;> exact ⟨_, _, _, rfl⟩
theorem load_any (hard : Bool) (c k : Int) (v : Value) (ps : List P3) (w : World) (h : ParamRow w v ps) (hl : ps.length ≤ 1000) :
    Calls Try.prog 22 #[.agg #[.bool hard, .int .i64 c, .int .i64 k], v] w (Gives (loadRule hard c k ps) w) := by
  obtain ⟨a, len, cap, rfl⟩ := row_slice h
  unfold loadRule
  by_cases hr : RuleMay c k
  · rw [if_pos hr]
    cases hard
    · exact load_soft c k hr a len cap ps w h hl
    · exact load_hard c k hr a len cap ps w h hl
  · rw [if_neg hr]
    exact load_bad hard c k hr a len cap w
end Go.Proofs.Ytmcilmmnpolieaa
/- What admit.Test and Room answer of any rule and any slice of params (up to 1000), and that the chapter's example answers true. Each theorem's premises are its conditions. -/
namespace Go.Proofs.Ytmcilmmnpolieaa
open Go.RowKit Go.Shelf

theorem load_ok {hard : Bool} {c k : Int} {ps : List P3} (hr : RuleMay c k) (ha : allMay ps = true) : loadRule hard c k ps = .tuple #[.int .i64 ((asked hard ps).1 : Nat), .int .i64 ((asked hard ps).2 : Nat), .int .i64 0] := by
  unfold loadRule admitLoad; rw [if_pos hr, if_pos ha]
theorem load_not {hard : Bool} {c k : Int} {ps : List P3} (h : ¬ (RuleMay c k ∧ allMay ps = true)) : loadRule hard c k ps = .tuple #[.int .i64 0, .int .i64 0, .int .i64 1] := by
  unfold loadRule admitLoad
  by_cases hr : RuleMay c k
  · rw [if_pos hr, if_neg (fun ha => h ⟨hr, ha⟩)]
  · rw [if_neg hr]
theorem bound_ok {hard : Bool} {c k m : Int} (hr : RuleMay c k) (h0 : 0 ≤ m) (h1 : m ≤ 1048576) : boundVal hard c k m = .tuple #[.int .i64 (boundOf hard c k m), .int .i64 0] := by
  unfold boundVal; rw [if_pos hr, if_neg (by omega)]
theorem test_ok {hard : Bool} {c k : Int} {ps : List P3} (hr : RuleMay c k) (ha : allMay ps = true) : testNum hard c k ps = if boundOf hard c k ((asked hard ps).2 : Nat) < (((asked hard ps).1 : Nat) : Int) then 17 else 0 := by
  unfold testNum; rw [if_pos ⟨hr, ha⟩]
theorem test_not {hard : Bool} {c k : Int} {ps : List P3} (h : ¬ (RuleMay c k ∧ allMay ps = true)) : testNum hard c k ps = 1 := by
  unfold testNum; rw [if_neg h]

set_option maxHeartbeats 1000000 in
theorem test_any (hard : Bool) (c k : Int) (v : Value) (ps : List P3) (w : World) (h : ParamRow w v ps) (hl : ps.length ≤ 1000) :
    Calls Try.prog 23 #[.agg #[.bool hard, .int .i64 c, .int .i64 k], v] w (Gives (.int .i64 (testNum hard c k ps)) w) := by
  have L := Lib.hid (load_any hard c k v ps (w.alloc (ruleBox hard c k)) (h.below (bel_alloc (Below.refl _ _))) hl)
  unfold ruleBox at L
  by_cases hg : RuleMay c k ∧ allMay ps = true
  · obtain ⟨hr, ha⟩ := hg
    rw [load_ok hr ha] at L
    obtain ⟨q1, q2⟩ := asked_bound hard ha hl
    have B := Lib.hid (bound_any hard c k ((asked hard ps).2 : Nat))
    rw [bound_ok hr (by omega) (by omega)] at B
    have hT0 := Lib.hid (test_ok (hard := hard) hr ha)
    generalize asked hard ps = q at *
    obtain ⟨S, M⟩ := q
    simp only at L B hT0 q1 q2
    generalize boundOf hard c k (M : Nat) = E at *
    clear h hl hr ha
    by_cases hE : E < (S : Int)
    · have d1 : decide (E < (S : Int)) = true := decide_eq_true hE
      have hT : Hid (testNum hard c k ps = 17) := by show _ = _; rw [hT0.out, if_pos hE]
      clear hT0
      go_enter Try.func23, Try.ntmps23
      go_wp2_with fail
      refine L.out.mono ?_
      rintro e w2 ⟨rfl, b2⟩
      have x0 := (b2.cell (p := ⟨w.heap.size, 0, none⟩) (by simp)).trans (show _ = some (Value.bool hard) by go_simp)
      have x1 := (b2.cell (p := ⟨w.heap.size, 1, none⟩) (by simp)).trans (show _ = some (Value.int .i64 c) by go_simp)
      have x2 := (b2.cell (p := ⟨w.heap.size, 2, none⟩) (by simp)).trans (show _ = some (Value.int .i64 k) by go_simp)
      have lb : w.heap.size < w2.heap.size := cell_lt x0
      have HB := Lib.hid (bel_end (bel_alloc (Below.refl w.heap.size w)) b2)
      clear b2
      go_wp2_with fail
      refine (B.out _).mono ?_
      rintro e w3 ⟨rfl, b3⟩
      go_wp2_with fail
      go_ret
      exact ⟨ret1 (by rw [hT.out]; rfl), bel_end HB.out b3⟩
    · have d1 : decide (E < (S : Int)) = false := decide_eq_false hE
      have hT : Hid (testNum hard c k ps = 0) := by show _ = _; rw [hT0.out, if_neg hE]
      clear hT0
      go_enter Try.func23, Try.ntmps23
      go_wp2_with fail
      refine L.out.mono ?_
      rintro e w2 ⟨rfl, b2⟩
      have x0 := (b2.cell (p := ⟨w.heap.size, 0, none⟩) (by simp)).trans (show _ = some (Value.bool hard) by go_simp)
      have x1 := (b2.cell (p := ⟨w.heap.size, 1, none⟩) (by simp)).trans (show _ = some (Value.int .i64 c) by go_simp)
      have x2 := (b2.cell (p := ⟨w.heap.size, 2, none⟩) (by simp)).trans (show _ = some (Value.int .i64 k) by go_simp)
      have lb : w.heap.size < w2.heap.size := cell_lt x0
      have HB := Lib.hid (bel_end (bel_alloc (Below.refl w.heap.size w)) b2)
      clear b2
      go_wp2_with fail
      refine (B.out _).mono ?_
      rintro e w3 ⟨rfl, b3⟩
      go_wp2_with fail
      go_ret
      exact ⟨ret1 (by rw [hT.out]; rfl), bel_end HB.out b3⟩
  · rw [load_not hg] at L
    have hT : Hid (testNum hard c k ps = 1) := test_not hg
    clear h hl hg
    go_enter Try.func23, Try.ntmps23
    go_wp2_with fail
    refine L.out.mono ?_
    rintro e w2 ⟨rfl, b2⟩
    go_wp2_with fail
    go_ret
    exact ⟨ret1 (by rw [hT.out]; rfl), bel_end (bel_alloc (Below.refl w.heap.size w)) b2⟩

theorem bound_range (hard : Bool) {c k : Int} (hr : RuleMay c k) {M : Nat} (hM : M ≤ 1048576) : 0 ≤ boundOf hard c k M ∧ boundOf hard c k M ≤ 16777216 ∧ (hard = true → boundOf hard c k M ≤ k * 1048576) := by
  obtain ⟨h1, h2, h3, h4⟩ := hr
  cases hard with
  | true =>
    rw [boundOf_hard]
    have p1 : 0 ≤ (k - 1) * (M : Int) := Int.mul_nonneg (by omega) (by omega)
    have p2 : (k - 1) * (M : Int) ≤ (k - 1) * 1048576 := Int.mul_le_mul_of_nonneg_left (by omega) (by omega)
    generalize (k - 1) * (M : Int) = p at *
    exact ⟨by omega, by omega, fun _ => by omega⟩
  | false =>
    rw [boundOf_soft]
    obtain ⟨p1, p2⟩ := mul_small (a := c) (b := k) (by omega) (by omega) (A := 1048576) (B := 16) (by omega) (by omega)
    generalize c * k = p at *
    exact ⟨by omega, by omega, fun h => by cases h⟩

theorem test_zero {hard : Bool} {c k : Int} {ps : List P3} (h : testNum hard c k ps = 0) : RuleMay c k ∧ allMay ps = true := by
  apply Classical.byContradiction
  intro hn
  rw [test_not hn] at h
  cases h
end Go.Proofs.Ytmcilmmnpolieaa
/- What is owed, in plain words. No condition. -/
namespace Go.Proofs.Ytmcilmmnpolieaa

/-- what is owed: of which server, until when, its params. -/
structure Ow where
  id : Int
  till : Int
  p : P3
def OwOk (o : Ow) : Prop := 0 ≤ o.id ∧ o.id < 64 ∧ 0 ≤ o.till ∧ o.till < 1099511627776
end Go.Proofs.Ytmcilmmnpolieaa
/- A ledger in plain words: its state, and what each call makes of it. Each theorem's premises are its conditions. -/
namespace Go.Proofs.Ytmcilmmnpolieaa

/-- a domain: its rule, and what it owes (in the order in which it came to be). -/
structure Dom where
  hard : Bool
  cap : Int
  wk : Int
  owed : List Ow
/-- a ledger's state: the time, domains (nd), the workers' domains (nw), the servers. -/
structure LS where
  now : Int
  nd : Nat
  dom : Nat → Dom
  nw : Nat
  wk : Nat → Nat
  srv : Nat → Option (Nat × P3)
/-- a function that is another one at one place. -/
def upd {α : Type} (f : Nat → α) (i : Nat) (v : α) : Nat → α := fun k => if k = i then v else f k
theorem upd_self {α : Type} (f : Nat → α) (i : Nat) (v : α) : upd f i v i = v := if_pos rfl
theorem upd_ne {α : Type} (f : Nat → α) (i : Nat) (v : α) {k : Nat} (h : k ≠ i) : upd f i v k = f k := if_neg h
/-- a call. -/
structure LOp where
  ask : Int
  id : Int
  d : Int
  tm : Int
  p : P3
  hard : Bool

def newLS (n : Nat) : LS := { now := 0, nd := 1, dom := fun _ => ⟨false, 1048576, n, []⟩, nw := n, wk := fun _ => 0, srv := fun _ => none }
/-- a server's params, if it is a member of d, and not the one. -/
def inD (st : LS) (d : Nat) (but : Int) (i : Nat) : Option P3 := match st.srv i with
  | some (d', p) => if d' = d ∧ (i : Int) ≠ but then some p else none
  | none => none
def members (st : LS) (d : Nat) (but : Int) (n : Nat) : List P3 := (List.range n).filterMap (inD st d but)
def allOf (st : LS) (d : Nat) (but : Int) : List P3 := members st d but 64 ++ (st.dom d).owed.map (·.p)
def passS (st : LS) (d : Int) (but : Int) (p : P3) : Int :=
  if 0 ≤ d ∧ d < st.nd then
    if (st.dom d.toNat).wk = 0 then 16 else testNum (st.dom d.toNat).hard (st.dom d.toNat).cap (st.dom d.toNat).wk (allOf st d.toNat but ++ [p])
  else 14
def clockS (n : Int) : Bool := decide (0 ≤ n) && decide (n < 1099511627776)
def joinS (st : LS) (id d : Int) (p : P3) : LS × Int :=
  if 0 ≤ id ∧ id < 64 then
    match st.srv id.toNat with
    | some _ => (st, 15)
    | none => if passS st d (-1) p = 0 then ({ st with srv := upd st.srv id.toNat (some (d.toNat, p)) }, 0) else (st, passS st d (-1) p)
  else (st, 10)
def changeS (st : LS) (id : Int) (p : P3) : LS × Int :=
  if 0 ≤ id ∧ id < 64 then
    match st.srv id.toNat with
    | some (d, _) => if passS st d id p = 0 then ({ st with srv := upd st.srv id.toNat (some (d, p)) }, 0) else (st, passS st d id p)
    | none => (st, 14)
  else (st, 10)
def owe (x : Dom) (o : Ow) : Dom := { x with owed := x.owed ++ [o] }
def leaveS (st : LS) (id tm : Int) : LS × Int :=
  if 0 ≤ id ∧ id < 64 then
    if clockS tm = true then
      match st.srv id.toNat with
      | some (d, p) => ({ st with srv := upd st.srv id.toNat none, dom := if st.now < tm then upd st.dom d (owe (st.dom d) ⟨id, tm, p⟩) else st.dom }, 0)
      | none => (st, 14)
    else (st, 10)
  else (st, 10)
def moveS (st : LS) (id d tm : Int) : LS × Int :=
  if 0 ≤ id ∧ id < 64 then
    if clockS tm = true then
      match st.srv id.toNat with
      | some (d', p) => if (d' : Int) = d then (st, 15) else if passS st d (-1) p = 0 then joinS (leaveS st id tm).1 id d p else (st, passS st d (-1) p)
      | none => (st, 14)
    else (st, 10)
  else (st, 10)
def keepOw (now : Int) (x : Dom) : Dom := { x with owed := x.owed.filter fun o => !decide (o.till ≤ now) }
/-- how many of the first n domains' are owed no more. -/
def gone (now : Int) (dom : Nat → Dom) (n : Nat) : Nat := ((List.range n).map fun i => (dom i).owed.length - (keepOw now (dom i)).owed.length).sum
def goS (st : LS) (now : Int) : LS × Int × Int :=
  if clockS now = true ∧ st.now ≤ now then ({ st with now := now, dom := fun i => if i < st.nd then keepOw now (st.dom i) else st.dom i }, (gone now st.dom st.nd : Nat), 0) else (st, 0, 10)
def addW (x : Dom) (n : Int) : Dom := { x with wk := x.wk + n }
def workerS (st : LS) (w d : Int) : LS × Int :=
  if 0 ≤ w ∧ w < st.nw then
    if 0 ≤ d ∧ d < st.nd then
      if (st.wk w.toNat : Int) = d then (st, 15) else
      if (st.dom (st.wk w.toNat)).wk - 1 = 0 ∧ 0 < (allOf st (st.wk w.toNat) (-1)).length then (st, 16) else
      if 0 < (st.dom (st.wk w.toNat)).wk - 1 ∧ testNum (st.dom (st.wk w.toNat)).hard (st.dom (st.wk w.toNat)).cap ((st.dom (st.wk w.toNat)).wk - 1) (allOf st (st.wk w.toNat) (-1)) ≠ 0 then (st, 17) else
      ({ st with dom := upd (upd st.dom (st.wk w.toNat) (addW (st.dom (st.wk w.toNat)) (-1))) d.toNat (addW (st.dom d.toNat) 1), wk := upd st.wk w.toNat d.toNat }, 0)
    else (st, 14)
  else (st, 10)
def domainS (st : LS) (hard : Bool) (cap : Int) : LS × Int × Int :=
  if cap < 0 ∨ 1048576 < cap then (st, 0, 1)
  else if st.nd = 8 then (st, 0, 13)
  else ({ st with nd := st.nd + 1, dom := upd st.dom st.nd ⟨hard, cap, 0, []⟩ }, st.nd, 0)
/-- what a call makes of a ledger, and what it answers (the error). -/
def stepS (st : LS) (o : LOp) : LS × Int :=
  if o.ask = 0 then joinS st o.id o.d o.p else
  if o.ask = 1 then changeS st o.id o.p else
  if o.ask = 2 then leaveS st o.id o.tm else
  if o.ask = 3 then moveS st o.id o.d o.tm else
  if o.ask = 4 then ((goS st o.tm).1, (goS st o.tm).2.2) else
  if o.ask = 5 then workerS st o.id o.d else
  ((domainS st o.hard o.d).1, (domainS st o.hard o.d).2.2)
def runS (st : LS) : List LOp → LS
  | [] => st
  | o :: l => runS (stepS st o).1 l

/-- what a ledger's state always is, behind n calls. -/
structure LOk (st : LS) (n : Nat) : Prop where
  nd : 0 < st.nd ∧ st.nd ≤ 8
  nw : st.nw ≤ 16
  wk : ∀ i, i < st.nw → st.wk i < st.nd
  many : ∀ d, d < st.nd → (st.dom d).wk = ((List.range st.nw).countP fun i => decide (st.wk i = d) : Nat)
  srv : ∀ i, i < 64 → ∀ d p, st.srv i = some (d, p) → d < st.nd
  owed : ∀ d, d < st.nd → (st.dom d).owed.length ≤ n
  ow : ∀ d, d < st.nd → ∀ o ∈ (st.dom d).owed, OwOk o
  now : 0 ≤ st.now ∧ st.now < 1099511627776
theorem LOk.mono {st : LS} {n m : Nat} (h : LOk st n) (hm : n ≤ m) : LOk st m := { h with owed := fun d hd => Nat.le_trans (h.owed d hd) hm }
theorem LOk.wk_range {st : LS} {n : Nat} (h : LOk st n) {d : Nat} (hd : d < st.nd) : 0 ≤ (st.dom d).wk ∧ (st.dom d).wk ≤ 16 := by
  rw [h.many d hd]
  have := List.countP_le_length (p := fun i => decide (st.wk i = d)) (l := List.range st.nw)
  rw [List.length_range] at this
  have := h.nw
  omega
theorem LOk.wk_pos {st : LS} {n : Nat} (h : LOk st n) {w : Nat} (hw : w < st.nw) : 1 ≤ (st.dom (st.wk w)).wk := by
  rw [h.many _ (h.wk w hw)]
  have : 0 < (List.range st.nw).countP fun i => decide (st.wk i = st.wk w) := List.countP_pos_iff.2 ⟨w, List.mem_range.2 hw, by simp⟩
  omega
theorem new_ok {n : Nat} (h : n ≤ 16) : LOk (newLS n) 0 where
  nd := by simp [newLS]
  nw := h
  wk := fun _ _ => by simp [newLS]
  many := fun d hd => by
    have : d = 0 := by simp [newLS] at hd; omega
    subst this
    simp [newLS]
  srv := fun i _ d p h => by simp [newLS] at h
  owed := fun d _ => by simp [newLS]
  ow := fun d _ o ho => by simp [newLS] at ho
  now := by simp [newLS]
theorem members_le (st : LS) (d : Nat) (but : Int) (n : Nat) : (members st d but n).length ≤ n := by
  unfold members
  have := List.length_filterMap_le (inD st d but) (List.range n)
  rwa [List.length_range] at this
theorem members_succ (st : LS) (d : Nat) (but : Int) (n : Nat) : members st d but (n + 1) = members st d but n ++ (match inD st d but n with | some p => [p] | none => []) := by
  unfold members
  rw [List.range_succ, List.filterMap_append]
  cases h : inD st d but n <;> simp [h]
theorem allOf_le {st : LS} {n : Nat} (h : LOk st n) {d : Nat} (hd : d < st.nd) (but : Int) : (allOf st d but).length ≤ 64 + n := by
  unfold allOf
  rw [List.length_append, List.length_map]
  have := members_le st d but 64
  have := h.owed d hd
  omega

/-! ### each call keeps it so -/
section
variable {st : LS} {n : Nat}
theorem pass_in {d but : Int} {p : P3} (h : passS st d but p = 0) : 0 ≤ d ∧ d < st.nd := by
  unfold passS at h
  split at h
  · assumption
  · cases h
theorem join_ok (h : LOk st n) (id d : Int) (p : P3) : LOk (joinS st id d p).1 n := by
  unfold joinS
  split
  · split
    · exact h
    · split
      · rename_i hp
        have hd := pass_in hp
        exact { h with
                srv := fun i hi d' p' e => by
                  simp only [upd] at e
                  split at e
                  · cases e; show d.toNat < st.nd; omega
                  · exact h.srv i hi d' p' e }
      · exact h
  · exact h
theorem change_ok (h : LOk st n) (id : Int) (p : P3) : LOk (changeS st id p).1 n := by
  unfold changeS
  split
  · split
    · rename_i d p' hs
      split
      · exact { h with
                srv := fun i hi d' p' e => by
                  simp only [upd] at e
                  split at e
                  · cases e; exact h.srv id.toNat (by omega) _ _ hs
                  · exact h.srv i hi d' p' e }
      · exact h
    · exact h
  · exact h
theorem leave_ok (h : LOk st n) (id tm : Int) : LOk (leaveS st id tm).1 (n + 1) := by
  unfold leaveS
  split
  · split
    · rename_i hid hck
      unfold clockS at hck
      simp at hck
      split
      · rename_i d p hs
        have hsrv : ∀ i, i < 64 → ∀ d' p', upd st.srv id.toNat none i = some (d', p') → d' < st.nd := fun i hi d' p' e => by
          simp only [upd] at e
          split at e
          · cases e
          · exact h.srv i hi d' p' e
        by_cases hn : st.now < tm
        · simp only [if_pos hn]
          exact { nd := h.nd, nw := h.nw, wk := h.wk, now := h.now, srv := hsrv
                  many := fun d' hd' => by
                    simp only [upd]
                    split
                    · subst_vars; exact h.many _ hd'
                    · exact h.many _ hd'
                  owed := fun d' hd' => by
                    simp only [upd]
                    split
                    · subst_vars; simp only [owe, List.length_append, List.length_cons, List.length_nil]; have := h.owed _ hd'; omega
                    · have := h.owed _ hd'; omega
                  ow := fun d' hd' o ho => by
                    simp only [upd] at ho
                    split at ho
                    · subst_vars
                      simp only [owe, List.mem_append, List.mem_singleton] at ho
                      rcases ho with ho | rfl
                      · exact h.ow _ hd' o ho
                      · exact ⟨hid.1, hid.2, hck.1, hck.2⟩
                    · exact h.ow _ hd' o ho }
        · simp only [if_neg hn]
          exact { h.mono (Nat.le_succ n) with srv := hsrv }
      · exact h.mono (Nat.le_succ n)
    · exact h.mono (Nat.le_succ n)
  · exact h.mono (Nat.le_succ n)
theorem move_ok (h : LOk st n) (id d tm : Int) : LOk (moveS st id d tm).1 (n + 1) := by
  unfold moveS
  split
  · split
    · split
      · split
        · exact h.mono (Nat.le_succ n)
        · split
          · exact join_ok (leave_ok h id tm) id d _
          · exact h.mono (Nat.le_succ n)
      · exact h.mono (Nat.le_succ n)
    · exact h.mono (Nat.le_succ n)
  · exact h.mono (Nat.le_succ n)
theorem go_ok (h : LOk st n) (now : Int) : LOk (goS st now).1 n := by
  unfold goS
  split
  · rename_i hc
    obtain ⟨hc, _⟩ := hc
    unfold clockS at hc
    simp at hc
    exact { nd := h.nd, nw := h.nw, wk := h.wk, srv := h.srv, now := hc
            many := fun d hd => by simp only [if_pos hd]; exact h.many d hd
            owed := fun d hd => by simp only [if_pos hd]; exact Nat.le_trans (List.length_filter_le _ _) (h.owed d hd)
            ow := fun d hd o ho => by simp only [if_pos hd] at ho; exact h.ow d hd o (List.mem_filter.1 ho).1 }
  · exact h
theorem count_upd (f : Nat → Nat) (w d x : Nat) : ∀ n, w < n → d ≠ f w → (((List.range n).countP fun i => decide (upd f w d i = x) : Nat) : Int) = ((List.range n).countP fun i => decide (f i = x) : Nat) + (if x = d then 1 else 0) - (if x = f w then 1 else 0) := by
  have low : ∀ n, n ≤ w → (List.range n).countP (fun i => decide (upd f w d i = x)) = (List.range n).countP fun i => decide (f i = x) := fun n hn =>
    List.countP_congr fun i hi => by rw [upd_ne _ _ _ (by have := List.mem_range.1 hi; omega)]
  intro n
  induction n with
  | zero => intro h; omega
  | succ n ih =>
    intro hw hd
    rw [List.range_succ, List.countP_append, List.countP_append]
    by_cases hn : w < n
    · have := ih hn hd
      simp only [List.countP_cons, List.countP_nil, upd_ne f w d (k := n) (by omega)]
      omega
    · have e : n = w := by omega
      subst e
      rw [low n (Nat.le_refl _)]
      simp only [List.countP_cons, List.countP_nil, upd_self, decide_eq_true_eq]
      split <;> split <;> split <;> split <;> omega
theorem worker_ok (h : LOk st n) (w d : Int) : LOk (workerS st w d).1 n := by
  unfold workerS
  split
  · rename_i hw
    split
    · rename_i hd
      split
      · exact h
      · rename_i hne
        split
        · exact h
        · split
          · exact h
          · have hw' : w.toNat < st.nw := by omega
            have hfd := h.wk _ hw'
            have hd' : d.toNat < st.nd := by omega
            have hne' : d.toNat ≠ st.wk w.toNat := by omega
            exact { nd := h.nd, nw := h.nw, srv := h.srv, now := h.now
                    wk := fun i hi => by
                      simp only [upd]
                      split
                      · exact hd'
                      · exact h.wk i hi
                    many := fun x hx => by
                      have c := count_upd st.wk w.toNat d.toNat x st.nw hw' hne'
                      have m := h.many x hx
                      simp only
                      rw [c, ← m]
                      by_cases h1 : x = d.toNat
                      · rw [h1, upd_self, if_pos rfl, if_neg hne']; simp only [addW]; omega
                      · rw [upd_ne _ _ _ h1, if_neg h1]
                        by_cases h2 : x = st.wk w.toNat
                        · rw [h2, upd_self, if_pos rfl]; simp only [addW]; omega
                        · rw [upd_ne _ _ _ h2, if_neg h2]; omega
                    owed := fun x hx => by
                      simp only [upd]
                      split
                      · exact h.owed _ hd'
                      · split
                        · exact h.owed _ hfd
                        · exact h.owed _ hx
                    ow := fun x hx o ho => by
                      simp only [upd] at ho
                      split at ho
                      · exact h.ow _ hd' o ho
                      · split at ho
                        · exact h.ow _ hfd o ho
                        · exact h.ow _ hx o ho }
    · exact h
  · exact h
theorem domain_ok (h : LOk st n) (hard : Bool) (cap : Int) : LOk (domainS st hard cap).1 n := by
  unfold domainS
  split
  · exact h
  · split
    · exact h
    · have h8 := h.nd
      have hz : (List.range st.nw).countP (fun i => decide (st.wk i = st.nd)) = 0 := by
        rw [List.countP_eq_zero]
        intro i hi
        have := h.wk i (List.mem_range.1 hi)
        simp; omega
      exact { nd := ⟨by simp, by simp; omega⟩, nw := h.nw, now := h.now
              wk := fun i hi => Nat.lt_succ_of_lt (h.wk i hi)
              srv := fun i hi d p e => Nat.lt_succ_of_lt (h.srv i hi d p e)
              many := fun x hx => by
                simp only [upd]
                split
                · subst_vars; rw [hz]; rfl
                · exact h.many x (by simp only at hx; omega)
              owed := fun x hx => by
                simp only [upd]
                split
                · simp
                · exact h.owed x (by simp only at hx; omega)
              ow := fun x hx o ho => by
                simp only [upd] at ho
                split at ho
                · cases ho
                · exact h.ow x (by simp only at hx; omega) o ho }
theorem step_ok (h : LOk st n) (o : LOp) : LOk (stepS st o).1 (n + 1) := by
  unfold stepS
  split
  · exact (join_ok h _ _ _).mono (Nat.le_succ n)
  · split
    · exact (change_ok h _ _).mono (Nat.le_succ n)
    · split
      · exact leave_ok h _ _
      · split
        · exact move_ok h _ _ _
        · split
          · exact (go_ok h _).mono (Nat.le_succ n)
          · split
            · exact (worker_ok h _ _).mono (Nat.le_succ n)
            · exact (domain_ok h _ _).mono (Nat.le_succ n)
end
end Go.Proofs.Ytmcilmmnpolieaa
/- A slice of calls: how it comes in. Each theorem's premises are its conditions. -/
namespace Go.Proofs.Ytmcilmmnpolieaa
open Go.ChangeShapes Go.WideShapes Go.ChangeAt Go.RowKit Go.Deep

def opcells (o : LOp) : List Value := [.int .i64 o.ask, .int .i64 o.id, .int .i64 o.d, .int .i64 o.tm, .int .i64 o.p.1, .int .i64 o.p.2.1, .int .i64 o.p.2.2, .bool o.hard]
def op0 : LOp := ⟨0, 0, 0, 0, (0, 0, 0), false⟩
instance : Inhabited LOp := ⟨op0⟩
/-- a call lies there. -/
def OpAt (w : World) (b off : Nat) (o : LOp) : Prop := ∀ j, j < 8 → w.cell? ⟨b, off + j, none⟩ = (opcells o)[j]?
/-- v is a slice of the calls ops. -/
def OpRow (w : World) (v : Value) (ops : List LOp) : Prop :=
  (∃ a cap, v = .slice a 0 cap ∧ ops = []) ∨ ∃ b off cap, v = .slice (some ⟨b, off, none⟩) ops.length cap ∧ b < w.heap.size ∧ 0 < ops.length ∧ ∀ j, j < ops.length → OpAt w b (off + j * 8) (ops.getD j op0)
theorem OpRow.below {w w' : World} {v : Value} {ops : List LOp} (h : OpRow w v ops) (hb : Below w.heap.size w w') : OpRow w' v ops := by
  rcases h with h | ⟨b, off, cap, rfl, hlt, h0, hc⟩
  · exact .inl h
  · exact .inr ⟨b, off, cap, rfl, Nat.lt_of_lt_of_le hlt hb.size, h0, fun j hj i hi => (hb.cell (p := ⟨b, off + j * 8 + i, none⟩) hlt).trans (hc j hj i hi)⟩

section
variable {H : Type} {enc : TypeId × Value → H} {P : Program} {w : World} {base : Nat} {spare : Nat → Bool} {held : Bool}
theorem op_cells {t : TypeId} {fs gs : Array Field} {fuel : Nat} {cs : List Value} {x : DataW H × List MemPlace} (ht : P.underlying t = some (.struct fs))
    (hi : ∀ j, j < 4 → ∃ f, fs[j]? = some f ∧ f.offset = j ∧ P.cellsOf f.type = 1 ∧ P.underlying f.type = some (.int .i64))
    (hp : ∃ f, fs[4]? = some f ∧ f.offset = 4 ∧ P.cellsOf f.type = 3 ∧ P.underlying f.type = some (.struct gs))
    (hgs : ∀ j, j < 3 → ∃ f, gs[j]? = some f ∧ f.offset = j ∧ P.cellsOf f.type = 1 ∧ P.underlying f.type = some (.int .i64))
    (hb : ∃ f, fs[5]? = some f ∧ f.offset = 7 ∧ P.cellsOf f.type = 1 ∧ P.underlying f.type = some .bool)
    (h : DataW.trod enc P w base spare held fuel t cs = some x) (hl : cs.length = 8) : ∃ o : LOp, cs = opcells o := by
  obtain ⟨xs, n, _, _, _, hxl, hg⟩ := DataW.trod_struct ht h
  have at' : ∀ {j : Nat} {f : Field}, fs[j]? = some f → j < xs.length := fun {j f} hf => by
    have := (Array.getElem?_eq_some_iff.1 hf).1
    omega
  have each : ∀ j, j < 4 → ∃ z : Int, (cs.drop j).take 1 = [.int .i64 z] := by
    intro j hj
    obtain ⟨f, hfj, ho, hc, hu⟩ := hi j hj
    have h3 := hg j f hfj
    rw [ho, hc, List.getElem?_eq_getElem (at' hfj)] at h3
    obtain ⟨z, h4, _, _⟩ := DataW.trod_int hu h3
    exact ⟨z, h4⟩
  have hbool : ∃ b : Bool, (cs.drop 7).take 1 = [.bool b] := by
    obtain ⟨f, hfj, ho, hc, hu⟩ := hb
    have h3 := hg 5 f hfj
    rw [ho, hc, List.getElem?_eq_getElem (at' hfj)] at h3
    obtain ⟨z, h4, _⟩ := DataW.trod_bool hu h3
    exact ⟨z, h4⟩
  have hpar : ∀ j, j < 3 → ∃ z : Int, (((cs.drop 4).take 3).drop j).take 1 = [.int .i64 z] := by
    obtain ⟨f, hfj, ho, hc, hu⟩ := hp
    have h3 := hg 4 f hfj
    rw [ho, hc, List.getElem?_eq_getElem (at' hfj)] at h3
    obtain ⟨ys, m, _, _, _, hyl, hg2⟩ := DataW.trod_struct hu h3
    intro j hj
    obtain ⟨f, hfj, ho, hc, hu⟩ := hgs j hj
    have h3 := hg2 j f hfj
    have hj' : j < ys.length := by
      have := (Array.getElem?_eq_some_iff.1 hfj).1
      omega
    rw [ho, hc, List.getElem?_eq_getElem hj'] at h3
    obtain ⟨z, h4, _, _⟩ := DataW.trod_int hu h3
    exact ⟨z, h4⟩
  match cs, hl with
  | [v0, v1, v2, v3, v4, v5, v6, v7], _ =>
    obtain ⟨z0, e0⟩ := each 0 (by omega)
    obtain ⟨z1, e1⟩ := each 1 (by omega)
    obtain ⟨z2, e2⟩ := each 2 (by omega)
    obtain ⟨z3, e3⟩ := each 3 (by omega)
    obtain ⟨z4, e4⟩ := hpar 0 (by omega)
    obtain ⟨z5, e5⟩ := hpar 1 (by omega)
    obtain ⟨z6, e6⟩ := hpar 2 (by omega)
    obtain ⟨z7, e7⟩ := hbool
    simp at e0 e1 e2 e3 e4 e5 e6 e7
    subst e0 e1 e2 e3 e4 e5 e6 e7
    exact ⟨⟨z0, z1, z2, z3, (z4, z5, z6), z7⟩, rfl⟩
theorem open_ops {r : Reach} {b0 : Nat} {t e : TypeId} {fs gs : Array Field} {v : Value} {d : DataW H} {p : List MemPlace} (ht : P.underlying t = some (.slice e)) (he : P.underlying e = some (.struct fs)) (ce : P.cellsOf e = 8)
    (hi : ∀ j, j < 4 → ∃ f, fs[j]? = some f ∧ f.offset = j ∧ P.cellsOf f.type = 1 ∧ P.underlying f.type = some (.int .i64))
    (hp : ∃ f, fs[4]? = some f ∧ f.offset = 4 ∧ P.cellsOf f.type = 3 ∧ P.underlying f.type = some (.struct gs))
    (hgs : ∀ j, j < 3 → ∃ f, gs[j]? = some f ∧ f.offset = j ∧ P.cellsOf f.type = 1 ∧ P.underlying f.type = some (.int .i64))
    (hb : ∃ f, fs[5]? = some f ∧ f.offset = 7 ∧ P.cellsOf f.type = 1 ∧ P.underlying f.type = some .bool)
    (hv : Value.okWide P w r b0 t v) (h : DataW.Trod enc P w base spare held t v d p) : ∃ ops, OpRow w v ops ∧ ops.length ≤ maxLen := by
  obtain ⟨a0, len0, cap0, rfl⟩ := okWide_slice ht hv
  obtain ⟨fuel, hf⟩ := h
  rcases open_slice ht hf with ⟨hcs, _⟩ | ⟨a, len, cap, m, n, D, Pl, hcs, hba, hl, hm, hmm, _, hx⟩
  · simp [Value.cells] at hcs
    obtain ⟨rfl, rfl, rfl⟩ := hcs
    exact ⟨[], .inl ⟨_, _, rfl, rfl⟩, Nat.zero_le _⟩
  simp [Value.cells] at hcs
  obtain ⟨rfl, rfl, rfl⟩ := hcs
  by_cases h0 : len0 = 0
  · subst h0
    exact ⟨[], .inl ⟨_, _, rfl, rfl⟩, Nat.zero_le _⟩
  have each : ∀ i, i < len0 → ∃ o : LOp, ∀ j, j < 8 → w.cell? (a.add (i * 8 + j)) = (opcells o)[j]? := by
    intro i hi'
    obtain ⟨cs, h1, h2⟩ := hx i (by rw [hmm]; split <;> omega)
    rw [ce] at h1
    obtain ⟨_, hlen, hcell⟩ := World.cells?_some h1
    obtain ⟨o, rfl⟩ := op_cells he hi hp hgs hb h2 hlen
    refine ⟨o, fun j hj => ?_⟩
    have h6 := hcell j hj
    rw [add_add] at h6
    exact h6
  obtain ⟨Z, hZ⟩ := choose_lt (α := LOp) (p := fun i o => ∀ j, j < 8 → w.cell? (a.add (i * 8 + j)) = (opcells o)[j]?) each
  have hc0 : w.cell? (a.add (0 * 8 + 0)) = some (.int .i64 (Z 0).ask) := hZ 0 (by omega) 0 (by omega)
  have h00 : a.add (0 * 8 + 0) = a := by simp [Addr.add]
  rw [h00] at hc0
  have hsp : a.spot = none := World.cell?_spot hc0
  obtain ⟨b, off, spot⟩ := a
  simp only at hsp
  subst hsp
  refine ⟨(List.range len0).map Z, .inr ⟨b, off, cap0, by simp, cell_lt hc0, by simp; omega, fun i hi j hj => ?_⟩, by simp; omega⟩
  have hi' : i < len0 := by simpa using hi
  have e : ((List.range len0).map Z).getD i op0 = Z i := by simp [List.getD, hi']
  rw [e]
  have e1 : (Addr.mk b off none).add (i * 8 + j) = ⟨b, off + i * 8 + j, none⟩ := by unfold Addr.add; split <;> simp_all [Nat.add_assoc]
  rw [← e1]
  exact hZ i hi' j hj
end
theorem fm_congr {α β : Type} {f g : α → Option β} : ∀ (l : List α), (∀ x, x ∈ l → f x = g x) → l.filterMap f = l.filterMap g
  | [], _ => rfl
  | a :: l, h => by
    rw [List.filterMap_cons, List.filterMap_cons, h a List.mem_cons_self, fm_congr l fun x hx => h x (List.mem_cons_of_mem _ hx)]
/-! ### what is refused turns nothing -/
section
variable {st : LS}
theorem join_same {id d : Int} {p : P3} (h : (joinS st id d p).2 ≠ 0) : (joinS st id d p).1 = st := by
  unfold joinS at *
  split
  · split
    · rfl
    · split
      · rename_i h1 _ h2 h3
        rw [if_pos h1] at h
        rw [h2] at h
        simp only [if_pos h3] at h
        exact absurd rfl h
      · rfl
  · rfl
theorem change_same {id : Int} {p : P3} (h : (changeS st id p).2 ≠ 0) : (changeS st id p).1 = st := by
  unfold changeS at *
  split
  · split
    · split
      · rename_i h1 _ _ _ h2 h3
        rw [if_pos h1] at h
        rw [h2] at h
        simp only [if_pos h3] at h
        exact absurd rfl h
      · rfl
    · rfl
  · rfl
theorem leave_same {id tm : Int} (h : (leaveS st id tm).2 ≠ 0) : (leaveS st id tm).1 = st := by
  unfold leaveS at *
  split
  · split
    · split
      · rename_i h1 h2 _ _ _ h3
        rw [if_pos h1, if_pos h2] at h
        rw [h3] at h
        exact absurd rfl h
      · rfl
    · rfl
  · rfl
theorem go_same {now : Int} (h : (goS st now).2.2 ≠ 0) : (goS st now).1 = st := by
  unfold goS at *
  split
  · rename_i h1
    rw [if_pos h1] at h
    exact absurd rfl h
  · rfl
theorem worker_same {w d : Int} (h : (workerS st w d).2 ≠ 0) : (workerS st w d).1 = st := by
  unfold workerS at *
  split
  · split
    · split
      · rfl
      · split
        · rfl
        · split
          · rfl
          · rename_i h1 h2 h3 h4 h5
            rw [if_pos h1, if_pos h2, if_neg h3, if_neg h4, if_neg h5] at h
            exact absurd rfl h
    · rfl
  · rfl
theorem domain_same {hard : Bool} {cap : Int} (h : (domainS st hard cap).2.2 ≠ 0) : (domainS st hard cap).1 = st := by
  unfold domainS at *
  split
  · rfl
  · split
    · rfl
    · rename_i h1 h2
      rw [if_neg h1, if_neg h2] at h
      exact absurd rfl h
/-- what a server that leaves another domain has does not bear on this one. -/
theorem leave_all {id tm : Int} {d d' : Nat} {p : P3} (hs : st.srv id.toNat = some (d', p)) (hne : d' ≠ d) (but : Int) : allOf (leaveS st id tm).1 d but = allOf st d but ∧ (leaveS st id tm).1.nd = st.nd ∧ (leaveS st id tm).1.dom d = st.dom d := by
  unfold leaveS
  split
  · split
    · rw [hs]
      have e1 : (if st.now < tm then upd st.dom d' (owe (st.dom d') ⟨id, tm, p⟩) else st.dom) d = st.dom d := by
        split
        · exact upd_ne _ _ _ (Ne.symm hne)
        · rfl
      refine ⟨?_, rfl, e1⟩
      unfold allOf
      simp only
      rw [e1]
      congr 1
      unfold members
      refine fm_congr _ fun i _ => ?_
      unfold inD
      simp only [upd]
      by_cases e : i = id.toNat
      · subst e
        rw [if_pos rfl, hs]
        simp only
        rw [if_neg (fun h => hne h.1)]
      · rw [if_neg e]
    · exact ⟨rfl, rfl, rfl⟩
  · exact ⟨rfl, rfl, rfl⟩
theorem leave_pass {id tm : Int} {d : Int} {d' : Nat} {p q : P3} (hs : st.srv id.toNat = some (d', p)) (hne : (d' : Int) ≠ d) (but : Int) : passS (leaveS st id tm).1 d but q = passS st d but q := by
  by_cases hd : 0 ≤ d ∧ d < st.nd
  · obtain ⟨h1, h2, h3⟩ := leave_all (tm := tm) (d := d.toNat) hs (by omega) but
    unfold passS
    rw [h1, h2, h3]
  · unfold passS
    have h2 : (leaveS st id tm).1.nd = st.nd := by unfold leaveS; (repeat' split) <;> rfl
    rw [h2, if_neg hd, if_neg hd]
theorem leave_gone {id tm : Int} {d' : Nat} {p : P3} (hi : 0 ≤ id ∧ id < 64) (hc : clockS tm = true) (hs : st.srv id.toNat = some (d', p)) : (leaveS st id tm).1.srv id.toNat = none := by
  unfold leaveS
  rw [if_pos hi, if_pos hc, hs]
  simp only [upd_self]
theorem move_same {id d tm : Int} (h : (moveS st id d tm).2 ≠ 0) : (moveS st id d tm).1 = st := by
  unfold moveS at *
  split
  · rename_i h1
    rw [if_pos h1] at h
    split
    · rename_i h2
      rw [if_pos h2] at h
      split
      · rename_i d' p hs
        rw [hs] at h
        simp only at h
        split
        · rfl
        · rename_i h3
          rw [if_neg h3] at h
          split
          · rename_i h4
            rw [if_pos h4] at h
            have e : joinS (leaveS st id tm).1 id d p = ({ (leaveS st id tm).1 with srv := upd (leaveS st id tm).1.srv id.toNat (some (d.toNat, p)) }, 0) := by
              unfold joinS
              rw [if_pos h1, leave_gone h1 h2 hs]
              simp only
              rw [leave_pass hs h3, if_pos h4]
            rw [e] at h
            exact absurd rfl h
          · rfl
      · rfl
    · rfl
  · rfl
/-- what is refused turns nothing. -/
theorem step_same {o : LOp} (h : (stepS st o).2 ≠ 0) : (stepS st o).1 = st := by
  unfold stepS at *
  repeat' split
  all_goals simp only [*, if_true, if_false] at h
  · exact join_same h
  · exact change_same (by simpa using h)
  · exact leave_same (by simpa using h)
  · exact move_same (by simpa using h)
  · exact go_same (by simpa using h)
  · exact worker_same (by simpa using h)
  · exact domain_same (by simpa using h)
theorem run_ok : ∀ (l : List LOp) {st : LS} {n : Nat}, LOk st n → LOk (runS st l) (n + l.length)
  | [], _, _, h => h
  | o :: l, st, n, h => by
    have := run_ok l (step_ok h o)
    unfold runS
    rw [List.length_cons, show n + (l.length + 1) = n + 1 + l.length by omega]
    exact this
theorem run_snoc : ∀ (l : List LOp) (st : LS) (o : LOp), runS st (l ++ [o]) = (stepS (runS st l) o).1
  | [], _, _ => rfl
  | a :: l, st, o => run_snoc l (stepS st a).1 o
end
end Go.Proofs.Ytmcilmmnpolieaa
