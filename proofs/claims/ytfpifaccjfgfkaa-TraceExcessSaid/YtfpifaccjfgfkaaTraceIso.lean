/- What trace.Isolated and the reference's May answer. Each theorem's premises are its conditions. -/
import Derived.Test.YtfpifaccjfgfkaaTraceAllLaw
namespace Go.Proofs.Ytfpifaccjfgfkaa
open Go.ChangeShapes Go.WideShapes Go.ChangeAt Go.RowKit Go.Deep
attribute [local go_sem] Oper.semAt_some

/-- what is told of who is isolated. -/
def isoTold (q t late : Int) (ts : List VC) : Value :=
  if 0 < ts.length ∧ 2147483648 < spanOf ts then .tuple #[.bool false, .int .i64 11] else if inB late 1073741825 = false then .tuple #[.bool false, .int .i64 10] else .tuple #[.bool (decide ((excAt q t ts ts.length).1 ≤ 3 * q * t + t * late)), .int .i64 0]
def Isod (ys : List VC) (s q t late : Int) (w : World) (e : Ending) (w' : World) : Prop :=
  Below w.heap.size w w' ∧ ∃ ts, ts.Perm (ofServer s ys) ∧ Ups ts ∧ e = .returned (isoTold q t late ts)
theorem exc_good_value {s q d t : Int} {ts : List VC} (hs : inB s 64 = true) (hp : ParamsMay q d t) : excTold s q d t ts = if 0 < ts.length ∧ 2147483648 < spanOf ts then .tuple #[.int .i64 0, .int .i64 11] else .tuple #[.int .i64 (excAt q t ts ts.length).1, .int .i64 0] := by
  unfold excTold
  rw [hs, if_neg (by decide), if_neg (fun h => h hp)]
set_option maxRecDepth 100000 in
set_option maxHeartbeats 2000000 in
theorem iso_bad (g : Nat) (s q d t late : Int) (w : World) (hbad : inB s 64 = false ∨ ¬ ParamsMay q d t) :
    Calls Try.prog 12 #[.pointer (some ⟨g, 0, none⟩), .int .i64 s, .agg #[.int .i64 q, .int .i64 d, .int .i64 t], .int .i64 late] w (Gives (.tuple #[.bool false, .int .i64 1]) w) := by
  have hv : excTold s q d t [] = .tuple #[.int .i64 0, .int .i64 1] := by
    unfold excTold
    by_cases h : inB s 64 = false
    · rw [if_pos h]
    · rw [if_neg h, if_pos (hbad.resolve_left h)]
  have EX := Lib.hid (fun w2 => exc_bad g s q d t w2 hbad [])
  rw [hv] at EX
  clear hbad hv
  go_enter Try.func12, Try.ntmps12
  go_wp2_with fail
  refine (EX.out _).mono ?_
  rintro e w1 ⟨rfl, b1⟩
  have HB1 := Lib.hid ((bel_alloc (Below.refl w.heap.size w)).trans (b1.mono (by simp)))
  clear b1
  go_wp2_with fail
  go_ret2
  exact ⟨rfl, HB1.out⟩
set_option maxRecDepth 100000 in
set_option maxHeartbeats 2000000 in
theorem iso_good (B g : Nat) (v : Value) (ys : List VC) (s q d t late : Int) (w : World) (hs : inB s 64 = true) (hp : ParamsMay q d t) (hl : ys.length ≤ 4000) (h : TAt w B g v (ys.map (·.1))) (hc : Calm (ys.map (·.1))) :
    Calls Try.prog 12 #[.pointer (some ⟨g, 0, none⟩), .int .i64 s, .agg #[.int .i64 q, .int .i64 d, .int .i64 t], .int .i64 late] w (Isod ys s q t late w) := by
  have HP := Lib.hid hp
  have hS := Lib.hid hs
  have HCC := Lib.hid hc
  have EX := Lib.hid (fun (w2 : World) (h2 : Below w.heap.size w w2) => exc_good B g v ys s q d t w2 hs hp hl (h.below h2) hc)
  have WI := Lib.hid (within_any late 1073741825)
  have HB0 : Hid (Below w.heap.size w (w.alloc (.cells #[.int .i64 q, .int .i64 d, .int .i64 t] 24))) := Lib.hid (bel_alloc (Below.refl _ _))
  clear hp hs hl h hc
  go_enter Try.func12, Try.ntmps12
  go_wp2_with fail
  refine (EX.out _ HB0.out).mono ?_
  rintro e w1 ⟨b1, ts, hperm, hup, rfl⟩
  have c0 := (b1.cell (p := ⟨w.heap.size, 0, none⟩) (by simp)).trans (show _ = some (Value.int .i64 q) by go_simp)
  have c2 := (b1.cell (p := ⟨w.heap.size, 2, none⟩) (by simp)).trans (show _ = some (Value.int .i64 t) by go_simp)
  have HB1 := Lib.hid (HB0.out.trans (b1.mono (by simp)))
  have HX := Lib.hid (And.intro hperm hup)
  have HCH := Lib.hid (chain_of HCC.out hperm hup)
  rw [exc_good_value hS.out HP.out]
  clear b1 hperm hup
  by_cases hsp : 0 < ts.length ∧ 2147483648 < spanOf ts
  · rw [if_pos hsp]
    have hv : Hid (isoTold q t late ts = .tuple #[.bool false, .int .i64 11]) := by show _ = _; unfold isoTold; rw [if_pos hsp]
    clear hsp WI
    go_wp2_with fail
    go_ret2
    exact ⟨HB1.out, ts, HX.out.1, HX.out.2, by rw [hv.out]; rfl⟩
  · rw [if_neg hsp]
    cases hi : inB late 1073741825 with
    | false =>
      have hv : Hid (isoTold q t late ts = .tuple #[.bool false, .int .i64 10]) := by show _ = _; unfold isoTold; rw [if_neg hsp, if_pos hi]
      rw [hi] at WI
      clear hsp hi
      generalize (excAt q t ts ts.length).1 = X at *
      go_wp2_with fail
      refine (WI.out _).mono ?_
      rintro e w2 ⟨rfl, rfl⟩
      go_wp2_with fail
      go_ret2
      exact ⟨HB1.out, ts, HX.out.1, HX.out.2, by rw [hv.out]; rfl⟩
    | true =>
      have hv : Hid (isoTold q t late ts = .tuple #[.bool (decide ((excAt q t ts ts.length).1 ≤ 3 * q * t + t * late)), .int .i64 0]) := by
        show _ = _
        unfold isoTold
        rw [if_neg hsp, if_neg (by rw [hi]; decide)]
      rw [hi] at WI
      obtain ⟨l0, l1⟩ := inB_true.1 hi
      obtain ⟨p1, p2, p3, p4⟩ := HP.out
      clear hsp hi
      generalize (excAt q t ts ts.length).1 = X at *
      have m1 := mul_bound (a := t) (b := late) (M := 1073741825) (by omega) p4 l0 (by omega)
      have m2 := mul_bound (a := t) (b := 3 * q) (M := 3221225472) (by omega) p4 (by omega) (by omega)
      rw [Int.mul_comm t (3 * q)] at m2
      go_wp2_with fail
      refine (WI.out _).mono ?_
      rintro e w2 ⟨rfl, rfl⟩
      go_wp2_with fail
      go_ret2
      exact ⟨HB1.out, ts, HX.out.1, HX.out.2, by rw [hv.out]; rfl⟩
set_option maxHeartbeats 1000000 in
theorem may_ok (q d t : Int) (h : ParamsMay q d t) (w : World) :
    Calls Try.prog 13 #[.agg #[.int .i64 q, .int .i64 d, .int .i64 t]] w (Gives (.bool true) w) := by
  obtain ⟨h1, h2, h3, h4⟩ := h
  go_enter Try.func13, Try.ntmps13
  go_wp2
  go_ret
  exact ⟨rfl, bel_alloc (Below.refl _ _)⟩
set_option maxHeartbeats 1000000 in
theorem may_bad (q d t : Int) (h : ¬ ParamsMay q d t) (w : World) :
    Calls Try.prog 13 #[.agg #[.int .i64 q, .int .i64 d, .int .i64 t]] w (Gives (.bool false) w) := by
  unfold ParamsMay at h
  by_cases h1 : 1 ≤ q
  · by_cases h2 : q ≤ d
    · by_cases h3 : d ≤ t
      · have h4 : 1073741824 < t := by omega
        clear h
        go_enter Try.func13, Try.ntmps13
        go_wp2
        go_ret
        exact ⟨by rw [show decide (t ≤ 1073741824) = false from decide_eq_false (by omega)]; rfl, bel_alloc (Below.refl _ _)⟩
      · have h4 : t < d := by omega
        clear h h3
        go_enter Try.func13, Try.ntmps13
        go_wp2
        go_ret
        exact ⟨rfl, bel_alloc (Below.refl _ _)⟩
    · have h4 : d < q := by omega
      clear h h2
      go_enter Try.func13, Try.ntmps13
      go_wp2
      go_ret
      exact ⟨rfl, bel_alloc (Below.refl _ _)⟩
  · have h4 : q < 1 := by omega
    clear h h1
    go_enter Try.func13, Try.ntmps13
    go_wp2
    go_ret
    exact ⟨rfl, bel_alloc (Below.refl _ _)⟩
end Go.Proofs.Ytfpifaccjfgfkaa
