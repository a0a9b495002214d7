/- TraceExcess answers true at every lists of charges, every server and every params. No condition. -/
import Derived.Test.YtfpifaccjfgfkaaTraceLists
namespace Go.Proofs.Ytfpifaccjfgfkaa.traceExcess
open Go.ChangeShapes Go.WideShapes Go.ChangeAt Go.RowKit Go.Deep Go.Joins
attribute [local go_sem] Oper.semAt_some

theorem box_of {q d t : Int} {w wx : World} (h : Below (w.alloc (.cells #[.int .i64 q, .int .i64 d, .int .i64 t] 24)).heap.size (w.alloc (.cells #[.int .i64 q, .int .i64 d, .int .i64 t] 24)) wx) : wx.cell? ⟨w.heap.size, 0, none⟩ = some (.int .i64 q) ∧ wx.cell? ⟨w.heap.size, 1, none⟩ = some (.int .i64 d) ∧ wx.cell? ⟨w.heap.size, 2, none⟩ = some (.int .i64 t) ∧ w.heap.size + 1 ≤ wx.heap.size := by
  have hs := h.size
  simp at hs
  exact ⟨(h.cell (p := ⟨w.heap.size, 0, none⟩) (by simp)).trans (by go_simp), (h.cell (p := ⟨w.heap.size, 1, none⟩) (by simp)).trans (by go_simp), (h.cell (p := ⟨w.heap.size, 2, none⟩) (by simp)).trans (by go_simp), hs⟩
/-- what all three tell of a server whose charges are too far apart, or are not. -/
theorem exc_over {s q d t X : Int} {ys ts : List VC} (hs : inB s 64 = true) (hp : ParamsMay q d t) (hc : Calm (ys.map (·.1))) (hq : ts.Perm (ofServer s ys)) (hu : Ups ts) (hx : Widest s ys X) (h : 2147483648 < X) : excTold s q d t ts = .tuple #[.int .i64 0, .int .i64 11] := by
  have e := widest_one hx (widest_span hc hq hu)
  rw [exc_good_value hs hp]
  by_cases h0 : 0 < ts.length
  · rw [if_pos h0] at e
    rw [if_pos ⟨h0, by omega⟩]
  · rw [if_neg h0] at e
    omega
theorem exc_fits {s q d t X V : Int} {ys ts : List VC} (hs : inB s 64 = true) (hp : ParamsMay q d t) (hc : Calm (ys.map (·.1))) (hq : ts.Perm (ofServer s ys)) (hu : Ups ts) (hx : Widest s ys X) (h : ¬ 2147483648 < X) (hv : Best q t s ys V) : excTold s q d t ts = .tuple #[.int .i64 V, .int .i64 0] := by
  have e := widest_one hx (widest_span hc hq hu)
  have e2 := best_one hv (best_exc (by have := hp.1; omega) hc hq hu)
  rw [exc_good_value hs hp, ← e2]
  rw [if_neg]
  rintro ⟨h0, h1⟩
  rw [if_pos h0] at e
  omega
theorem iso_over {s q t late X : Int} {ys ts : List VC} (hc : Calm (ys.map (·.1))) (hq : ts.Perm (ofServer s ys)) (hu : Ups ts) (hx : Widest s ys X) (h : 2147483648 < X) : isoTold q t late ts = .tuple #[.bool false, .int .i64 11] := by
  have e := widest_one hx (widest_span hc hq hu)
  unfold isoTold
  by_cases h0 : 0 < ts.length
  · rw [if_pos h0] at e
    rw [if_pos ⟨h0, by omega⟩]
  · rw [if_neg h0] at e
    omega
theorem iso_fits {s q d t late X V : Int} {ys ts : List VC} (hp : ParamsMay q d t) (hc : Calm (ys.map (·.1))) (hq : ts.Perm (ofServer s ys)) (hu : Ups ts) (hx : Widest s ys X) (h : ¬ 2147483648 < X) (hv : Best q t s ys V) : isoTold q t late ts = if inB late 1073741825 = false then .tuple #[.bool false, .int .i64 10] else .tuple #[.bool (decide (V ≤ 3 * q * t + t * late)), .int .i64 0] := by
  have e := widest_one hx (widest_span hc hq hu)
  have e2 := best_one hv (best_exc (by have := hp.1; omega) hc hq hu)
  unfold isoTold
  rw [← e2, if_neg]
  rintro ⟨h0, h1⟩
  rw [if_pos h0] at e
  omega
theorem rat_of {w : World} {B : Nat} {va : Value} {ys : List VC} (h : ROwns w B va (ys.map (·.1))) : (va = .slice none 0 0 ∧ ys = []) ∨ ∃ g cap, va = .slice (some ⟨g, 0, none⟩) ys.length cap ∧ g < w.heap.size ∧ RAt w g ys := by
  rcases rown_cells h with ⟨e1, e2⟩ | ⟨g, cap, e1, hg, hc⟩
  · exact .inl ⟨e1, List.map_eq_nil_iff.1 e2⟩
  · refine .inr ⟨g, cap, by rw [e1, List.length_map], hg, fun j hj => ?_⟩
    have := hc j (by rw [List.length_map]; exact hj)
    rw [get_vc hj] at this
    rw [get_vd hj]
    exact this
theorem widest_nil (s : Int) : Widest s [] 0 := ⟨by omega, fun i k h => by simp at h, .inl rfl⟩
theorem best_nil (q t s : Int) : Best q t s [] 0 := ⟨fun i k h => by simp at h, .inr ⟨fun i h => by simp at h, rfl⟩⟩
theorem span_any {w : World} {B : Nat} {va : Value} {ys : List VC} {s X : Int} (h : ROwns w B va (ys.map (·.1))) (hl : ys.length ≤ 4000) (hx : Widest s ys X) : Calls Try.prog 14 #[va, .int .i64 s] w (Gives (.int .i64 X) w) := by
  rcases rat_of h with ⟨rfl, rfl⟩ | ⟨g, cap, rfl, hg, hc⟩
  · obtain rfl := widest_one hx (widest_nil s)
    exact (rspan_none s w).mono fun e w' ⟨h1, h2⟩ => ⟨h1, by rw [h2]; exact Below.refl _ _⟩
  · exact (rspan_some g cap ys s w hg hc hl).mono fun e w' ⟨X', h1, h2, h3⟩ => by
      obtain rfl := widest_one hx h2
      exact ⟨h1, h3⟩
theorem best_any {w : World} {B : Nat} {va : Value} {ys : List VC} {s q d t X V : Int} (h : ROwns w B va (ys.map (·.1))) (hl : ys.length ≤ 4000) (hc : Calm (ys.map (·.1))) (hp : ParamsMay q d t) (hx : Widest s ys X) (hX : ¬ 2147483648 < X) (hv : Best q t s ys V) : Calls Try.prog 15 #[va, .int .i64 s, .agg #[.int .i64 q, .int .i64 d, .int .i64 t]] w (Gives (.int .i64 V) w) := by
  rcases rat_of h with ⟨rfl, rfl⟩ | ⟨g, cap, rfl, hg, hr⟩
  · obtain rfl := best_one hv (best_nil q t s)
    exact rexc_none s q d t w
  · exact (rexc_some g cap ys s q d t w hg hr hl hc hp (fun i k hi hk si sk => by have := hx.2.1 i k hi hk si sk; omega)).mono fun e w' ⟨X', h1, h2, h3⟩ => by
      obtain rfl := best_one hv h2
      exact ⟨h1, h3⟩
set_option maxRecDepth 100000 in
set_option maxHeartbeats 4000000 in
theorem many (o : Option Addr) (len cap : Nat) (ls : List LV) (s q d t : Int) (w : World) (h : LRow w (.slice o len cap) ls) (hm : ls.length ≤ maxLen) (hf : fewB ls = false) : Calls Try.prog 3 #[.slice o len cap, .int .i64 s, .agg #[.int .i64 q, .int .i64 d, .int .i64 t]] w (Gives (.bool true) w) := by
  have FW := Lib.hid (few_any _ ls (w.alloc (.cells #[.int .i64 q, .int .i64 d, .int .i64 t] 24)) (h.below (bel_alloc (Below.refl _ _))) hm)
  rw [hf] at FW
  have R0 : Hid (Below (w.alloc (.cells #[.int .i64 q, .int .i64 d, .int .i64 t] 24)).heap.size (w.alloc (.cells #[.int .i64 q, .int .i64 d, .int .i64 t] 24)) (w.alloc (.cells #[.int .i64 q, .int .i64 d, .int .i64 t] 24))) := Lib.hid (Below.refl _ _)
  have HW0 : Hid (Below w.heap.size w (w.alloc (.cells #[.int .i64 q, .int .i64 d, .int .i64 t] 24))) := Lib.hid (bel_alloc (Below.refl _ _))
  have sz0 : (w.alloc (.cells #[.int .i64 q, .int .i64 d, .int .i64 t] 24)).heap.size = w.heap.size + 1 := by simp
  clear h hm hf
  go_enter Try.func3, Try.ntmps3
  go_wp2_with fail
  refine FW.out.mono ?_
  rintro e1 w1 ⟨rfl, rfl⟩
  go_wp2_with fail
  refine (awake_true _).mono ?_
  rintro e1 w90 ⟨rfl, b90⟩
  have HX := Lib.hid (HW0.out.trans (R0.out.mono HW0.out.size))
  have HE := Lib.hid (HX.out.trans (b90.mono (HX.out).size))
  clear b90
  go_wp2_with fail
  go_ret
  exact ⟨rfl, HE.out⟩
set_option maxRecDepth 100000 in
set_option maxHeartbeats 4000000 in
theorem bad1 (o : Option Addr) (len cap : Nat) (ls : List LV) (s q d t : Int) (w : World) (h : LRow w (.slice o len cap) ls) (hm : ls.length ≤ maxLen) (hf : fewB ls = true) (k : s < 0) : Calls Try.prog 3 #[.slice o len cap, .int .i64 s, .agg #[.int .i64 q, .int .i64 d, .int .i64 t]] w (Gives (.bool true) w) := by
  have d1 : decide (s < 0) = true := decide_eq_true (by omega)
  have hbad : inB s 64 = false ∨ ¬ ParamsMay q d t := .inl (by cases hh : inB s 64 with | false => rfl | true => have := inB_true.1 hh; omega)
  have EX : Hid (∀ (g : Nat) (W : World), Calls Try.prog 11 #[.pointer (some ⟨g, 0, none⟩), .int .i64 s, .agg #[.int .i64 q, .int .i64 d, .int .i64 t]] W (Gives (.tuple #[.int .i64 0, .int .i64 1]) W)) := fun g W => by
    have := exc_bad g s q d t W hbad []
    rw [show excTold s q d t [] = .tuple #[.int .i64 0, .int .i64 1] by
      unfold excTold
      by_cases hh : inB s 64 = false
      · rw [if_pos hh]
      · rw [if_neg hh, if_pos (hbad.resolve_left hh)]] at this
    exact this
  have IS := Lib.hid (fun (g : Nat) (late : Int) (W : World) => iso_bad g s q d t late W hbad)
  clear hbad
  have FW := Lib.hid (few_any _ ls (w.alloc (.cells #[.int .i64 q, .int .i64 d, .int .i64 t] 24)) (h.below (bel_alloc (Below.refl _ _))) hm)
  have MA := Lib.hid (made_any _ ls (w.alloc (.cells #[.int .i64 q, .int .i64 d, .int .i64 t] 24)) (h.below (bel_alloc (Below.refl _ _))) hf)
  rw [hf] at FW
  have R0 : Hid (Below (w.alloc (.cells #[.int .i64 q, .int .i64 d, .int .i64 t] 24)).heap.size (w.alloc (.cells #[.int .i64 q, .int .i64 d, .int .i64 t] 24)) (w.alloc (.cells #[.int .i64 q, .int .i64 d, .int .i64 t] 24))) := Lib.hid (Below.refl _ _)
  have HW0 : Hid (Below w.heap.size w (w.alloc (.cells #[.int .i64 q, .int .i64 d, .int .i64 t] 24))) := Lib.hid (bel_alloc (Below.refl _ _))
  have sz0 : (w.alloc (.cells #[.int .i64 q, .int .i64 d, .int .i64 t] 24)).heap.size = w.heap.size + 1 := by simp
  clear h hm hf
  go_enter Try.func3, Try.ntmps3
  go_wp2_with fail
  refine FW.out.mono ?_
  rintro e1 w0 ⟨rfl, rfl⟩
  go_wp2_with fail
  refine MA.out.mono ?_
  rintro e1 w1 ⟨g, v, va, cs, rfl, hT, hR, hv, hca, hcl, b1⟩
  have R1 := Lib.hid (R0.out.trans (b1.mono R0.out.size))
  have HT := Lib.hid hT
  have HR := Lib.hid hR
  have HCA := Lib.hid hca
  have HV := Lib.hid hv
  obtain ⟨a0, a1, a2, aw⟩ := box_of R1.out
  clear b1 hT hR hv hca MA FW
  go_wp2_with fail
  refine (EX.out _ _).mono ?_
  rintro e1 w2 ⟨rfl, b2⟩
  have R2 := Lib.hid (R1.out.trans (b2.mono R1.out.size))
  clear b2 a0 a1 a2 aw
  obtain ⟨a0, a1, a2, aw⟩ := box_of R2.out
  go_wp2_with fail
  refine (IS.out _ _ _).mono ?_
  rintro e1 w3 ⟨rfl, b3⟩
  have R3 := Lib.hid (R2.out.trans (b3.mono R2.out.size))
  clear b3 a0 a1 a2 aw
  obtain ⟨a0, a1, a2, aw⟩ := box_of R3.out
  go_wp2_with fail
  refine (IS.out _ _ _).mono ?_
  rintro e1 w4 ⟨rfl, b4⟩
  have R4 := Lib.hid (R3.out.trans (b4.mono R3.out.size))
  clear b4 a0 a1 a2 aw
  obtain ⟨a0, a1, a2, aw⟩ := box_of R4.out
  go_wp2_with fail
  refine (awake_true _).mono ?_
  rintro e1 w90 ⟨rfl, b90⟩
  have HX := Lib.hid (HW0.out.trans (R4.out.mono HW0.out.size))
  have HE := Lib.hid (HX.out.trans (b90.mono (HX.out).size))
  clear b90
  go_wp2_with fail
  go_ret
  exact ⟨rfl, HE.out⟩
set_option maxRecDepth 100000 in
set_option maxHeartbeats 4000000 in
theorem bad2 (o : Option Addr) (len cap : Nat) (ls : List LV) (s q d t : Int) (w : World) (h : LRow w (.slice o len cap) ls) (hm : ls.length ≤ maxLen) (hf : fewB ls = true) (k : 63 < s) : Calls Try.prog 3 #[.slice o len cap, .int .i64 s, .agg #[.int .i64 q, .int .i64 d, .int .i64 t]] w (Gives (.bool true) w) := by
  have d1 : decide (s < 0) = false := decide_eq_false (by omega)
  have d2 : decide (63 < s) = true := decide_eq_true (by omega)
  have hbad : inB s 64 = false ∨ ¬ ParamsMay q d t := .inl (by cases hh : inB s 64 with | false => rfl | true => have := inB_true.1 hh; omega)
  have EX : Hid (∀ (g : Nat) (W : World), Calls Try.prog 11 #[.pointer (some ⟨g, 0, none⟩), .int .i64 s, .agg #[.int .i64 q, .int .i64 d, .int .i64 t]] W (Gives (.tuple #[.int .i64 0, .int .i64 1]) W)) := fun g W => by
    have := exc_bad g s q d t W hbad []
    rw [show excTold s q d t [] = .tuple #[.int .i64 0, .int .i64 1] by
      unfold excTold
      by_cases hh : inB s 64 = false
      · rw [if_pos hh]
      · rw [if_neg hh, if_pos (hbad.resolve_left hh)]] at this
    exact this
  have IS := Lib.hid (fun (g : Nat) (late : Int) (W : World) => iso_bad g s q d t late W hbad)
  clear hbad
  have FW := Lib.hid (few_any _ ls (w.alloc (.cells #[.int .i64 q, .int .i64 d, .int .i64 t] 24)) (h.below (bel_alloc (Below.refl _ _))) hm)
  have MA := Lib.hid (made_any _ ls (w.alloc (.cells #[.int .i64 q, .int .i64 d, .int .i64 t] 24)) (h.below (bel_alloc (Below.refl _ _))) hf)
  rw [hf] at FW
  have R0 : Hid (Below (w.alloc (.cells #[.int .i64 q, .int .i64 d, .int .i64 t] 24)).heap.size (w.alloc (.cells #[.int .i64 q, .int .i64 d, .int .i64 t] 24)) (w.alloc (.cells #[.int .i64 q, .int .i64 d, .int .i64 t] 24))) := Lib.hid (Below.refl _ _)
  have HW0 : Hid (Below w.heap.size w (w.alloc (.cells #[.int .i64 q, .int .i64 d, .int .i64 t] 24))) := Lib.hid (bel_alloc (Below.refl _ _))
  have sz0 : (w.alloc (.cells #[.int .i64 q, .int .i64 d, .int .i64 t] 24)).heap.size = w.heap.size + 1 := by simp
  clear h hm hf
  go_enter Try.func3, Try.ntmps3
  go_wp2_with fail
  refine FW.out.mono ?_
  rintro e1 w0 ⟨rfl, rfl⟩
  go_wp2_with fail
  refine MA.out.mono ?_
  rintro e1 w1 ⟨g, v, va, cs, rfl, hT, hR, hv, hca, hcl, b1⟩
  have R1 := Lib.hid (R0.out.trans (b1.mono R0.out.size))
  have HT := Lib.hid hT
  have HR := Lib.hid hR
  have HCA := Lib.hid hca
  have HV := Lib.hid hv
  obtain ⟨a0, a1, a2, aw⟩ := box_of R1.out
  clear b1 hT hR hv hca MA FW
  go_wp2_with fail
  refine (EX.out _ _).mono ?_
  rintro e1 w2 ⟨rfl, b2⟩
  have R2 := Lib.hid (R1.out.trans (b2.mono R1.out.size))
  clear b2 a0 a1 a2 aw
  obtain ⟨a0, a1, a2, aw⟩ := box_of R2.out
  go_wp2_with fail
  refine (IS.out _ _ _).mono ?_
  rintro e1 w3 ⟨rfl, b3⟩
  have R3 := Lib.hid (R2.out.trans (b3.mono R2.out.size))
  clear b3 a0 a1 a2 aw
  obtain ⟨a0, a1, a2, aw⟩ := box_of R3.out
  go_wp2_with fail
  refine (IS.out _ _ _).mono ?_
  rintro e1 w4 ⟨rfl, b4⟩
  have R4 := Lib.hid (R3.out.trans (b4.mono R3.out.size))
  clear b4 a0 a1 a2 aw
  obtain ⟨a0, a1, a2, aw⟩ := box_of R4.out
  go_wp2_with fail
  refine (awake_true _).mono ?_
  rintro e1 w90 ⟨rfl, b90⟩
  have HX := Lib.hid (HW0.out.trans (R4.out.mono HW0.out.size))
  have HE := Lib.hid (HX.out.trans (b90.mono (HX.out).size))
  clear b90
  go_wp2_with fail
  go_ret
  exact ⟨rfl, HE.out⟩
set_option maxRecDepth 100000 in
set_option maxHeartbeats 4000000 in
theorem bad3 (o : Option Addr) (len cap : Nat) (ls : List LV) (s q d t : Int) (w : World) (h : LRow w (.slice o len cap) ls) (hm : ls.length ≤ maxLen) (hf : fewB ls = true) (k : 0 ≤ s) (k2 : s ≤ 63) (hp : ¬ ParamsMay q d t) : Calls Try.prog 3 #[.slice o len cap, .int .i64 s, .agg #[.int .i64 q, .int .i64 d, .int .i64 t]] w (Gives (.bool true) w) := by
  have d1 : decide (s < 0) = false := decide_eq_false (by omega)
  have d2 : decide (63 < s) = false := decide_eq_false (by omega)
  have hbad : inB s 64 = false ∨ ¬ ParamsMay q d t := .inr hp
  have M := Lib.hid (may_bad q d t hp)
  clear hp
  have EX : Hid (∀ (g : Nat) (W : World), Calls Try.prog 11 #[.pointer (some ⟨g, 0, none⟩), .int .i64 s, .agg #[.int .i64 q, .int .i64 d, .int .i64 t]] W (Gives (.tuple #[.int .i64 0, .int .i64 1]) W)) := fun g W => by
    have := exc_bad g s q d t W hbad []
    rw [show excTold s q d t [] = .tuple #[.int .i64 0, .int .i64 1] by
      unfold excTold
      by_cases hh : inB s 64 = false
      · rw [if_pos hh]
      · rw [if_neg hh, if_pos (hbad.resolve_left hh)]] at this
    exact this
  have IS := Lib.hid (fun (g : Nat) (late : Int) (W : World) => iso_bad g s q d t late W hbad)
  clear hbad
  have FW := Lib.hid (few_any _ ls (w.alloc (.cells #[.int .i64 q, .int .i64 d, .int .i64 t] 24)) (h.below (bel_alloc (Below.refl _ _))) hm)
  have MA := Lib.hid (made_any _ ls (w.alloc (.cells #[.int .i64 q, .int .i64 d, .int .i64 t] 24)) (h.below (bel_alloc (Below.refl _ _))) hf)
  rw [hf] at FW
  have R0 : Hid (Below (w.alloc (.cells #[.int .i64 q, .int .i64 d, .int .i64 t] 24)).heap.size (w.alloc (.cells #[.int .i64 q, .int .i64 d, .int .i64 t] 24)) (w.alloc (.cells #[.int .i64 q, .int .i64 d, .int .i64 t] 24))) := Lib.hid (Below.refl _ _)
  have HW0 : Hid (Below w.heap.size w (w.alloc (.cells #[.int .i64 q, .int .i64 d, .int .i64 t] 24))) := Lib.hid (bel_alloc (Below.refl _ _))
  have sz0 : (w.alloc (.cells #[.int .i64 q, .int .i64 d, .int .i64 t] 24)).heap.size = w.heap.size + 1 := by simp
  clear h hm hf
  go_enter Try.func3, Try.ntmps3
  go_wp2_with fail
  refine FW.out.mono ?_
  rintro e1 w0 ⟨rfl, rfl⟩
  go_wp2_with fail
  refine MA.out.mono ?_
  rintro e1 w1 ⟨g, v, va, cs, rfl, hT, hR, hv, hca, hcl, b1⟩
  have R1 := Lib.hid (R0.out.trans (b1.mono R0.out.size))
  have HT := Lib.hid hT
  have HR := Lib.hid hR
  have HCA := Lib.hid hca
  have HV := Lib.hid hv
  obtain ⟨a0, a1, a2, aw⟩ := box_of R1.out
  clear b1 hT hR hv hca MA FW
  go_wp2_with fail
  refine (EX.out _ _).mono ?_
  rintro e1 w2 ⟨rfl, b2⟩
  have R2 := Lib.hid (R1.out.trans (b2.mono R1.out.size))
  clear b2 a0 a1 a2 aw
  obtain ⟨a0, a1, a2, aw⟩ := box_of R2.out
  go_wp2_with fail
  refine (IS.out _ _ _).mono ?_
  rintro e1 w3 ⟨rfl, b3⟩
  have R3 := Lib.hid (R2.out.trans (b3.mono R2.out.size))
  clear b3 a0 a1 a2 aw
  obtain ⟨a0, a1, a2, aw⟩ := box_of R3.out
  go_wp2_with fail
  refine (IS.out _ _ _).mono ?_
  rintro e1 w4 ⟨rfl, b4⟩
  have R4 := Lib.hid (R3.out.trans (b4.mono R3.out.size))
  clear b4 a0 a1 a2 aw
  obtain ⟨a0, a1, a2, aw⟩ := box_of R4.out
  go_wp2_with fail
  refine (M.out _).mono ?_
  rintro e1 w5 ⟨rfl, b5⟩
  have R5 := Lib.hid (R4.out.trans (b5.mono R4.out.size))
  clear b5 a0 a1 a2 aw
  obtain ⟨a0, a1, a2, aw⟩ := box_of R5.out
  go_wp2_with fail
  refine (awake_true _).mono ?_
  rintro e1 w90 ⟨rfl, b90⟩
  have HX := Lib.hid (HW0.out.trans (R5.out.mono HW0.out.size))
  have HE := Lib.hid (HX.out.trans (b90.mono (HX.out).size))
  clear b90
  go_wp2_with fail
  go_ret
  exact ⟨rfl, HE.out⟩
set_option maxRecDepth 100000 in
set_option maxHeartbeats 4000000 in
theorem good (o : Option Addr) (len cap : Nat) (ls : List LV) (s q d t : Int) (w : World) (h : LRow w (.slice o len cap) ls) (hm : ls.length ≤ maxLen) (hf : fewB ls = true) (k : 0 ≤ s) (k2 : s ≤ 63) (hp : ParamsMay q d t) : Calls Try.prog 3 #[.slice o len cap, .int .i64 s, .agg #[.int .i64 q, .int .i64 d, .int .i64 t]] w (Gives (.bool true) w) := by
  have hs : inB s 64 = true := inB_true.2 ⟨k, by omega⟩
  have d1 : decide (s < 0) = false := decide_eq_false (by omega)
  have d2 : decide (63 < s) = false := decide_eq_false (by omega)
  have FW := Lib.hid (few_any _ ls (w.alloc (.cells #[.int .i64 q, .int .i64 d, .int .i64 t] 24)) (h.below (bel_alloc (Below.refl _ _))) hm)
  have MA := Lib.hid (made_any _ ls (w.alloc (.cells #[.int .i64 q, .int .i64 d, .int .i64 t] 24)) (h.below (bel_alloc (Below.refl _ _))) hf)
  rw [hf] at FW
  have R0 : Hid (Below (w.alloc (.cells #[.int .i64 q, .int .i64 d, .int .i64 t] 24)).heap.size (w.alloc (.cells #[.int .i64 q, .int .i64 d, .int .i64 t] 24)) (w.alloc (.cells #[.int .i64 q, .int .i64 d, .int .i64 t] 24))) := Lib.hid (Below.refl _ _)
  have HW0 : Hid (Below w.heap.size w (w.alloc (.cells #[.int .i64 q, .int .i64 d, .int .i64 t] 24))) := Lib.hid (bel_alloc (Below.refl _ _))
  have sz0 : (w.alloc (.cells #[.int .i64 q, .int .i64 d, .int .i64 t] 24)).heap.size = w.heap.size + 1 := by simp
  clear h hm hf
  go_enter Try.func3, Try.ntmps3
  go_wp2_with fail
  refine FW.out.mono ?_
  rintro e1 w0 ⟨rfl, rfl⟩
  go_wp2_with fail
  refine MA.out.mono ?_
  rintro e1 w1 ⟨g, v, va, cs, rfl, hT, hR, hv, hca, hcl, b1⟩
  have R1 := Lib.hid (R0.out.trans (b1.mono R0.out.size))
  have HT := Lib.hid hT
  have HR := Lib.hid hR
  have HCA := Lib.hid hca
  have HV := Lib.hid hv
  obtain ⟨a0, a1, a2, aw⟩ := box_of R1.out
  clear b1 hT hR hv hca MA FW
  obtain ⟨ys, hys⟩ := vcs cs HV.out
  have hyl : ys.length ≤ 4000 := by rw [← List.length_map (f := fun z : VC => z.1), hys]; omega
  rw [← hys] at HT HR HCA
  have HY := Lib.hid hyl
  clear HV hys hcl
  have EX := Lib.hid (exc_good _ g v ys s q d t w1 hs hp hyl HT.out HCA.out)
  have IS : Hid (∀ (late : Int) (W : World), Below w1.heap.size w1 W → Calls Try.prog 12 #[.pointer (some ⟨g, 0, none⟩), .int .i64 s, .agg #[.int .i64 q, .int .i64 d, .int .i64 t], .int .i64 late] W (Isod ys s q t late W)) := fun late W hW => iso_good _ g v ys s q d t late W hs hp hyl (HT.out.below hW) HCA.out
  have HP := Lib.hid hp
  have HS := Lib.hid hs
  clear hp hs
  go_wp2_with fail
  refine EX.out.mono ?_
  rintro e1 w2 ⟨b2, ts, hperm, hup, rfl⟩
  have R2 := Lib.hid (R1.out.trans (b2.mono R1.out.size))
  have Q2 := Lib.hid b2
  clear a0 a1 a2 aw b2
  obtain ⟨a0, a1, a2, aw⟩ := box_of R2.out
  have hX := widest_span HCA.out hperm hup
  have hB := best_exc (q := q) (t := t) (by have := HP.out.1; omega) HCA.out hperm hup
  generalize (if 0 < ts.length then spanOf ts else 0) = X at *
  generalize (excAt q t ts ts.length).1 = V at *
  have HX1 := Lib.hid hX
  have HB1 := Lib.hid hB
  have HQ := Lib.hid (And.intro hperm hup)
  clear hX hB hperm hup
  have M := Lib.hid (may_ok q d t HP.out)
  by_cases hbig : 2147483648 < X
  · rw [exc_over HS.out HP.out HCA.out HQ.out.1 HQ.out.2 HX1.out hbig]
    have ISO : Hid (∀ (late : Int) (ts : List VC), ts.Perm (ofServer s ys) → Ups ts → isoTold q t late ts = .tuple #[.bool false, .int .i64 11]) := fun late ts h1 h2 => iso_over HCA.out h1 h2 HX1.out hbig
    have dX : decide (2147483648 < X) = true := decide_eq_true hbig
    go_wp2_with fail
    refine (IS.out _ _ Q2.out).mono ?_
    rintro e1 w3 ⟨b3, ts3, hp3, hu3, rfl⟩
    rw [ISO.out _ _ hp3 hu3]
    have R3 := Lib.hid (R2.out.trans (b3.mono R2.out.size))
    have Q3 := Lib.hid (Q2.out.trans (b3.mono Q2.out.size))
    clear a0 a1 a2 aw b3 hp3 hu3
    obtain ⟨a0, a1, a2, aw⟩ := box_of R3.out
    go_wp2_with fail
    refine (IS.out _ _ Q3.out).mono ?_
    rintro e1 w4 ⟨b4, ts4, hp4, hu4, rfl⟩
    rw [ISO.out _ _ hp4 hu4]
    have R4 := Lib.hid (R3.out.trans (b4.mono R3.out.size))
    have Q4 := Lib.hid (Q3.out.trans (b4.mono Q3.out.size))
    clear a0 a1 a2 aw b4 hp4 hu4
    obtain ⟨a0, a1, a2, aw⟩ := box_of R4.out
    go_wp2_with fail
    refine (M.out _).mono ?_
    rintro e1 w5 ⟨rfl, b5⟩
    have R5 := Lib.hid (R4.out.trans (b5.mono R4.out.size))
    have Q5 := Lib.hid (Q4.out.trans (b5.mono Q4.out.size))
    clear a0 a1 a2 aw b5
    obtain ⟨a0, a1, a2, aw⟩ := box_of R5.out
    have SP := Lib.hid (span_any (rown_below HR.out Q5.out) HY.out HX1.out)
    go_wp2_with fail
    refine SP.out.mono ?_
    rintro e1 w6 ⟨rfl, b6⟩
    have R6 := Lib.hid (R5.out.trans (b6.mono R5.out.size))
    clear a0 a1 a2 aw b6
    obtain ⟨a0, a1, a2, aw⟩ := box_of R6.out
    go_wp2_with fail
    refine (awake_true _).mono ?_
    rintro e1 w90 ⟨rfl, b90⟩
    have HX := Lib.hid (HW0.out.trans (R6.out.mono HW0.out.size))
    have HE := Lib.hid (HX.out.trans (b90.mono (HX.out).size))
    clear b90
    go_wp2_with fail
    go_ret
    exact ⟨rfl, HE.out⟩
  · rw [exc_fits HS.out HP.out HCA.out HQ.out.1 HQ.out.2 HX1.out hbig HB1.out]
    have ISO : Hid (∀ (late : Int) (ts : List VC), ts.Perm (ofServer s ys) → Ups ts → isoTold q t late ts = if inB late 1073741825 = false then .tuple #[.bool false, .int .i64 10] else .tuple #[.bool (decide (V ≤ 3 * q * t + t * late)), .int .i64 0]) := fun late ts h1 h2 => iso_fits HP.out HCA.out h1 h2 HX1.out hbig HB1.out
    have dX : decide (2147483648 < X) = false := decide_eq_false hbig
    have hTin : inB t 1073741825 = true := inB_true.2 (by have := HP.out; unfold ParamsMay at this; omega)
    have hNin : inB (-1) 1073741825 = false := by decide
    have IT : Hid (∀ ts : List VC, ts.Perm (ofServer s ys) → Ups ts → isoTold q t t ts = .tuple #[.bool (decide (V ≤ 3 * q * t + t * t)), .int .i64 0]) := fun ts h1 h2 => by rw [ISO.out t ts h1 h2, if_neg (by rw [hTin]; decide)]
    have IN : Hid (∀ ts : List VC, ts.Perm (ofServer s ys) → Ups ts → isoTold q t (-1) ts = .tuple #[.bool false, .int .i64 10]) := fun ts h1 h2 => by rw [ISO.out (-1) ts h1 h2, if_pos hNin]
    have BA : Hid (∀ W : World, Below w1.heap.size w1 W → Calls Try.prog 15 #[va, .int .i64 s, .agg #[.int .i64 q, .int .i64 d, .int .i64 t]] W (Gives (.int .i64 V) W)) := fun W hW => best_any (rown_below HR.out hW) HY.out HCA.out HP.out HX1.out hbig HB1.out
    obtain ⟨p1, p2, p3, p4⟩ := HP.out
    have m1 := mul_bound (a := t) (b := t) (M := 1073741824) (by omega) p4 (by omega) p4
    have m2 := mul_bound (a := t) (b := 3 * q) (M := 3221225472) (by omega) p4 (by omega) (by omega)
    rw [Int.mul_comm t (3 * q)] at m2
    clear hTin hNin ISO hbig
    by_cases hz : V ≤ 3 * q * t + t * t
    · rw [decide_eq_true hz] at IT
      have dz : decide (V ≤ 3 * q * t + t * t) = true := decide_eq_true hz
      clear hz
      go_wp2_with fail
      refine (IS.out _ _ Q2.out).mono ?_
      rintro e1 w3 ⟨b3, ts3, hp3, hu3, rfl⟩
      rw [IT.out _ hp3 hu3]
      have R3 := Lib.hid (R2.out.trans (b3.mono R2.out.size))
      have Q3 := Lib.hid (Q2.out.trans (b3.mono Q2.out.size))
      clear a0 a1 a2 aw b3 hp3 hu3
      obtain ⟨a0, a1, a2, aw⟩ := box_of R3.out
      go_wp2_with fail
      refine (IS.out _ _ Q3.out).mono ?_
      rintro e1 w4 ⟨b4, ts4, hp4, hu4, rfl⟩
      rw [IN.out _ hp4 hu4]
      have R4 := Lib.hid (R3.out.trans (b4.mono R3.out.size))
      have Q4 := Lib.hid (Q3.out.trans (b4.mono Q3.out.size))
      clear a0 a1 a2 aw b4 hp4 hu4
      obtain ⟨a0, a1, a2, aw⟩ := box_of R4.out
      go_wp2_with fail
      refine (M.out _).mono ?_
      rintro e1 w5 ⟨rfl, b5⟩
      have R5 := Lib.hid (R4.out.trans (b5.mono R4.out.size))
      have Q5 := Lib.hid (Q4.out.trans (b5.mono Q4.out.size))
      clear a0 a1 a2 aw b5
      obtain ⟨a0, a1, a2, aw⟩ := box_of R5.out
      have SP := Lib.hid (span_any (rown_below HR.out Q5.out) HY.out HX1.out)
      go_wp2_with fail
      refine SP.out.mono ?_
      rintro e1 w6 ⟨rfl, b6⟩
      have R6 := Lib.hid (R5.out.trans (b6.mono R5.out.size))
      have Q6 := Lib.hid (Q5.out.trans (b6.mono Q5.out.size))
      clear a0 a1 a2 aw b6
      obtain ⟨a0, a1, a2, aw⟩ := box_of R6.out
      go_wp2_with fail
      refine (BA.out _ Q6.out).mono ?_
      rintro e1 w7 ⟨rfl, b7⟩
      have R7 := Lib.hid (R6.out.trans (b7.mono R6.out.size))
      clear a0 a1 a2 aw b7
      obtain ⟨a0, a1, a2, aw⟩ := box_of R7.out
      go_wp2_with fail
      refine (awake_true _).mono ?_
      rintro e1 w90 ⟨rfl, b90⟩
      have HX := Lib.hid (HW0.out.trans (R7.out.mono HW0.out.size))
      have HE := Lib.hid (HX.out.trans (b90.mono (HX.out).size))
      clear b90
      go_wp2_with fail
      go_ret
      exact ⟨rfl, HE.out⟩
    · rw [decide_eq_false hz] at IT
      have dz : decide (V ≤ 3 * q * t + t * t) = false := decide_eq_false hz
      clear hz
      go_wp2_with fail
      refine (IS.out _ _ Q2.out).mono ?_
      rintro e1 w3 ⟨b3, ts3, hp3, hu3, rfl⟩
      rw [IT.out _ hp3 hu3]
      have R3 := Lib.hid (R2.out.trans (b3.mono R2.out.size))
      have Q3 := Lib.hid (Q2.out.trans (b3.mono Q2.out.size))
      clear a0 a1 a2 aw b3 hp3 hu3
      obtain ⟨a0, a1, a2, aw⟩ := box_of R3.out
      go_wp2_with fail
      refine (IS.out _ _ Q3.out).mono ?_
      rintro e1 w4 ⟨b4, ts4, hp4, hu4, rfl⟩
      rw [IN.out _ hp4 hu4]
      have R4 := Lib.hid (R3.out.trans (b4.mono R3.out.size))
      have Q4 := Lib.hid (Q3.out.trans (b4.mono Q3.out.size))
      clear a0 a1 a2 aw b4 hp4 hu4
      obtain ⟨a0, a1, a2, aw⟩ := box_of R4.out
      go_wp2_with fail
      refine (M.out _).mono ?_
      rintro e1 w5 ⟨rfl, b5⟩
      have R5 := Lib.hid (R4.out.trans (b5.mono R4.out.size))
      have Q5 := Lib.hid (Q4.out.trans (b5.mono Q4.out.size))
      clear a0 a1 a2 aw b5
      obtain ⟨a0, a1, a2, aw⟩ := box_of R5.out
      have SP := Lib.hid (span_any (rown_below HR.out Q5.out) HY.out HX1.out)
      go_wp2_with fail
      refine SP.out.mono ?_
      rintro e1 w6 ⟨rfl, b6⟩
      have R6 := Lib.hid (R5.out.trans (b6.mono R5.out.size))
      have Q6 := Lib.hid (Q5.out.trans (b6.mono Q5.out.size))
      clear a0 a1 a2 aw b6
      obtain ⟨a0, a1, a2, aw⟩ := box_of R6.out
      go_wp2_with fail
      refine (BA.out _ Q6.out).mono ?_
      rintro e1 w7 ⟨rfl, b7⟩
      have R7 := Lib.hid (R6.out.trans (b7.mono R6.out.size))
      clear a0 a1 a2 aw b7
      obtain ⟨a0, a1, a2, aw⟩ := box_of R7.out
      go_wp2_with fail
      refine (awake_true _).mono ?_
      rintro e1 w90 ⟨rfl, b90⟩
      have HX := Lib.hid (HW0.out.trans (R7.out.mono HW0.out.size))
      have HE := Lib.hid (HX.out.trans (b90.mono (HX.out).size))
      clear b90
      go_wp2_with fail
      go_ret
      exact ⟨rfl, HE.out⟩
theorem walk (v : Value) (ls : List LV) (s q d t : Int) (w : World) (h : LRow w v ls) (hm : ls.length ≤ maxLen) (_ : (Lit.int .i64 s).wf = true) (_ : (Lit.int .i64 q).wf = true) (_ : (Lit.int .i64 d).wf = true) (_ : (Lit.int .i64 t).wf = true) :
    Calls Try.prog 3 #[v, .int .i64 s, .agg #[.int .i64 q, .int .i64 d, .int .i64 t]] w (Yes w) := by
  obtain ⟨o, cap, rfl⟩ := h.shape
  show Calls _ _ _ _ (Gives (.bool true) w)
  cases hf : fewB ls with
  | false => exact many o _ cap ls s q d t w h hm hf
  | true =>
    by_cases k : s < 0
    · exact bad1 o _ cap ls s q d t w h hm hf k
    · by_cases k2 : 63 < s
      · exact bad2 o _ cap ls s q d t w h hm hf k2
      · by_cases hp : ParamsMay q d t
        · exact good o _ cap ls s q d t w h hm hf (by omega) (by omega) hp
        · exact bad3 o _ cap ls s q d t w h hm hf (by omega) (by omega) hp
set_option maxRecDepth 100000 in
theorem lifted (os : Os) (started : os.Started) (H : Type) (enc : TypeId × Value → H) :
    ReturnsInHanded {} Try.checked os 3 .any (Rows.traceExcessSpec.pre6 enc Try.prog Try.f3 Rows.traceExcessRow.domain false) (Rows.traceExcessSpec.post enc Try.prog Try.f3 false true false false) := by
  refine returnsInHanded_of_change (C := Try.checked) own started (by kernel_rfl) Try.func3
    (ChangeSpec.witness6 (enc := enc) (C := Try.checked) false ⟨#[], #[.slice none 0 0, .int .i64 0, .agg #[.int .i64 0, .int .i64 0, .int .i64 0]], []⟩ 8 (by kernel_rfl) (by kernel_rfl) (by kernel_rfl) (by kernel_rfl)) ?_
  intro W base args ds gs before hval0 hW hcnd _
  have hval : ∀ (j : Nat) t v, Try.f3.params[j]? = some t → args[j]? = some v → Value.okWide Try.prog W .any base t v := hval0
  have hW' := hW
  obtain ⟨p, q, hA0, hV, _, hfz, hnd⟩ := hW'
  have hA : DataW.TrodAll enc Try.prog W 0 (fun _ => true) true Try.f3.params.toList args.toList ds p := hA0
  rw [Try.params3] at hA hval
  obtain ⟨v0, v1, v2, d0, d1, d2, p0, p1, p2, rfl, _, _, h0, h1, h2⟩ := trodAll_three hA
  obtain ⟨ls, hls, fls⟩ := open_lists Try.underlying22 Try.underlying40 (by kernel_rfl) Try.underlying50 (by kernel_rfl) (fun i hi => by match i, hi with | 0, _ => exact ⟨_, rfl, rfl, by kernel_rfl, Try.underlying3⟩ | 1, _ => exact ⟨_, rfl, rfl, by kernel_rfl, Try.underlying3⟩ | 2, _ => exact ⟨_, rfl, rfl, by kernel_rfl, Try.underlying3⟩ | 3, _ => exact ⟨_, rfl, rfl, by kernel_rfl, Try.underlying3⟩ | 4, _ => exact ⟨_, rfl, rfl, by kernel_rfl, Try.underlying3⟩ | 5, _ => exact ⟨_, rfl, rfl, by kernel_rfl, Try.underlying3⟩) (hval 0 22 v0 rfl rfl) h0
  obtain ⟨s, rfl, _, _, ws⟩ := open_int Try.underlying3 (hval 1 3 v1 rfl rfl) h1
  obtain ⟨c20, c21, c22, y20, y21, y22, m2, rfl, _, _, hy20, hy21, hy22⟩ := open_agg3 Try.underlying24 (by kernel_rfl) (by kernel_rfl) (hval 2 24 v2 rfl rfl) h2
  obtain ⟨q, e20, _, wq⟩ := DataW.trod_int Try.underlying3 hy20
  obtain ⟨d, e21, _, wd⟩ := DataW.trod_int Try.underlying3 hy21
  obtain ⟨t, e22, _, wt⟩ := DataW.trod_int Try.underlying3 hy22
  simp at e20 e21 e22
  subst e20 e21 e22
  refine (walk v0 ls s q d t W hls fls ws wq wd wt).mono fun e W' h => ?_
  exact law_post (f := Try.f3) rfl rfl Try.underlying4 (by kernel_rfl) (fun ds hd => by
    match ds, hd with
    | [_, _, _], _ => rfl) hW h

theorem over : Rows.traceExcessRow.holds Try.pinned (OpenSpec.ofChange Rows.traceExcessSpec) :=
  OpenClaim.holds_of_wide 3 Try.f3 rfl rfl rfl rfl rfl rfl rfl ⟨rfl, rfl, rfl, rfl, rfl⟩ rfl rfl rfl rfl rfl (by kernel_rfl) Try.func3 (by kernel_rfl)
    (of_decide_eq_true (by kernel_rfl)) (by unfold Func.isWrapper; first | (rw [if_pos (by decide +kernel)]; kernel_rfl) | (rw [if_neg (by decide +kernel)]; exact ⟨rfl, rfl⟩))
    (fun os started H enc _ => lifted os started H enc)

/-- THE STATEMENT. -/
theorem proved : Rows.TraceExcessSaid := over
end Go.Proofs.Ytfpifaccjfgfkaa.traceExcess
