/- RatioParams answers true at any params. No condition. -/
import Derived.Test.YtbjahjepgjaomaaRatioRef
import Derived.Test.YtbjahjepgjaomaaRatioAwake
namespace Go.Proofs.Ytbjahjepgjaomaa.ratioParams
open Go.ChangeShapes Go.WideShapes Go.ChangeAt Go.RowKit Go.Joins

theorem plain (q d t : Int) (h : ParamsMay q d t) : ∃ a b : Int, divNum q 1048576 t true = a ∧ divErr q 1048576 t true = 0 ∧ divNum q 1048576 d true = b ∧ divErr q 1048576 d true = 0 ∧ 1 ≤ a ∧ a ≤ b ∧ b ≤ 1048576 := by
  obtain ⟨h1, h2, h3, h4⟩ := h
  obtain ⟨q, rfl⟩ := Int.eq_ofNat_of_zero_le (show 0 ≤ q by omega)
  obtain ⟨d, rfl⟩ := Int.eq_ofNat_of_zero_le (show 0 ≤ d by omega)
  obtain ⟨t, rfl⟩ := Int.eq_ofNat_of_zero_le (show 0 ≤ t by omega)
  have f1 : quot true (q * 1048576) d ≤ 1048576 := quot_fit true (by omega) (by rw [Nat.mul_comm]; exact Nat.mul_le_mul_left _ (by omega))
  have f2 : quot true (q * 1048576) t ≤ quot true (q * 1048576) d := quot_anti true (by omega) (by omega)
  have f3 : 0 < quot true (q * 1048576) t := (quot_up_gt (show 0 < t by omega)).2 (by omega)
  have r1 := divRes_nat (x := q) (y := 1048576) (c := t) (up := true) (by omega) (Nat.le_trans f2 (Nat.le_trans f1 (by omega)))
  have r2 := divRes_nat (x := q) (y := 1048576) (c := d) (up := true) (by omega) (Nat.le_trans f1 (by omega))
  exact ⟨_, _, r1.1, r1.2, r2.1, r2.2, by omega, by omega, by omega⟩

set_option maxHeartbeats 400000 in
theorem refMay_yes (q d t : Int) (h : ParamsMay q d t) (w : World) : Calls Try.prog 18 #[.agg #[.int .i64 q, .int .i64 d, .int .i64 t]] w fun e w' => e = .returned (.bool true) ∧ w' = w.alloc (paramsBox q d t) := by
  obtain ⟨h1, h2, h3, h4⟩ := h
  unfold paramsBox
  go_enter Try.func18, Try.ntmps18
  go_wp2
  go_ret
  exact ⟨rfl, rfl⟩
set_option maxHeartbeats 400000 in
theorem refMay_no (q d t : Int) (h : ¬ ParamsMay q d t) (w : World) : Calls Try.prog 18 #[.agg #[.int .i64 q, .int .i64 d, .int .i64 t]] w fun e w' => e = .returned (.bool false) ∧ w' = w.alloc (paramsBox q d t) := by
  unfold ParamsMay at h
  unfold paramsBox
  by_cases h1 : 1 ≤ q
  · by_cases h2 : q ≤ d
    · by_cases h3 : d ≤ t
      · have h4 : decide (t ≤ 1073741824) = false := by simp; omega
        clear h
        go_enter Try.func18, Try.ntmps18
        go_wp2
        go_ret
        exact ⟨rfl, rfl⟩
      · have h4 : decide (d ≤ t) = false := by simp; omega
        clear h3
        clear h
        go_enter Try.func18, Try.ntmps18
        go_wp2
        go_ret
        exact ⟨rfl, rfl⟩
    · have h4 : decide (q ≤ d) = false := by simp; omega
      clear h2
      clear h
      go_enter Try.func18, Try.ntmps18
      go_wp2
      go_ret
      exact ⟨rfl, rfl⟩
  · have h4 : decide (1 ≤ q) = false := by simp; omega
    clear h1
    clear h
    go_enter Try.func18, Try.ntmps18
    go_wp2
    go_ret
    exact ⟨rfl, rfl⟩

set_option maxRecDepth 100000 in
set_option maxHeartbeats 2000000 in
theorem walk_no (q d t : Int) (h : ¬ ParamsMay q d t) (w : World) : Calls Try.prog 7 #[.agg #[.int .i64 q, .int .i64 d, .int .i64 t]] w (Yes w) := by
  have C := Lib.hid (pcheck_bad q d t h)
  have U := Lib.hid (use_bad q d t h)
  have D := Lib.hid (dense_bad q d t h)
  have M := Lib.hid (refMay_no q d t h)
  clear h
  unfold paramsBox at *
  go_enter Try.func7, Try.ntmps7
  go_wp2_with (first | (go_at_call 15; refine (C.out _).mono ?_; rintro e w' ⟨rfl, rfl⟩) | (go_at_call 16; refine (U.out _).mono ?_; rintro e w' ⟨rfl, rfl⟩) | (go_at_call 17; refine (D.out _).mono ?_; rintro e w' ⟨rfl, rfl⟩) | (go_at_call 18; refine (M.out _).mono ?_; rintro e w' ⟨rfl, rfl⟩) | (go_at_call 14; refine (awake_yes _).mono ?_; rintro e w' ⟨rfl, hb⟩))
  go_ret
  refine ⟨rfl, bel_end ?_ hb⟩
  repeat (with_reducible refine bel_alloc ?_)
  with_reducible exact Below.refl _ _

set_option maxRecDepth 100000 in
set_option maxHeartbeats 2000000 in
theorem walk_yes (q d t : Int) (h : ParamsMay q d t) (w : World) : Calls Try.prog 7 #[.agg #[.int .i64 q, .int .i64 d, .int .i64 t]] w (Yes w) := by
  obtain ⟨a, b, a1, a2, b1, b2, p1, p2, p3⟩ := plain q d t h
  have hb := h
  obtain ⟨h1, h2, h3, h4⟩ := hb
  have C := Lib.hid (pcheck_ok q d t h)
  have U := Lib.hid (use_ok q d t h)
  have D := Lib.hid (dense_ok q d t h)
  have M := Lib.hid (refMay_yes q d t h)
  have T1 := Lib.hid (told_yes q 1048576 t (by omega) (by omega) (by omega) true a 0 a1.symm a2.symm)
  have T2 := Lib.hid (told_yes q 1048576 d (by omega) (by omega) (by omega) true b 0 b1.symm b2.symm)
  rw [a1, a2] at U
  rw [b1, b2] at D
  clear h a1 a2 b1 b2
  unfold paramsBox at *
  go_enter Try.func7, Try.ntmps7
  go_wp2_with (go_at_call 15; refine (C.out _).mono ?_; rintro e w' ⟨rfl, rfl⟩)
  refine (U.out _).mono ?_
  rintro e w1 ⟨rfl, b1⟩
  have k1 := bcell b1
  have s1 := b1.size
  simp only [World.size_alloc] at s1
  have l1 : w.heap.size < w1.heap.size := by omega
  go_wp2_with fail
  refine (D.out _).mono ?_
  rintro e w2 ⟨rfl, b2⟩
  have k2 := bcell b2
  have s2 := b2.size
  have l2 : w.heap.size < w2.heap.size := by omega
  go_wp2_with (go_at_call 18; refine (M.out _).mono ?_; rintro e w' ⟨rfl, rfl⟩)
  refine (T1.out _).mono ?_
  rintro e w3 ⟨rfl, b3⟩
  have k3 := bcell b3
  have s3 := b3.size
  simp only [World.size_alloc] at s3
  have l3 : w.heap.size < w3.heap.size := by omega
  go_wp2_with fail
  refine (T2.out _).mono ?_
  rintro e w4 ⟨rfl, b4⟩
  have bb := Lib.hid (bel_end (bel_end (bel_alloc (bel_end (bel_end (bel_alloc (bel_alloc (Below.refl _ w))) b1) b2)) b3) b4)
  clear k1 k2 k3 s1 s2 s3 l1 l2 l3 b1 b2 b3 b4
  go_wp2_with fail
  refine (awake_yes _).mono ?_
  rintro e w5 ⟨rfl, b5⟩
  go_wp2_with fail
  go_ret
  exact ⟨rfl, bel_end bb.out b5⟩

theorem walk (q d t : Int) (_ : (Lit.int .i64 q).wf = true) (_ : (Lit.int .i64 d).wf = true) (_ : (Lit.int .i64 t).wf = true) (w : World) : Calls Try.prog 7 #[.agg #[.int .i64 q, .int .i64 d, .int .i64 t]] w (Yes w) := by
  by_cases h : ParamsMay q d t
  · exact walk_yes q d t h w
  · exact walk_no q d t h w

set_option maxRecDepth 100000 in
theorem lifted (os : Os) (started : os.Started) (H : Type) (enc : TypeId × Value → H) :
    ReturnsInHanded {} Try.checked os 7 .any (Rows.ratioParamsSpec.pre6 enc Try.prog Try.f7 Rows.ratioParamsRow.domain false) (Rows.ratioParamsSpec.post enc Try.prog Try.f7 false true false false) := by
  refine returnsInHanded_of_change (C := Try.checked) own started (by kernel_rfl) Try.func7
    (ChangeSpec.witness6 (enc := enc) (C := Try.checked) false ⟨#[], #[.agg #[.int .i64 0, .int .i64 0, .int .i64 0]], []⟩ 8 (by kernel_rfl) (by kernel_rfl) (by kernel_rfl) (by kernel_rfl)) ?_
  intro W base args ds gs before hval0 hW hcnd _
  have hval : ∀ (j : Nat) t v, Try.f7.params[j]? = some t → args[j]? = some v → Value.okWide Try.prog W .any base t v := hval0
  have hW' := hW
  obtain ⟨p, q, hA0, hV, _, hfz, hnd⟩ := hW'
  have hA : DataW.TrodAll enc Try.prog W 0 (fun _ => true) true Try.f7.params.toList args.toList ds p := hA0
  rw [Try.params7] at hA hval
  obtain ⟨v0, d0, rfl, _, h0⟩ := trodAll_one hA
  obtain ⟨c00, c01, c02, y00, y01, y02, m0, rfl, _, _, hy00, hy01, hy02⟩ := open_agg3 Try.underlying35 (by kernel_rfl) (by kernel_rfl) (hval 0 35 v0 rfl rfl) h0
  obtain ⟨q, e00, _, wq⟩ := DataW.trod_int Try.underlying3 hy00
  obtain ⟨d, e01, _, wd⟩ := DataW.trod_int Try.underlying3 hy01
  obtain ⟨t, e02, _, wt⟩ := DataW.trod_int Try.underlying3 hy02
  simp at e00 e01 e02
  subst e00 e01 e02
  refine (walk q d t wq wd wt W).mono fun e W' h => ?_
  exact law_post (f := Try.f7) rfl rfl Try.underlying4 (by kernel_rfl) (fun ds hd => by
    match ds, hd with
    | [_], _ => rfl) hW h

theorem over : Rows.ratioParamsRow.holds Try.pinned (OpenSpec.ofChange Rows.ratioParamsSpec) :=
  OpenClaim.holds_of_wide 7 Try.f7 rfl rfl rfl rfl rfl rfl rfl ⟨rfl, rfl, rfl, rfl, rfl⟩ rfl rfl rfl rfl rfl (by kernel_rfl) Try.func7 (by kernel_rfl)
    (of_decide_eq_true (by kernel_rfl)) (by unfold Func.isWrapper; first | (rw [if_pos (by decide +kernel)]; kernel_rfl) | (rw [if_neg (by decide +kernel)]; exact ⟨rfl, rfl⟩))
    (fun os started H enc _ => lifted os started H enc)

/-- THE STATEMENT. -/
theorem proved : Rows.RatioParamsSaid := over
end Go.Proofs.Ytbjahjepgjaomaa.ratioParams
