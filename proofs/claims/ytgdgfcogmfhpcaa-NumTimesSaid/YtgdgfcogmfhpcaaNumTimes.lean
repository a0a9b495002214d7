/- NumTimes answers true at every two numbers. No condition. -/
import Derived.Test.YtgdgfcogmfhpcaaNumAwake
import Derived.Test.YtgdgfcogmfhpcaaNumTime
import Derived.WalkLawsBesides
import Derived.WalkSpells
import Derived.Outline
namespace Go.Proofs.Ytgdgfcogmfhpcaa.numTimes
open Go.ChangeShapes Go.WideShapes Go.ChangeAt Go.RowKit Go.Joins

set_option maxRecDepth 100000 in
set_option maxHeartbeats 2000000 in
theorem low (t d : Int) (wd : d ≤ 9223372036854775807) (h : t < 0) (w : World) : Calls Try.prog 9 #[.int .i64 t, .int .i64 d] w (Yes w) := by
  have T := Lib.hid (time_any t)
  have A := Lib.hid (after_any t d wd)
  rw [timeErr_low h] at T
  rw [(after_low h).1, (after_low h).2] at A
  go_enter Try.func9, Try.ntmps9
  go_wp2_with fail
  refine (A.out _).mono ?_
  rintro e w1 ⟨rfl, rfl⟩
  go_wp2_with fail
  refine (T.out _).mono ?_
  rintro e w1 ⟨rfl, rfl⟩
  go_wp2_with (go_at_call 12; refine (awake_yes _).mono ?_; rintro e w' ⟨rfl, hb⟩)
  go_ret
  exact ⟨rfl, hb⟩
set_option maxRecDepth 100000 in
set_option maxHeartbeats 2000000 in
theorem high (t d : Int) (wd : d ≤ 9223372036854775807) (h : 1099511627776 ≤ t) (w : World) : Calls Try.prog 9 #[.int .i64 t, .int .i64 d] w (Yes w) := by
  have T := Lib.hid (time_any t)
  have A := Lib.hid (after_any t d wd)
  rw [timeErr_high h] at T
  rw [(after_high h).1, (after_high h).2] at A
  go_enter Try.func9, Try.ntmps9
  go_wp2_with fail
  refine (A.out _).mono ?_
  rintro e w1 ⟨rfl, rfl⟩
  go_wp2_with fail
  refine (T.out _).mono ?_
  rintro e w1 ⟨rfl, rfl⟩
  go_wp2_with (go_at_call 12; refine (awake_yes _).mono ?_; rintro e w' ⟨rfl, hb⟩)
  go_ret
  exact ⟨rfl, hb⟩
set_option maxRecDepth 100000 in
set_option maxHeartbeats 2000000 in
theorem neg (t d : Int) (wd : d ≤ 9223372036854775807) (h : 0 ≤ t) (h' : t < 1099511627776) (hd : d < 0) (w : World) : Calls Try.prog 9 #[.int .i64 t, .int .i64 d] w (Yes w) := by
  have T := Lib.hid (time_any t)
  have A := Lib.hid (after_any t d wd)
  rw [timeErr_ok h h'] at T
  rw [(after_neg h h' hd).1, (after_neg h h' hd).2] at A
  go_enter Try.func9, Try.ntmps9
  go_wp2_with fail
  refine (A.out _).mono ?_
  rintro e w1 ⟨rfl, rfl⟩
  go_wp2_with fail
  refine (T.out _).mono ?_
  rintro e w1 ⟨rfl, rfl⟩
  go_wp2_with (go_at_call 12; refine (awake_yes _).mono ?_; rintro e w' ⟨rfl, hb⟩)
  go_ret
  exact ⟨rfl, hb⟩
set_option maxRecDepth 100000 in
set_option maxHeartbeats 2000000 in
theorem far (t d : Int) (wd : d ≤ 9223372036854775807) (h : 0 ≤ t) (h' : t < 1099511627776) (hd : 1099511627776 ≤ d) (w : World) : Calls Try.prog 9 #[.int .i64 t, .int .i64 d] w (Yes w) := by
  have T := Lib.hid (time_any t)
  have A := Lib.hid (after_any t d wd)
  rw [timeErr_ok h h'] at T
  rw [(after_over h h' (by omega) (by omega)).1, (after_over h h' (by omega) (by omega)).2] at A
  go_enter Try.func9, Try.ntmps9
  go_wp2_with fail
  refine (A.out _).mono ?_
  rintro e w1 ⟨rfl, rfl⟩
  go_wp2_with fail
  refine (T.out _).mono ?_
  rintro e w1 ⟨rfl, rfl⟩
  go_wp2_with (go_at_call 12; refine (awake_yes _).mono ?_; rintro e w' ⟨rfl, hb⟩)
  go_ret
  exact ⟨rfl, hb⟩
set_option maxRecDepth 100000 in
set_option maxHeartbeats 2000000 in
theorem beyond (t d : Int) (wd : d ≤ 9223372036854775807) (h : 0 ≤ t) (h' : t < 1099511627776) (hd : 0 ≤ d) (hd' : d < 1099511627776) (hs : 1099511627776 ≤ t + d) (w : World) : Calls Try.prog 9 #[.int .i64 t, .int .i64 d] w (Yes w) := by
  have T := Lib.hid (time_any t)
  have A := Lib.hid (after_any t d wd)
  rw [timeErr_ok h h'] at T
  rw [(after_over h h' hd hs).1, (after_over h h' hd hs).2] at A
  go_enter Try.func9, Try.ntmps9
  go_wp2_with fail
  refine (A.out _).mono ?_
  rintro e w1 ⟨rfl, rfl⟩
  go_wp2_with fail
  refine (T.out _).mono ?_
  rintro e w1 ⟨rfl, rfl⟩
  go_wp2_with (go_at_call 12; refine (awake_yes _).mono ?_; rintro e w' ⟨rfl, hb⟩)
  go_ret
  exact ⟨rfl, hb⟩
set_option maxRecDepth 100000 in
set_option maxHeartbeats 2000000 in
theorem fits (t d : Int) (wd : d ≤ 9223372036854775807) (h : 0 ≤ t) (h' : t < 1099511627776) (hd : 0 ≤ d) (hd' : d < 1099511627776) (hs : t + d < 1099511627776) (w : World) : Calls Try.prog 9 #[.int .i64 t, .int .i64 d] w (Yes w) := by
  have T := Lib.hid (time_any t)
  have A := Lib.hid (after_any t d wd)
  rw [timeErr_ok h h'] at T
  rw [(after_ok h hd hs).1, (after_ok h hd hs).2] at A
  go_enter Try.func9, Try.ntmps9
  go_wp2_with fail
  refine (A.out _).mono ?_
  rintro e w1 ⟨rfl, rfl⟩
  go_wp2_with fail
  refine (T.out _).mono ?_
  rintro e w1 ⟨rfl, rfl⟩
  go_wp2_with (go_at_call 12; refine (awake_yes _).mono ?_; rintro e w' ⟨rfl, hb⟩)
  go_ret
  exact ⟨rfl, hb⟩
theorem walk (t d : Int) (_ : (Lit.int .i64 t).wf = true) (wd : (Lit.int .i64 d).wf = true) (w : World) : Calls Try.prog 9 #[.int .i64 t, .int .i64 d] w (Yes w) := by
  have hd' := (bounds_i64 wd).2
  by_cases h0 : t < 0
  · exact low t d hd' h0 w
  by_cases h1 : 1099511627776 ≤ t
  · exact high t d hd' h1 w
  by_cases h2 : d < 0
  · exact neg t d hd' (by omega) (by omega) h2 w
  by_cases h3 : 1099511627776 ≤ d
  · exact far t d hd' (by omega) (by omega) h3 w
  by_cases h4 : 1099511627776 ≤ t + d
  · exact beyond t d hd' (by omega) (by omega) (by omega) (by omega) h4 w
  · exact fits t d hd' (by omega) (by omega) (by omega) (by omega) (by omega) w

set_option maxRecDepth 100000 in
theorem lifted (os : Os) (started : os.Started) (H : Type) (enc : TypeId × Value → H) :
    ReturnsInHanded {} Try.checked os 9 .any (Rows.numTimesSpec.pre6 enc Try.prog Try.f9 Rows.numTimesRow.domain false) (Rows.numTimesSpec.post enc Try.prog Try.f9 false true false false) := by
  refine returnsInHanded_of_change (C := Try.checked) own started (by kernel_rfl) Try.func9
    (ChangeSpec.witness6 (enc := enc) (C := Try.checked) false ⟨#[], #[.int .i64 0, .int .i64 0], []⟩ 8 (by kernel_rfl) (by kernel_rfl) (by kernel_rfl) (by kernel_rfl)) ?_
  intro W base args ds gs before hval0 hW hcnd _
  have hval : ∀ (j : Nat) t v, Try.f9.params[j]? = some t → args[j]? = some v → Value.okWide Try.prog W .any base t v := hval0
  have hW' := hW
  obtain ⟨p, q, hA0, hV, _, hfz, hnd⟩ := hW'
  have hA : DataW.TrodAll enc Try.prog W 0 (fun _ => true) true Try.f9.params.toList args.toList ds p := hA0
  rw [Try.params9] at hA hval
  obtain ⟨v0, v1, d0, d1, p0, p1, rfl, _, _, h0, h1⟩ := trodAll_two hA
  obtain ⟨t, rfl, _, _, wt⟩ := open_int Try.underlying3 (hval 0 3 v0 rfl rfl) h0
  obtain ⟨d, rfl, _, _, wd⟩ := open_int Try.underlying3 (hval 1 3 v1 rfl rfl) h1
  refine (walk t d wt wd W).mono fun e W' h => ?_
  exact law_post (f := Try.f9) rfl rfl Try.underlying4 (by kernel_rfl) (fun ds hd => by
    match ds, hd with
    | [_, _], _ => rfl) hW h

theorem over : Rows.numTimesRow.holds Try.pinned (OpenSpec.ofChange Rows.numTimesSpec) :=
  OpenClaim.holds_of_wide 9 Try.f9 rfl rfl rfl rfl rfl rfl rfl ⟨rfl, rfl, rfl, rfl, rfl⟩ rfl rfl rfl rfl rfl (by kernel_rfl) Try.func9 (by kernel_rfl)
    (of_decide_eq_true (by kernel_rfl)) (by unfold Func.isWrapper; first | (rw [if_pos (by decide +kernel)]; kernel_rfl) | (rw [if_neg (by decide +kernel)]; exact ⟨rfl, rfl⟩))
    (fun os started H enc _ => lifted os started H enc)

/-- THE STATEMENT. -/
theorem proved : Rows.NumTimesSaid := over
end Go.Proofs.Ytgdgfcogmfhpcaa.numTimes
