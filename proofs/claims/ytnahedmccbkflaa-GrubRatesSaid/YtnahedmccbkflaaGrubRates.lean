/- GrubRates answers true at every load and every ratio. No condition. -/
import Derived.Test.YtnahedmccbkflaaGrubAwake
import Derived.WalkLawsBesides
import Derived.WalkSpells
import Derived.Outline
namespace Go.Proofs.Ytnahedmccbkflaa.grubRates
open Go.ChangeShapes Go.WideShapes Go.ChangeAt Go.RowKit Go.Joins

set_option maxHeartbeats 1000000 in
theorem walk_bad (a c k u : Int) (h : ¬ LoadMay a c k) (wk : (Lit.int .i64 k).wf = true) (w : World) :
    Calls Try.prog 3 #[.agg #[.int .i64 a, .int .i64 c, .int .i64 k], .int .i64 u] w (Yes w) := by
  have H := Lib.hid h
  have HW := Lib.hid wk
  clear h wk
  by_cases h0 : u < 0
  · go_enter Try.func3, Try.ntmps3
    go_wp2_with (first | (go_at_call 9; refine (spare_bad _ _ _ H.out HW.out _).mono ?_; rintro e w' ⟨rfl, rfl⟩; unfold loadBox) | (go_at_call 10; refine (rate_range _ _ _ _ (by omega) _).mono ?_; rintro e w' ⟨rfl, rfl⟩; unfold loadBox) | (go_at_call 11; refine (may_no _ _ _ H.out _).mono ?_; rintro e w' ⟨rfl, rfl⟩; unfold loadBox) | (go_at_call 12; refine (check_bad _ _ _ H.out HW.out _).mono ?_; rintro e w' ⟨rfl, rfl⟩; unfold loadBox) | (go_at_call 13; refine (awake_yes _).mono ?_; rintro e w' ⟨rfl, hb⟩))
    go_ret
    refine ⟨rfl, bel_end ?_ hb⟩
    repeat (with_reducible refine bel_alloc ?_)
    with_reducible exact Below.refl _ _
  · by_cases h1 : 1048576 < u
    · go_enter Try.func3, Try.ntmps3
      go_wp2_with (first | (go_at_call 9; refine (spare_bad _ _ _ H.out HW.out _).mono ?_; rintro e w' ⟨rfl, rfl⟩; unfold loadBox) | (go_at_call 10; refine (rate_range _ _ _ _ (by omega) _).mono ?_; rintro e w' ⟨rfl, rfl⟩; unfold loadBox) | (go_at_call 11; refine (may_no _ _ _ H.out _).mono ?_; rintro e w' ⟨rfl, rfl⟩; unfold loadBox) | (go_at_call 12; refine (check_bad _ _ _ H.out HW.out _).mono ?_; rintro e w' ⟨rfl, rfl⟩; unfold loadBox) | (go_at_call 13; refine (awake_yes _).mono ?_; rintro e w' ⟨rfl, hb⟩))
      go_ret
      refine ⟨rfl, bel_end ?_ hb⟩
      repeat (with_reducible refine bel_alloc ?_)
      with_reducible exact Below.refl _ _
    · have h2 : 0 ≤ u := by omega
      have h3 : u ≤ 1048576 := by omega
      clear h0 h1
      go_enter Try.func3, Try.ntmps3
      go_wp2_with (first | (go_at_call 9; refine (spare_bad _ _ _ H.out HW.out _).mono ?_; rintro e w' ⟨rfl, rfl⟩; unfold loadBox) | (go_at_call 10; refine (rate_bad _ _ _ _ (by omega) (by omega) H.out HW.out _).mono ?_; rintro e w' ⟨rfl, rfl⟩; unfold loadBox) | (go_at_call 11; refine (may_no _ _ _ H.out _).mono ?_; rintro e w' ⟨rfl, rfl⟩; unfold loadBox) | (go_at_call 12; refine (check_bad _ _ _ H.out HW.out _).mono ?_; rintro e w' ⟨rfl, rfl⟩; unfold loadBox) | (go_at_call 13; refine (awake_yes _).mono ?_; rintro e w' ⟨rfl, hb⟩))
      go_ret
      refine ⟨rfl, bel_end ?_ hb⟩
      repeat (with_reducible refine bel_alloc ?_)
      with_reducible exact Below.refl _ _

set_option maxHeartbeats 1000000 in
theorem walk_range (a c k u : Int) (h : LoadMay a c k) (hu : u < 0 ∨ 1048576 < u) (w : World) :
    Calls Try.prog 3 #[.agg #[.int .i64 a, .int .i64 c, .int .i64 k], .int .i64 u] w (Yes w) := by
  have H := Lib.hid h
  have HU := Lib.hid hu
  clear h
  generalize hs : spareOf a c k = s at *
  have Hs := Lib.hid hs
  clear hs
  by_cases h0 : u < 0
  · clear hu
    go_enter Try.func3, Try.ntmps3
    go_wp2_with (first | (go_at_call 9; refine (spare_ok _ _ _ H.out _).mono ?_; rw [Hs.out]; rintro e w' ⟨rfl, rfl⟩; unfold loadBox) | (go_at_call 10; refine (rate_range _ _ _ _ HU.out _).mono ?_; rintro e w' ⟨rfl, rfl⟩; unfold loadBox) | (go_at_call 11; refine (may_yes _ _ _ H.out _).mono ?_; rintro e w' ⟨rfl, rfl⟩; unfold loadBox) | (go_at_call 12; refine (check_ok _ _ _ H.out _).mono ?_; rintro e w' ⟨rfl, rfl⟩; unfold loadBox) | (go_at_call 14; refine (refSpare _ _ _ H.out _).mono ?_; rw [Hs.out]; rintro e w' ⟨rfl, rfl⟩) | (go_at_call 13; refine (awake_yes _).mono ?_; rintro e w' ⟨rfl, hb⟩))
    go_ret
    refine ⟨rfl, bel_end ?_ hb⟩
    repeat (with_reducible refine bel_alloc ?_)
    with_reducible exact Below.refl _ _
  · have h1 : 1048576 < u := by omega
    clear hu
    go_enter Try.func3, Try.ntmps3
    go_wp2_with (first | (go_at_call 9; refine (spare_ok _ _ _ H.out _).mono ?_; rw [Hs.out]; rintro e w' ⟨rfl, rfl⟩; unfold loadBox) | (go_at_call 10; refine (rate_range _ _ _ _ HU.out _).mono ?_; rintro e w' ⟨rfl, rfl⟩; unfold loadBox) | (go_at_call 11; refine (may_yes _ _ _ H.out _).mono ?_; rintro e w' ⟨rfl, rfl⟩; unfold loadBox) | (go_at_call 12; refine (check_ok _ _ _ H.out _).mono ?_; rintro e w' ⟨rfl, rfl⟩; unfold loadBox) | (go_at_call 14; refine (refSpare _ _ _ H.out _).mono ?_; rw [Hs.out]; rintro e w' ⟨rfl, rfl⟩) | (go_at_call 13; refine (awake_yes _).mono ?_; rintro e w' ⟨rfl, hb⟩))
    go_ret
    refine ⟨rfl, bel_end ?_ hb⟩
    repeat (with_reducible refine bel_alloc ?_)
    with_reducible exact Below.refl _ _

set_option maxHeartbeats 1000000 in
theorem walk_ok (a c k u : Int) (h : LoadMay a c k) (h2 : 0 ≤ u) (h3 : u ≤ 1048576) (w : World) :
    Calls Try.prog 3 #[.agg #[.int .i64 a, .int .i64 c, .int .i64 k], .int .i64 u] w (Yes w) := by
  obtain ⟨r1, _, r2⟩ := spareOf_range h
  obtain ⟨v, hv⟩ : ∃ v, rateOf u a c k = v := ⟨_, rfl⟩
  have hv' : v = max u (1048576 - spareOf a c k) := by rw [← hv]; rfl
  have H := Lib.hid h
  have Hv := Lib.hid hv
  clear h hv
  generalize hs : spareOf a c k = s at *
  have Hs := Lib.hid hs
  clear hs
  by_cases hm : u ≤ 1048576 - s
  · obtain rfl : v = 1048576 - s := by omega
    clear hv'
    go_enter Try.func3, Try.ntmps3
    go_wp2_with (first | (go_at_call 9; refine (spare_ok _ _ _ H.out _).mono ?_; rw [Hs.out]; rintro e w' ⟨rfl, rfl⟩; unfold loadBox) | (go_at_call 10; refine (rate_ok _ _ _ _ (by omega) (by omega) H.out _).mono ?_; rw [Hv.out]; rintro e w' ⟨rfl, rfl⟩; unfold loadBox) | (go_at_call 11; refine (may_yes _ _ _ H.out _).mono ?_; rintro e w' ⟨rfl, rfl⟩; unfold loadBox) | (go_at_call 12; refine (check_ok _ _ _ H.out _).mono ?_; rintro e w' ⟨rfl, rfl⟩; unfold loadBox) | (go_at_call 14; refine (refSpare _ _ _ H.out _).mono ?_; rw [Hs.out]; rintro e w' ⟨rfl, rfl⟩) | (go_at_call 13; refine (awake_yes _).mono ?_; rintro e w' ⟨rfl, hb⟩))
    all_goals
      go_ret
      refine ⟨rfl, bel_end ?_ hb⟩
      repeat (with_reducible refine bel_alloc ?_)
      with_reducible exact Below.refl _ _
  · obtain rfl : v = u := by omega
    clear hv'
    go_enter Try.func3, Try.ntmps3
    go_wp2_with (first | (go_at_call 9; refine (spare_ok _ _ _ H.out _).mono ?_; rw [Hs.out]; rintro e w' ⟨rfl, rfl⟩; unfold loadBox) | (go_at_call 10; refine (rate_ok _ _ _ _ (by omega) (by omega) H.out _).mono ?_; rw [Hv.out]; rintro e w' ⟨rfl, rfl⟩; unfold loadBox) | (go_at_call 11; refine (may_yes _ _ _ H.out _).mono ?_; rintro e w' ⟨rfl, rfl⟩; unfold loadBox) | (go_at_call 12; refine (check_ok _ _ _ H.out _).mono ?_; rintro e w' ⟨rfl, rfl⟩; unfold loadBox) | (go_at_call 14; refine (refSpare _ _ _ H.out _).mono ?_; rw [Hs.out]; rintro e w' ⟨rfl, rfl⟩) | (go_at_call 13; refine (awake_yes _).mono ?_; rintro e w' ⟨rfl, hb⟩))
    go_ret
    refine ⟨rfl, bel_end ?_ hb⟩
    repeat (with_reducible refine bel_alloc ?_)
    with_reducible exact Below.refl _ _

theorem walk (a c k u : Int) (wk : (Lit.int .i64 k).wf = true) (w : World) :
    Calls Try.prog 3 #[.agg #[.int .i64 a, .int .i64 c, .int .i64 k], .int .i64 u] w (Yes w) := by
  by_cases h : LoadMay a c k
  · by_cases h2 : 0 ≤ u ∧ u ≤ 1048576
    · exact walk_ok a c k u h h2.1 h2.2 w
    · exact walk_range a c k u h (by omega) w
  · exact walk_bad a c k u h wk w

set_option maxRecDepth 100000 in
theorem lifted (os : Os) (started : os.Started) (H : Type) (enc : TypeId × Value → H) :
    ReturnsInHanded {} Try.checked os 3 .any (Rows.grubRatesSpec.pre6 enc Try.prog Try.f3 Rows.grubRatesRow.domain false) (Rows.grubRatesSpec.post enc Try.prog Try.f3 false true false false) := by
  refine returnsInHanded_of_change (C := Try.checked) own started (by kernel_rfl) Try.func3
    (ChangeSpec.witness6 (enc := enc) (C := Try.checked) false ⟨#[], #[.agg #[.int .i64 0, .int .i64 0, .int .i64 0], .int .i64 0], []⟩ 8 (by kernel_rfl) (by kernel_rfl) (by kernel_rfl) (by kernel_rfl)) ?_
  intro W base args ds gs before hval0 hW hcnd _
  have hval : ∀ (j : Nat) t v, Try.f3.params[j]? = some t → args[j]? = some v → Value.okWide Try.prog W .any base t v := hval0
  have hW' := hW
  obtain ⟨p, q, hA0, hV, _, hfz, hnd⟩ := hW'
  have hA : DataW.TrodAll enc Try.prog W 0 (fun _ => true) true Try.f3.params.toList args.toList ds p := hA0
  rw [Try.params3] at hA hval
  obtain ⟨v0, v1, d0, d1, p0, p1, rfl, _, _, h0, h1⟩ := trodAll_two hA
  obtain ⟨c0, c1, c2, y0, y1, y2, m, rfl, _, _, hy0, hy1, hy2⟩ := open_agg3 Try.underlying23 (by kernel_rfl) (by kernel_rfl) (hval 0 23 v0 rfl rfl) h0
  obtain ⟨a, e0, _, wa⟩ := DataW.trod_int Try.underlying3 hy0
  obtain ⟨c, e1, _, wc⟩ := DataW.trod_int Try.underlying3 hy1
  obtain ⟨k, e2, _, wk⟩ := DataW.trod_int Try.underlying3 hy2
  simp at e0 e1 e2
  subst e0 e1 e2
  obtain ⟨u, rfl, _, _, wu⟩ := open_int Try.underlying3 (hval 1 3 v1 rfl rfl) h1
  refine (walk a c k u wk W).mono fun e W' h => ?_
  exact law_post (f := Try.f3) rfl rfl Try.underlying4 (by kernel_rfl) (fun ds hd => by
    match ds, hd with
    | [_, _], _ => rfl) hW h

theorem over : Rows.grubRatesRow.holds Try.pinned (OpenSpec.ofChange Rows.grubRatesSpec) :=
  OpenClaim.holds_of_wide 3 Try.f3 rfl rfl rfl rfl rfl rfl rfl ⟨rfl, rfl, rfl, rfl, rfl⟩ rfl rfl rfl rfl rfl (by kernel_rfl) Try.func3 (by kernel_rfl)
    (of_decide_eq_true (by kernel_rfl)) (by unfold Func.isWrapper; first | (rw [if_pos (by decide +kernel)]; kernel_rfl) | (rw [if_neg (by decide +kernel)]; exact ⟨rfl, rfl⟩))
    (fun os started H enc _ => lifted os started H enc)

theorem proved : Rows.GrubRatesSaid := over
#print axioms proved
end Go.Proofs.Ytnahedmccbkflaa.grubRates
