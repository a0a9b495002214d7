/- GrubOrder answers true at every load, every ratio and every increase. No condition. -/
import Derived.Test.YtnahedmccbkflaaGrubAwake
import Derived.WalkLawsBesides
import Derived.WalkSpells
import Derived.Outline
namespace Go.Proofs.Ytnahedmccbkflaa.grubOrder
open Go.ChangeShapes Go.WideShapes Go.ChangeAt Go.RowKit Go.Joins

/-! ### the plain law -/
theorem spare_more {a c k m : Int} (hk : 1 ≤ k) (hm : 0 ≤ m) : spareOf (a + m) c k ≤ spareOf a c k := by
  unfold spareOf
  exact Int.ediv_le_ediv (by omega) (by omega)
theorem spare_half {a c k : Int} (hk : 1 ≤ k) (hc : 0 ≤ c) : spareOf a (c / 2) k ≤ spareOf a c k := by
  unfold spareOf
  have : c / 2 * k ≤ c * k := Int.mul_le_mul_of_nonneg_right (by omega) (by omega)
  exact Int.ediv_le_ediv (by omega) (by omega)
theorem spare_all {c k : Int} : spareOf (c * k) c k = 0 := by
  unfold spareOf
  rw [Int.sub_self]; simp

/-! ### the walk -/
set_option maxHeartbeats 1000000 in
theorem walk_no (a c k u m : Int) (h : ¬ LoadMay a c k) (w : World) :
    Calls Try.prog 4 #[.agg #[.int .i64 a, .int .i64 c, .int .i64 k], .int .i64 u, .int .i64 m] w (Yes w) := by
  have H := Lib.hid h
  clear h
  go_enter Try.func4, Try.ntmps4
  go_wp2_with (first | (go_at_call 11; refine (may_no _ _ _ H.out _).mono ?_; rintro e w' ⟨rfl, rfl⟩; unfold loadBox) | (go_at_call 13; refine (awake_yes _).mono ?_; rintro e w' ⟨rfl, hb⟩))
  go_ret
  refine ⟨rfl, bel_end ?_ hb⟩
  repeat (with_reducible refine bel_alloc ?_)
  with_reducible exact Below.refl _ _

set_option maxHeartbeats 2000000 in
theorem walk_out (a c k u m : Int) (h : LoadMay a c k) (hu : u < 0 ∨ 1048576 < u ∨ m < 0 ∨ 67108864 - a < m) (w : World) :
    Calls Try.prog 4 #[.agg #[.int .i64 a, .int .i64 c, .int .i64 k], .int .i64 u, .int .i64 m] w (Yes w) := by
  have ha := h.1
  have ha' := h.2.1
  have H := Lib.hid h
  clear h
  by_cases h0 : 0 ≤ u
  · by_cases h1 : u ≤ 1048576
    · by_cases h2 : 0 ≤ m
      · have h3 : 67108864 - a < m := by omega
        clear hu
        go_enter Try.func4, Try.ntmps4
        go_wp2_with (first | (go_at_call 11; refine (may_yes _ _ _ H.out _).mono ?_; rintro e w' ⟨rfl, rfl⟩; unfold loadBox) | (go_at_call 13; refine (awake_yes _).mono ?_; rintro e w' ⟨rfl, hb⟩))
        go_ret
        refine ⟨rfl, bel_end ?_ hb⟩
        repeat (with_reducible refine bel_alloc ?_)
        with_reducible exact Below.refl _ _
      · have h3 : m < 0 := by omega
        clear hu h2
        go_enter Try.func4, Try.ntmps4
        go_wp2_with (first | (go_at_call 11; refine (may_yes _ _ _ H.out _).mono ?_; rintro e w' ⟨rfl, rfl⟩; unfold loadBox) | (go_at_call 13; refine (awake_yes _).mono ?_; rintro e w' ⟨rfl, hb⟩))
        go_ret
        refine ⟨rfl, bel_end ?_ hb⟩
        repeat (with_reducible refine bel_alloc ?_)
        with_reducible exact Below.refl _ _
    · have h3 : 1048576 < u := by omega
      clear hu h1
      go_enter Try.func4, Try.ntmps4
      go_wp2_with (first | (go_at_call 11; refine (may_yes _ _ _ H.out _).mono ?_; rintro e w' ⟨rfl, rfl⟩; unfold loadBox) | (go_at_call 13; refine (awake_yes _).mono ?_; rintro e w' ⟨rfl, hb⟩))
      go_ret
      refine ⟨rfl, bel_end ?_ hb⟩
      repeat (with_reducible refine bel_alloc ?_)
      with_reducible exact Below.refl _ _
  · have h3 : u < 0 := by omega
    clear hu h0
    go_enter Try.func4, Try.ntmps4
    go_wp2_with (first | (go_at_call 11; refine (may_yes _ _ _ H.out _).mono ?_; rintro e w' ⟨rfl, rfl⟩; unfold loadBox) | (go_at_call 13; refine (awake_yes _).mono ?_; rintro e w' ⟨rfl, hb⟩))
    go_ret
    refine ⟨rfl, bel_end ?_ hb⟩
    repeat (with_reducible refine bel_alloc ?_)
    with_reducible exact Below.refl _ _

set_option maxHeartbeats 2000000 in
theorem inner_walk (a c k u m : Int) (h : LoadMay a c k) (h1 : 0 ≤ u) (h2 : u ≤ 1048576) (h3 : 0 ≤ m) (h4 : m ≤ 67108864 - a) (w : World) :
    Calls Try.prog 4 #[.agg #[.int .i64 a, .int .i64 c, .int .i64 k], .int .i64 u, .int .i64 m] w (Yes w) := by
  have H := Lib.hid h
  obtain ⟨ha, ha', hc, hc', hk, hk'⟩ := h
  obtain ⟨q1, q2⟩ := mul_le16 hc hc' hk hk'
  have s1 := spareOf_range H.out
  have s2 := spare_more (a := a) (c := c) hk h3
  have s3 := spare_half (a := a) hk hc
  have s4 := @spare_all c k
  have r1 : u ≤ rateOf u a c k := by unfold rateOf; omega
  have r2 : rateOf u a c k ≤ 1048576 := by unfold rateOf; omega
  have r3 : rateOf u a c k ≤ rateOf u (a + m) c k := by unfold rateOf; omega
  have r4 : rateOf u a c k ≤ rateOf u a (c / 2) k := by unfold rateOf; omega
  have r5 : rateOf u (c * k) c k = 1048576 := by unfold rateOf; omega
  have L2 : Hid (LoadMay (a + m) c k) := by show LoadMay _ _ _; unfold LoadMay; omega
  have L3 : Hid (LoadMay a (c / 2) k) := by show LoadMay _ _ _; unfold LoadMay; omega
  have L4 : Hid (LoadMay (c * k) c k) := by show LoadMay _ _ _; unfold LoadMay; omega
  clear s1 s2 s3 s4
  go_enter Try.func4, Try.ntmps4
  go_wp2_with (first | (go_at_call 11; refine (may_yes _ _ _ H.out _).mono ?_; rintro e w' ⟨rfl, rfl⟩; unfold loadBox) | (go_at_call 10; (with_reducible refine (rate_ok _ _ _ _ h1 h2 H.out _).mono ?_); rintro e w' ⟨rfl, rfl⟩; unfold loadBox) | (go_at_call 10; (with_reducible refine (rate_ok _ _ _ _ h1 h2 L2.out _).mono ?_); rintro e w' ⟨rfl, rfl⟩; unfold loadBox) | (go_at_call 10; (with_reducible refine (rate_ok _ _ _ _ h1 h2 L3.out _).mono ?_); rintro e w' ⟨rfl, rfl⟩; unfold loadBox) | (go_at_call 10; (with_reducible refine (rate_ok _ _ _ _ h1 h2 L4.out _).mono ?_); rintro e w' ⟨rfl, rfl⟩; unfold loadBox) | (go_at_call 13; refine (awake_yes _).mono ?_; rintro e w' ⟨rfl, hb⟩))
  go_ret
  refine ⟨rfl, bel_end ?_ hb⟩
  repeat (with_reducible refine bel_alloc ?_)
  with_reducible exact Below.refl _ _

theorem walk (a c k u m : Int) (_ : (Lit.int .i64 a).wf = true) (_ : (Lit.int .i64 c).wf = true) (_ : (Lit.int .i64 k).wf = true) (_ : (Lit.int .i64 u).wf = true) (_ : (Lit.int .i64 m).wf = true) (w : World) :
    Calls Try.prog 4 #[.agg #[.int .i64 a, .int .i64 c, .int .i64 k], .int .i64 u, .int .i64 m] w (Yes w) := by
  by_cases h : LoadMay a c k
  · by_cases h2 : u < 0 ∨ 1048576 < u ∨ m < 0 ∨ 67108864 - a < m
    · exact walk_out a c k u m h h2 w
    · exact inner_walk a c k u m h (by omega) (by omega) (by omega) (by omega) w
  · exact walk_no a c k u m h w

set_option maxRecDepth 100000 in
theorem lifted (os : Os) (started : os.Started) (H : Type) (enc : TypeId × Value → H) :
    ReturnsInHanded {} Try.checked os 4 .any (Rows.grubOrderSpec.pre6 enc Try.prog Try.f4 Rows.grubOrderRow.domain false) (Rows.grubOrderSpec.post enc Try.prog Try.f4 false true false false) := by
  refine returnsInHanded_of_change (C := Try.checked) own started (by kernel_rfl) Try.func4
    (ChangeSpec.witness6 (enc := enc) (C := Try.checked) false ⟨#[], #[.agg #[.int .i64 0, .int .i64 0, .int .i64 0], .int .i64 0, .int .i64 0], []⟩ 8 (by kernel_rfl) (by kernel_rfl) (by kernel_rfl) (by kernel_rfl)) ?_
  intro W base args ds gs before hval0 hW hcnd _
  have hval : ∀ (j : Nat) t v, Try.f4.params[j]? = some t → args[j]? = some v → Value.okWide Try.prog W .any base t v := hval0
  have hW' := hW
  obtain ⟨p, q, hA0, hV, _, hfz, hnd⟩ := hW'
  have hA : DataW.TrodAll enc Try.prog W 0 (fun _ => true) true Try.f4.params.toList args.toList ds p := hA0
  rw [Try.params4] at hA hval
  obtain ⟨v0, v1, v2, d0, d1, d2, p0, p1, p2, rfl, _, _, h0, h1, h2⟩ := trodAll_three hA
  obtain ⟨c00, c01, c02, y00, y01, y02, m0, rfl, _, _, hy00, hy01, hy02⟩ := open_agg3 Try.underlying23 (by kernel_rfl) (by kernel_rfl) (hval 0 23 v0 rfl rfl) h0
  obtain ⟨a, e00, _, wa⟩ := DataW.trod_int Try.underlying3 hy00
  obtain ⟨c, e01, _, wc⟩ := DataW.trod_int Try.underlying3 hy01
  obtain ⟨k, e02, _, wk⟩ := DataW.trod_int Try.underlying3 hy02
  simp at e00 e01 e02
  subst e00 e01 e02
  obtain ⟨u, rfl, _, _, wu⟩ := open_int Try.underlying3 (hval 1 3 v1 rfl rfl) h1
  obtain ⟨m, rfl, _, _, wm⟩ := open_int Try.underlying3 (hval 2 3 v2 rfl rfl) h2
  refine (walk a c k u m wa wc wk wu wm W).mono fun e W' h => ?_
  exact law_post (f := Try.f4) rfl rfl Try.underlying4 (by kernel_rfl) (fun ds hd => by
    match ds, hd with
    | [_, _, _], _ => rfl) hW h

theorem over : Rows.grubOrderRow.holds Try.pinned (OpenSpec.ofChange Rows.grubOrderSpec) :=
  OpenClaim.holds_of_wide 4 Try.f4 rfl rfl rfl rfl rfl rfl rfl ⟨rfl, rfl, rfl, rfl, rfl⟩ rfl rfl rfl rfl rfl (by kernel_rfl) Try.func4 (by kernel_rfl)
    (of_decide_eq_true (by kernel_rfl)) (by unfold Func.isWrapper; first | (rw [if_pos (by decide +kernel)]; kernel_rfl) | (rw [if_neg (by decide +kernel)]; exact ⟨rfl, rfl⟩))
    (fun os started H enc _ => lifted os started H enc)

/-- THE STATEMENT. -/
theorem proved : Rows.GrubOrderSaid := over
end Go.Proofs.Ytnahedmccbkflaa.grubOrder
