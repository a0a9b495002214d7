/- RatioTells answers true at any two numbers, rounded up or not. No condition. -/
import Derived.Test.YtbjahjepgjaomaaRatioRef
import Derived.Test.YtbjahjepgjaomaaRatioAwake
namespace Go.Proofs.Ytbjahjepgjaomaa.ratioTells
open Go.ChangeShapes Go.WideShapes Go.ChangeAt Go.RowKit Go.Joins

set_option maxRecDepth 100000 in
set_option maxHeartbeats 2000000 in
theorem walk (q t : Int) (up : Bool) (wq : (Lit.int .i64 q).wf = true) (wt : (Lit.int .i64 t).wf = true) (w : World) :
    Calls Try.prog 3 #[.int .i64 q, .int .i64 t, .bool up] w (Yes w) := by
  have hq := (bounds_i64 wq).2
  have ht := (bounds_i64 wt).2
  have U := Lib.hid (up_any q t hq ht)
  have D := Lib.hid (down_any q t hq ht)
  have P := Lib.hid (part_any q t up hq ht)
  have T1 := Lib.hid (told_yes q 1048576 t hq (by omega) ht true _ _ rfl rfl)
  have T2 := Lib.hid (told_yes q 1048576 t hq (by omega) ht false _ _ rfl rfl)
  have T3 := Lib.hid (told_yes q t 1048576 hq ht (by omega) up _ _ rfl rfl)
  generalize divNum q 1048576 t true = n1 at *
  generalize divErr q 1048576 t true = x1 at *
  generalize divNum q 1048576 t false = n2 at *
  generalize divErr q 1048576 t false = x2 at *
  generalize divNum q t 1048576 up = n3 at *
  generalize divErr q t 1048576 up = x3 at *
  clear wq wt
  go_enter Try.func3, Try.ntmps3
  go_wp2_with fail
  refine (U.out _).mono ?_
  rintro e w1 ⟨rfl, b1⟩
  go_wp2_with fail
  refine (D.out _).mono ?_
  rintro e w2 ⟨rfl, b2⟩
  go_wp2_with fail
  refine (P.out _).mono ?_
  rintro e w3 ⟨rfl, b3⟩
  go_wp2_with fail
  refine (T1.out _).mono ?_
  rintro e w4 ⟨rfl, b4⟩
  go_wp2_with fail
  refine (T2.out _).mono ?_
  rintro e w5 ⟨rfl, b5⟩
  go_wp2_with fail
  refine (T3.out _).mono ?_
  rintro e w6 ⟨rfl, b6⟩
  go_wp2_with fail
  refine (awake_yes _).mono ?_
  rintro e w7 ⟨rfl, b7⟩
  go_wp2_with fail
  go_ret
  exact ⟨rfl, bel_end (bel_end (bel_end (bel_end (bel_end (bel_end b1 b2) b3) b4) b5) b6) b7⟩

set_option maxRecDepth 100000 in
theorem lifted (os : Os) (started : os.Started) (H : Type) (enc : TypeId × Value → H) :
    ReturnsInHanded {} Try.checked os 3 .any (Rows.ratioTellsSpec.pre6 enc Try.prog Try.f3 Rows.ratioTellsRow.domain false) (Rows.ratioTellsSpec.post enc Try.prog Try.f3 false true false false) := by
  refine returnsInHanded_of_change (C := Try.checked) own started (by kernel_rfl) Try.func3
    (ChangeSpec.witness6 (enc := enc) (C := Try.checked) false ⟨#[], #[.int .i64 0, .int .i64 0, .bool false], []⟩ 8 (by kernel_rfl) (by kernel_rfl) (by kernel_rfl) (by kernel_rfl)) ?_
  intro W base args ds gs before hval0 hW hcnd _
  have hval : ∀ (j : Nat) t v, Try.f3.params[j]? = some t → args[j]? = some v → Value.okWide Try.prog W .any base t v := hval0
  have hW' := hW
  obtain ⟨p, q, hA0, hV, _, hfz, hnd⟩ := hW'
  have hA : DataW.TrodAll enc Try.prog W 0 (fun _ => true) true Try.f3.params.toList args.toList ds p := hA0
  rw [Try.params3] at hA hval
  obtain ⟨v0, v1, v2, d0, d1, d2, p0, p1, p2, rfl, _, _, h0, h1, h2⟩ := trodAll_three hA
  obtain ⟨q, rfl, _, _, wq⟩ := open_int Try.underlying3 (hval 0 3 v0 rfl rfl) h0
  obtain ⟨t, rfl, _, _, wt⟩ := open_int Try.underlying3 (hval 1 3 v1 rfl rfl) h1
  obtain ⟨up, rfl, _, _⟩ := open_bool Try.underlying4 (hval 2 4 v2 rfl rfl) h2
  refine (walk q t up wq wt W).mono fun e W' h => ?_
  exact law_post (f := Try.f3) rfl rfl Try.underlying4 (by kernel_rfl) (fun ds hd => by
    match ds, hd with
    | [_, _, _], _ => rfl) hW h

theorem over : Rows.ratioTellsRow.holds Try.pinned (OpenSpec.ofChange Rows.ratioTellsSpec) :=
  OpenClaim.holds_of_wide 3 Try.f3 rfl rfl rfl rfl rfl rfl rfl ⟨rfl, rfl, rfl, rfl, rfl⟩ rfl rfl rfl rfl rfl (by kernel_rfl) Try.func3 (by kernel_rfl)
    (of_decide_eq_true (by kernel_rfl)) (by unfold Func.isWrapper; first | (rw [if_pos (by decide +kernel)]; kernel_rfl) | (rw [if_neg (by decide +kernel)]; exact ⟨rfl, rfl⟩))
    (fun os started H enc _ => lifted os started H enc)

/-- THE STATEMENT. -/
theorem proved : Rows.RatioTellsSaid := over
end Go.Proofs.Ytbjahjepgjaomaa.ratioTells
