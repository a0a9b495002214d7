/- NumAdds answers true at every two wide numbers. No condition. -/
import Derived.Test.YtgdgfcogmfhpcaaNumAwake
import Derived.Test.YtgdgfcogmfhpcaaNumAdd
import Derived.Test.YtgdgfcogmfhpcaaNumLess
import Derived.Test.YtgdgfcogmfhpcaaSmall
import Derived.WalkLawsBesides
import Derived.WalkSpells
import Derived.Outline
namespace Go.Proofs.Ytgdgfcogmfhpcaa.numAdds
open Go.ChangeShapes Go.WideShapes Go.ChangeAt Go.RowKit Go.Joins

/-! ### the plain law -/
theorem lt_parts {B h l : Nat} (hh : h < B) (hl : l < B) : h * B + l < B * B := by
  have h1 : (h + 1) * B ≤ B * B := Nat.mul_le_mul_right _ hh
  rw [Nat.add_mul, Nat.one_mul] at h1
  exact Nat.lt_of_lt_of_le (Nat.add_lt_add_left hl _) h1
theorem two_small {A B : Nat} (hA : A < 18446744073709551616 * 18446744073709551616) (hB : B < 18446744073709551616 * 18446744073709551616) : A + B < 680564733841876926926749214863536422912 :=
  Nat.lt_of_lt_of_le (Nat.add_lt_add hA hB) (by decide)

/-! ### the walk -/
set_option maxRecDepth 100000 in
set_option maxHeartbeats 8000000 in
theorem fits (h l k m : Nat) (hh : h < 18446744073709551616) (hl : l < 18446744073709551616) (hk : k < 18446744073709551616) (hm : m < 18446744073709551616) (A B : Nat) (hA : h * 18446744073709551616 + l = A) (hB : k * 18446744073709551616 + m = B) (hi lo : Nat) (hhi : hi < 18446744073709551616) (hlo : lo < 18446744073709551616) (hs : A + B = hi * 18446744073709551616 + lo)
    (hadd : ∀ w, Calls Try.prog 26 #[.agg #[.int .u64 h, .int .u64 l], .agg #[.int .u64 k, .int .u64 m]] w (Gives (.tuple #[.agg #[.int .u64 hi, .int .u64 lo], .int .i64 0]) w)) (w : World) :
    Calls Try.prog 7 #[.agg #[.int .u64 h, .int .u64 l], .agg #[.int .u64 k, .int .u64 m]] w (Yes w) := by
  have AD := Lib.hid hadd
  have OX := Lib.hid (of_any h l hh hl)
  have OY := Lib.hid (of_any k m hk hm)
  have LS := Lib.hid (wide_less h l k m hl hm)
  rw [hA] at OX
  rw [hB] at OY
  rw [hA, hB] at LS
  have BM := Lib.hid (big_mod (n := A + B) (two_small (by rw [← hA]; exact lt_parts hh hl) (by rw [← hB]; exact lt_parts hk hm)))
  have SM : Hid (decide (A + B < 18446744073709551616 * 18446744073709551616) = true) := decide_eq_true (by rw [hs]; exact lt_parts hhi hlo)
  have SA := Lib.hid (fun v w hv => same_any hi lo hhi hlo v (A + B) w hv)
  have SE : Hid (decide (hi * 18446744073709551616 + lo = A + B) = true) := decide_eq_true hs.symm
  clear hhi hlo
  obtain ⟨r, hr⟩ : ∃ r, decide (A < B) = r := ⟨_, rfl⟩
  have HR := Lib.hid hr
  rw [hr] at LS
  unfold wideBox at LS
  clear hadd hA hB hh hl hk hm hs hr
  go_enter Try.func7, Try.ntmps7
  go_wp2_with fail
  refine (AD.out _).mono ?_
  rintro e w1 ⟨rfl, b1⟩
  have k1 := bcell b1
  have s1 := b1.size
  simp only [World.size_alloc] at s1
  have l1 : w.heap.size < w1.heap.size := by omega
  have l1' : w.heap.size + 1 < w1.heap.size := by omega
  go_wp2_with fail
  refine (OX.out _).mono ?_
  rintro e w2 ⟨v2, rfl, n2, b2⟩
  have k2 := bcell b2
  have s2 := b2.size
  simp only [World.size_alloc] at s2
  have l2 : w.heap.size < w2.heap.size := by omega
  have l2' : w.heap.size + 1 < w2.heap.size := by omega
  have l2'' : w1.heap.size < w2.heap.size := by omega
  go_wp2_with fail
  refine (OY.out _).mono ?_
  rintro e w3 ⟨v3, rfl, n3, b3⟩
  have k3 := bcell b3
  have s3 := b3.size
  have l3 : w.heap.size < w3.heap.size := by omega
  have l3' : w.heap.size + 1 < w3.heap.size := by omega
  have l3'' : w1.heap.size < w3.heap.size := by omega
  have N2 := Lib.hid (n2.below b3)
  have N3 := Lib.hid n3
  have bb := Lib.hid (bel_end (bel_end (bel_alloc (bel_end (bel_alloc (bel_alloc (Below.refl _ w))) b1)) b2) b3)
  have bt := Lib.hid (bel_end b2 b3)
  clear n2 n3 b1 b2 b3 s1 s2 s3
  go_wp2_with fail
  refine (LS.out _).mono ?_
  rintro e w4 ⟨rfl, rfl⟩
  go_wp2_with fail
  refine (under_any v2 v3 A B _ (N2.out.below (bel_alloc (bel_alloc (Below.refl _ _)))) (N3.out.below (bel_alloc (bel_alloc (Below.refl _ _))))).mono ?_
  rw [HR.out]
  rintro e w5 ⟨rfl, k5, rfl⟩
  have N2' := Lib.hid ((N2.out.below (bel_alloc (bel_alloc (Below.refl _ _)))).below (below_drewN (w := (w3.alloc (wideBox h l)).alloc (wideBox k m)) k5))
  have N3' := Lib.hid ((N3.out.below (bel_alloc (bel_alloc (Below.refl _ _)))).below (below_drewN (w := (w3.alloc (wideBox h l)).alloc (wideBox k m)) k5))
  have rr : (r != r) = false := by simp
  go_wp2_with fail
  refine (plus_any v2 v3 A B _ N2'.out N3'.out).mono ?_
  rw [BM.out]
  rintro e w6 ⟨v6, rfl, n6, b6⟩
  have N6 := Lib.hid n6
  have bc := Lib.hid (bel_end (bel_end (bel_alloc (bel_alloc bb.out)) (below_drewN k5)) b6)
  have bu := Lib.hid (bel_end (bel_end (bel_alloc (bel_alloc bt.out)) (below_drewN k5)) b6)
  have x0 := bu.out.cell (p := ⟨w1.heap.size, 0, none⟩) (by simp)
  have x1 := bu.out.cell (p := ⟨w1.heap.size, 1, none⟩) (by simp)
  clear n6 b6 N2 N3 N2' N3' bt bu
  go_wp2_with fail
  refine (small_any v6 (A + B) _ N6.out).mono ?_
  rw [SM.out]
  rintro e w7 ⟨rfl, k7, rfl⟩
  have N7 := Lib.hid (N6.out.below (below_drewN k7))
  go_wp2_with fail
  refine (SA.out v6 _ N7.out).mono ?_
  rw [SE.out]
  rintro e w8 ⟨rfl, b8⟩
  go_wp2_with (go_at_call 12; refine (awake_yes _).mono ?_; rintro e w' ⟨rfl, hb⟩)
  go_ret
  exact ⟨rfl, bel_end (bel_end (bel_end bc.out (below_drewN k7)) b8) hb⟩
set_option maxRecDepth 100000 in
set_option maxHeartbeats 8000000 in
theorem over_it (h l k m : Nat) (hh : h < 18446744073709551616) (hl : l < 18446744073709551616) (hk : k < 18446744073709551616) (hm : m < 18446744073709551616) (A B : Nat) (hA : h * 18446744073709551616 + l = A) (hB : k * 18446744073709551616 + m = B) (hs : 18446744073709551616 * 18446744073709551616 ≤ A + B)
    (hadd : ∀ w, Calls Try.prog 26 #[.agg #[.int .u64 h, .int .u64 l], .agg #[.int .u64 k, .int .u64 m]] w (Gives (.tuple #[.agg #[.int .u64 0, .int .u64 0], .int .i64 11]) w)) (w : World) :
    Calls Try.prog 7 #[.agg #[.int .u64 h, .int .u64 l], .agg #[.int .u64 k, .int .u64 m]] w (Yes w) := by
  have AD := Lib.hid hadd
  have OX := Lib.hid (of_any h l hh hl)
  have OY := Lib.hid (of_any k m hk hm)
  have LS := Lib.hid (wide_less h l k m hl hm)
  rw [hA] at OX
  rw [hB] at OY
  rw [hA, hB] at LS
  have BM := Lib.hid (big_mod (n := A + B) (two_small (by rw [← hA]; exact lt_parts hh hl) (by rw [← hB]; exact lt_parts hk hm)))
  have SM : Hid (decide (A + B < 18446744073709551616 * 18446744073709551616) = false) := decide_eq_false (Nat.not_lt.2 hs)
  obtain ⟨r, hr⟩ : ∃ r, decide (A < B) = r := ⟨_, rfl⟩
  have HR := Lib.hid hr
  rw [hr] at LS
  unfold wideBox at LS
  clear hadd hA hB hh hl hk hm hs hr
  go_enter Try.func7, Try.ntmps7
  go_wp2_with fail
  refine (AD.out _).mono ?_
  rintro e w1 ⟨rfl, b1⟩
  have k1 := bcell b1
  have s1 := b1.size
  simp only [World.size_alloc] at s1
  have l1 : w.heap.size < w1.heap.size := by omega
  have l1' : w.heap.size + 1 < w1.heap.size := by omega
  go_wp2_with fail
  refine (OX.out _).mono ?_
  rintro e w2 ⟨v2, rfl, n2, b2⟩
  have k2 := bcell b2
  have s2 := b2.size
  simp only [World.size_alloc] at s2
  have l2 : w.heap.size < w2.heap.size := by omega
  have l2' : w.heap.size + 1 < w2.heap.size := by omega
  have l2'' : w1.heap.size < w2.heap.size := by omega
  go_wp2_with fail
  refine (OY.out _).mono ?_
  rintro e w3 ⟨v3, rfl, n3, b3⟩
  have k3 := bcell b3
  have s3 := b3.size
  have l3 : w.heap.size < w3.heap.size := by omega
  have l3' : w.heap.size + 1 < w3.heap.size := by omega
  have l3'' : w1.heap.size < w3.heap.size := by omega
  have N2 := Lib.hid (n2.below b3)
  have N3 := Lib.hid n3
  have bb := Lib.hid (bel_end (bel_end (bel_alloc (bel_end (bel_alloc (bel_alloc (Below.refl _ w))) b1)) b2) b3)
  have bt := Lib.hid (bel_end b2 b3)
  clear n2 n3 b1 b2 b3 s1 s2 s3
  go_wp2_with fail
  refine (LS.out _).mono ?_
  rintro e w4 ⟨rfl, rfl⟩
  go_wp2_with fail
  refine (under_any v2 v3 A B _ (N2.out.below (bel_alloc (bel_alloc (Below.refl _ _)))) (N3.out.below (bel_alloc (bel_alloc (Below.refl _ _))))).mono ?_
  rw [HR.out]
  rintro e w5 ⟨rfl, k5, rfl⟩
  have N2' := Lib.hid ((N2.out.below (bel_alloc (bel_alloc (Below.refl _ _)))).below (below_drewN (w := (w3.alloc (wideBox h l)).alloc (wideBox k m)) k5))
  have N3' := Lib.hid ((N3.out.below (bel_alloc (bel_alloc (Below.refl _ _)))).below (below_drewN (w := (w3.alloc (wideBox h l)).alloc (wideBox k m)) k5))
  have rr : (r != r) = false := by simp
  go_wp2_with fail
  refine (plus_any v2 v3 A B _ N2'.out N3'.out).mono ?_
  rw [BM.out]
  rintro e w6 ⟨v6, rfl, n6, b6⟩
  have N6 := Lib.hid n6
  have bc := Lib.hid (bel_end (bel_end (bel_alloc (bel_alloc bb.out)) (below_drewN k5)) b6)
  have bu := Lib.hid (bel_end (bel_end (bel_alloc (bel_alloc bt.out)) (below_drewN k5)) b6)
  have x0 := bu.out.cell (p := ⟨w1.heap.size, 0, none⟩) (by simp)
  have x1 := bu.out.cell (p := ⟨w1.heap.size, 1, none⟩) (by simp)
  clear n6 b6 N2 N3 N2' N3' bt bu
  go_wp2_with fail
  refine (small_any v6 (A + B) _ N6.out).mono ?_
  rw [SM.out]
  rintro e w7 ⟨rfl, k7, rfl⟩
  go_wp2_with (go_at_call 12; refine (awake_yes _).mono ?_; rintro e w' ⟨rfl, hb⟩)
  go_ret
  exact ⟨rfl, bel_end (bel_end bc.out (below_drewN k7)) hb⟩
theorem walk (h l k m : Int) (wh : (Lit.int .u64 h).wf = true) (wl : (Lit.int .u64 l).wf = true) (wk : (Lit.int .u64 k).wf = true) (wm : (Lit.int .u64 m).wf = true) (w : World) : Calls Try.prog 7 #[.agg #[.int .u64 h, .int .u64 l], .agg #[.int .u64 k, .int .u64 m]] w (Yes w) := by
  obtain ⟨h0, h1⟩ := bounds_u64 wh
  obtain ⟨l0, l1⟩ := bounds_u64 wl
  obtain ⟨k0, k1⟩ := bounds_u64 wk
  obtain ⟨m0, m1⟩ := bounds_u64 wm
  obtain ⟨h, rfl⟩ := Int.eq_ofNat_of_zero_le h0
  obtain ⟨l, rfl⟩ := Int.eq_ofNat_of_zero_le l0
  obtain ⟨k, rfl⟩ := Int.eq_ofNat_of_zero_le k0
  obtain ⟨m, rfl⟩ := Int.eq_ofNat_of_zero_le m0
  have hall : ∃ hi lo ov : Nat, (h * 18446744073709551616 + l) + (k * 18446744073709551616 + m) = ov * (18446744073709551616 * 18446744073709551616) + hi * 18446744073709551616 + lo ∧ hi < 18446744073709551616 ∧ lo < 18446744073709551616 ∧
      ∀ w, Calls Try.prog 26 #[.agg #[.int .u64 h, .int .u64 l], .agg #[.int .u64 k, .int .u64 m]] w
        (Gives (if ov = 0 then .tuple #[.agg #[.int .u64 hi, .int .u64 lo], .int .i64 0] else .tuple #[.agg #[.int .u64 0, .int .u64 0], .int .i64 11]) w) := add_all h l k m (by omega) (by omega)
  obtain ⟨hi, lo, ov, e, hhi, hlo, hadd⟩ := hall
  by_cases h0 : ov = 0
  · subst h0
    rw [if_pos rfl] at hadd
    rw [Nat.zero_mul, Nat.zero_add] at e
    exact fits h l k m (by omega) (by omega) (by omega) (by omega) _ _ rfl rfl hi lo hhi hlo e hadd w
  · rw [if_neg h0] at hadd
    have e2 : 1 * (18446744073709551616 * 18446744073709551616) ≤ ov * (18446744073709551616 * 18446744073709551616) := Nat.mul_le_mul_right _ (by omega)
    exact over_it h l k m (by omega) (by omega) (by omega) (by omega) _ _ rfl rfl (by rw [e]; exact Nat.le_trans (Nat.le_of_eq (Nat.one_mul _).symm) (Nat.le_trans e2 (Nat.le_trans (Nat.le_add_right _ _) (Nat.le_add_right _ _)))) hadd w

set_option maxRecDepth 100000 in
theorem lifted (os : Os) (started : os.Started) (H : Type) (enc : TypeId × Value → H) :
    ReturnsInHanded {} Try.checked os 7 .any (Rows.numAddsSpec.pre6 enc Try.prog Try.f7 Rows.numAddsRow.domain false) (Rows.numAddsSpec.post enc Try.prog Try.f7 false true false false) := by
  refine returnsInHanded_of_change (C := Try.checked) own started (by kernel_rfl) Try.func7
    (ChangeSpec.witness6 (enc := enc) (C := Try.checked) false ⟨#[], #[.agg #[.int .u64 0, .int .u64 0], .agg #[.int .u64 0, .int .u64 0]], []⟩ 8 (by kernel_rfl) (by kernel_rfl) (by kernel_rfl) (by kernel_rfl)) ?_
  intro W base args ds gs before hval0 hW hcnd _
  have hval : ∀ (j : Nat) t v, Try.f7.params[j]? = some t → args[j]? = some v → Value.okWide Try.prog W .any base t v := hval0
  have hW' := hW
  obtain ⟨p, q, hA0, hV, _, hfz, hnd⟩ := hW'
  have hA : DataW.TrodAll enc Try.prog W 0 (fun _ => true) true Try.f7.params.toList args.toList ds p := hA0
  rw [Try.params7] at hA hval
  obtain ⟨v0, v1, d0, d1, p0, p1, rfl, _, _, h0, h1⟩ := trodAll_two hA
  obtain ⟨c00, c01, y00, y01, m0, rfl, _, _, hy00, hy01⟩ := open_agg2 Try.underlying43 (by kernel_rfl) (by kernel_rfl) (hval 0 43 v0 rfl rfl) h0
  obtain ⟨h, e00, _, wh⟩ := DataW.trod_int Try.underlying29 hy00
  obtain ⟨l, e01, _, wl⟩ := DataW.trod_int Try.underlying29 hy01
  simp at e00 e01
  subst e00 e01
  obtain ⟨c10, c11, y10, y11, m1, rfl, _, _, hy10, hy11⟩ := open_agg2 Try.underlying43 (by kernel_rfl) (by kernel_rfl) (hval 1 43 v1 rfl rfl) h1
  obtain ⟨k, e10, _, wk⟩ := DataW.trod_int Try.underlying29 hy10
  obtain ⟨m, e11, _, wm⟩ := DataW.trod_int Try.underlying29 hy11
  simp at e10 e11
  subst e10 e11
  refine (walk h l k m wh wl wk wm W).mono fun e W' h => ?_
  exact law_post (f := Try.f7) rfl rfl Try.underlying4 (by kernel_rfl) (fun ds hd => by
    match ds, hd with
    | [_, _], _ => rfl) hW h

theorem over : Rows.numAddsRow.holds Try.pinned (OpenSpec.ofChange Rows.numAddsSpec) :=
  OpenClaim.holds_of_wide 7 Try.f7 rfl rfl rfl rfl rfl rfl rfl ⟨rfl, rfl, rfl, rfl, rfl⟩ rfl rfl rfl rfl rfl (by kernel_rfl) Try.func7 (by kernel_rfl)
    (of_decide_eq_true (by kernel_rfl)) (by unfold Func.isWrapper; first | (rw [if_pos (by decide +kernel)]; kernel_rfl) | (rw [if_neg (by decide +kernel)]; exact ⟨rfl, rfl⟩))
    (fun os started H enc _ => lifted os started H enc)

/-- THE STATEMENT. -/
theorem proved : Rows.NumAddsSaid := over
end Go.Proofs.Ytgdgfcogmfhpcaa.numAdds
