/- What the reference's Add answers. Each theorem's premises are its conditions. -/
import Derived.Test.YtfpifaccjfgfkaaTraceRefC
import Derived.Laws.AppendOwnNone
namespace Go.Proofs.Ytfpifaccjfgfkaa
open Go.ChangeShapes Go.WideShapes Go.ChangeAt Go.RowKit Go.Deep
attribute [local go_sem] Oper.semAt_some

theorem rnew_row (x : Chg) (U : World) : ∀ j u, (ccells [x])[j]? = some u → (U.alloc (.cells #[.int .i64 x.sv, .int .i64 x.wk, .int .i64 x.th, .int .i64 x.fr, .int .i64 x.to, .int .i64 x.n] 67)).cell? ((Addr.mk U.heap.size 0 none).add j) = some u := by
  intro j u hj
  obtain ⟨i', c', hi', hc', rfl, rfl⟩ := ccells_at hj
  obtain rfl : i' = 0 := Nat.lt_one_iff.1 hi'
  match c', hc' with
  | 0, _ => exact (by simp [Addr.add, cc])
  | 1, _ => exact (by simp [Addr.add, cc])
  | 2, _ => exact (by simp [Addr.add, cc])
  | 3, _ => exact (by simp [Addr.add, cc])
  | 4, _ => exact (by simp [Addr.add, cc])
  | 5, _ => exact (by simp [Addr.add, cc])
theorem rown_row {w : World} {B : Nat} {v : Value} {l : List Chg} (h : ROwns w B v l) : (v = .slice none 0 0 ∧ l = []) ∨ ∃ g cap, v = .slice (some ⟨g, 0, none⟩) l.length cap ∧ g < w.heap.size ∧ (∀ j, j < l.length → ChgAt w g (j * 6) (l.getD j c0)) ∧ ∀ j u, (ccells l)[j]? = some u → w.cell? ((Addr.mk g 0 none).add j) = some u := by
  rcases rown_cells h with h1 | ⟨g, cap, e, hg, hc⟩
  · exact .inl h1
  · refine .inr ⟨g, cap, e, hg, hc, fun j u hj => ?_⟩
    obtain ⟨i', c', hi', hc', rfl, rfl⟩ := ccells_at hj
    have := chg_cc (hc i' hi') hc'
    have e1 : (Addr.mk g 0 none).add (i' * 6 + c') = ⟨g, i' * 6 + c', none⟩ := by unfold Addr.add; split <;> simp_all
    rw [e1]
    exact this
theorem rown_below {w w' : World} {B : Nat} {v : Value} {cs : List Chg} (h : ROwns w B v cs) (k : Below w.heap.size w w') : ROwns w' B v cs :=
  World.ownsRow.kept (row := none) h ⟨k.os, k.tape, k.output, k.size, fun i hi _ => k.block i hi⟩ (by
    cases e : v.ownBlock with
    | none => exact .inl rfl
    | some b => exact .inr (fun h => by cases h))
theorem rown_base {w : World} {B B' : Nat} {v : Value} {cs : List Chg} (hB : B ≤ B') (h : ROwns w B' v cs) : ROwns w B v cs := by
  obtain ⟨h1, h2 | ⟨g, cap, cur, e, h3, h4⟩⟩ := h
  · exact ⟨h1, .inl h2⟩
  · exact ⟨h1, .inr ⟨g, cap, cur, e, Nat.le_trans hB h3, h4⟩⟩
theorem fits_chk {cs : List Chg} {x : Chg} (h : chkErr x ≠ 0) : fitsErr cs x = chkErr x := by unfold fitsErr; rw [if_pos h]
theorem fits_any1 {cs : List Chg} {x : Chg} (h : chkErr x = 0) (k : anyClash cs x = true) : fitsErr cs x = 15 := by unfold fitsErr; rw [if_neg (fun n => n h), if_pos k]
theorem fits_ok {cs : List Chg} {x : Chg} (h : chkErr x = 0) (k : anyClash cs x = false) : fitsErr cs x = 0 := by unfold fitsErr; rw [if_neg (fun n => n h), if_neg (by rw [k]; decide)]
theorem tm_fr {c : Chg} (h : Vld c) : Tm c.fr := by obtain ⟨_, _, _, _, _, _, a, b, d, _⟩ := h; exact ⟨a, by omega⟩
theorem tm_to {c : Chg} (h : Vld c) : Tm c.to := by obtain ⟨_, _, _, _, _, _, a, b, d, _⟩ := h; exact ⟨by omega, by omega⟩
def RAdded (B : Nat) (va : Value) (cs l : List Chg) (w : World) (e : Ending) (w' : World) : Prop :=
  ∃ v', e = .returned (.tuple #[v', .int .i64 (addAll cs l).2]) ∧ ROwns w' B v' (addAll cs l).1 ∧ Below w.heap.size w w' ∧ (v' = va ∨ ∀ r, v'.ownBlock = some r → w.heap.size ≤ r)
set_option maxRecDepth 100000 in
set_option maxHeartbeats 8000000 in
theorem radd_some (B b cap : Nat) (g cap0 : Nat) (cs l : List Chg) (w : World) (hB : B ≤ w.heap.size) (hva : ROwns w B (.slice (some ⟨g, 0, none⟩) cs.length cap0) cs) (hv : ∀ c ∈ cs, Vld c) (hb : b < w.heap.size) (hc : ∀ j, j < l.length → ChgAt w b (j * 6) (l.getD j c0)) (hn : cs.length + l.length ≤ 4000) :
    Calls Try.prog 25 #[(.slice (some ⟨g, 0, none⟩) cs.length cap0), .slice (some ⟨b, 0, none⟩) l.length cap] w (RAdded B (.slice (some ⟨g, 0, none⟩) cs.length cap0) cs l w) := by
  obtain ⟨i0, hi, hz0, hz1, hz2⟩ := info_parts Try.infoRef
  have HC := Lib.hid hc
  have HVA := Lib.hid hva
  have HV := Lib.hid hv
  clear hc hva hv
  go_enter Try.func25, Try.ntmps25
  have hcl := Lib.hid (rown_row HVA.out)
  have hcs : ∀ j u, (ccells cs)[j]? = some u → w.cell? ((Addr.mk g 0 none).add j) = some u := by
    rcases hcl.out with ⟨e, _⟩ | ⟨g', cap', e, _, _, h⟩
    · cases e
    · cases e; exact h
  have HCS := Lib.hid hcs
  clear hcs
  go_wp2_with (at_builtin; (refine wpList_append_own _ rfl _ _ 28 rfl w.heap.size 67 i0 (.agg #[.int .i64 0, .int .i64 0, .int .i64 0, .int .i64 0, .int .i64 0, .int .i64 0]) 6 48 Try.underlying28 hi hz0 hz1 hz2 rfl (by decide) _ 0 [] rfl ⟨rfl, .inl ⟨rfl, rfl⟩⟩ ⟨g, 0, none⟩ cs.length cap0 (ccells cs) rfl (ccells_length cs) HCS.out (ccells_one cs) (by unfold maxLen; omega) (by omega) (by simp) ?_); intro v0 w0 hown0 hgrow0 _; simp only [Nat.zero_add, List.nil_append] at hown0)
  have HOW0 : Hid (ROwns w0 w.heap.size v0 cs) := hown0
  have HB0 := Lib.hid ((Below.refl w.heap.size w).grown hgrow0 (by simp) (fun k e => by cases e))
  clear hown0 hgrow0
  go_loopw [6, 7, 8, 9] (fun v i ee kk wr => ∃ (k : Nat) (cur : List Chg), k ≤ l.length ∧ i = .int .i64 k ∧ ROwns wr w.heap.size v cur ∧ (∀ c ∈ cur, Vld c) ∧ cur.length = cs.length + k ∧ addAll cs l = addGo cs cur (l.drop k) ∧ Below w.heap.size w wr) (fun _ i _ _ _ => l.length - (intOf i).toNat)
  case atStart => exact ⟨0, cs, Nat.zero_le _, rfl, HOW0.out, HV.out, rfl, rfl, HB0.out⟩
  case round =>
    obtain ⟨k, cur, hk, rfl, hown, hvc, hcl, hadd, hbw⟩ := hrel
    have HB := Lib.hid hbw
    have HOW := Lib.hid hown
    have HVC := Lib.hid hvc
    have HCL0 := Lib.hid hcl
    have HADD := Lib.hid hadd
    have hsz := hbw.size
    obtain ⟨av, nv, cv, rfl⟩ := own_shape hown
    have hnv : nv = cur.length := by
      rcases rown_cells hown with ⟨e1, e2⟩ | ⟨gg, cc', e1, _⟩
      · cases e1; subst e2; rfl
      · cases e1; rfl
    subst hnv
    clear hown hvc hcl hadd hbw
    by_cases hlt : k < l.length
    · have hA : ChgAt wr b (k * 6) (l.getD k c0) := (HC.out k hlt).same (HB.out.block b hb)
      have HS := Lib.hid (drop_c (zs := l) (k := k) hlt)
      generalize l.getD k c0 = x at *
      have hlt' : (k : Int) < (l.length : Int) := by omega
      have hcur : cur.length ≤ 4000 := by rw [HCL0.out]; omega
      have hAH := Lib.hid hA
      obtain ⟨q0, q1, q2, q3, q4, q5⟩ := hA
      have WR := Lib.hid (wrong_any x)
      have lbw : b < wr.heap.size := cell_lt q0
      by_cases he : chkErr x = 0
      · have HE := Lib.hid he
        have hvx := chk_zero.1 he
        have HVX := Lib.hid hvx
        rw [he] at WR
        clear he
        go_wp2_with fail
        refine (WR.out _).mono ?_
        rintro e w1 ⟨rfl, b1⟩
        have HB1 := Lib.hid (HB.out.trans (b1.mono hsz))
        have HOW1 := Lib.hid (rown_below HOW.out b1)
        have lb1 := Nat.lt_of_lt_of_le lbw b1.size
        have hA1 := Lib.hid (hAH.out.below lbw b1)
        have hs1 := HB1.out.size
        clear b1 q0 q1 q2 q3 q4 q5
        go_wp2_with fail
        go_loopw [9] (fun kk wr2 => ∃ j : Nat, j ≤ cur.length ∧ kk = .int .i64 j ∧ (∀ m, m < j → ¬ Clash (cur.getD m c0) x) ∧ Below w1.heap.size w1 wr2) (fun kk _ => cur.length - (intOf kk).toNat)
        case atStart => exact ⟨0, Nat.zero_le _, rfl, fun m hm => absurd hm (by omega), Below.refl _ _⟩
        case round =>
          obtain ⟨j, hjk, rfl, hno, hb2⟩ := hrel
          have HB2 := Lib.hid hb2
          have HN := Lib.hid hno
          clear hno hb2
          by_cases hj : j < cur.length
          · have hj' : (j : Int) < (cur.length : Int) := by omega
            obtain ⟨gg, cc', e1, hgg, hcc⟩ : ∃ gg cc', Value.slice av cur.length cv = .slice (some ⟨gg, 0, none⟩) cur.length cc' ∧ gg < w1.heap.size ∧ ∀ m, m < cur.length → ChgAt w1 gg (m * 6) (cur.getD m c0) := by
              rcases rown_cells HOW1.out with ⟨e1, e2⟩ | ⟨gg, cc', e1, e2, e3⟩
              · subst e2; exact absurd hj (by simp)
              · exact ⟨gg, cc', e1, e2, e3⟩
            cases e1
            have hD := (hcc j hj).below hgg HB2.out
            have hX := hA1.out.below lb1 HB2.out
            obtain ⟨r0, r1, _, r3, r4, _⟩ := hD
            obtain ⟨q0, q1, _, q3, q4, _⟩ := hX
            have hvj := vld_at HVC.out hj
            have BO := Lib.hid (rboth_any (cur.getD j c0).fr (cur.getD j c0).to x.fr x.to (tm_fr hvj) (tm_to hvj) (tm_fr HVX.out) (tm_to HVX.out))
            clear hcc hvj hvx
            by_cases a1 : (cur.getD j c0).sv = x.sv
            · have d1 : ((cur.getD j c0).sv == x.sv) = true := by simpa using a1
              by_cases hbo : 0 < bothOf (cur.getD j c0).fr (cur.getD j c0).to x.fr x.to
              · have HCL : Hid (anyClash cur x = true) := anyClash_of hj ⟨.inl a1, hbo⟩
                have HA : Hid (addAll cs l = (cs, 15)) := by show _ = _; rw [HADD.out, HS.out]; unfold addGo; rw [fits_any1 HE.out HCL.out, if_neg (by decide)]
                have d3 : decide (0 < bothOf (cur.getD j c0).fr (cur.getD j c0).to x.fr x.to) = true := decide_eq_true hbo
                generalize bothOf (cur.getD j c0).fr (cur.getD j c0).to x.fr x.to = BV at *
                generalize (cur.getD j c0).sv = Csv at *
                generalize (cur.getD j c0).wk = Cwk at *
                generalize (cur.getD j c0).th = Cth at *
                generalize (cur.getD j c0).fr = Cfr at *
                generalize (cur.getD j c0).to = Cto at *
                generalize (cur.getD j c0).n = Cn at *
                clear hbo a1
                go_upto_region 12 with fail
                go_quiet ((go_at_call 41; exact Calls.quiet_of_same (BO.out _)))
                go_wp2_with fail
                go_ret2
                exact ⟨_, (by rw [HA.out]; first | done | rfl), by rw [HA.out]; exact rown_below HVA.out (HB1.out.trans (by first | exact HB2.out.mono HB1.out.size | exact bel_drewN (HB2.out.mono HB1.out.size))), HB1.out.trans (by first | exact HB2.out.mono HB1.out.size | exact bel_drewN (HB2.out.mono HB1.out.size)), .inl rfl⟩
              · have HJ : Hid (∀ m, m < j + 1 → ¬ Clash (cur.getD m c0) x) := fun m hm => by
                  by_cases e : m = j
                  · rw [e]; exact fun h => hbo h.2
                  · exact HN.out m (by omega)
                have d3 : decide (0 < bothOf (cur.getD j c0).fr (cur.getD j c0).to x.fr x.to) = false := decide_eq_false hbo
                generalize bothOf (cur.getD j c0).fr (cur.getD j c0).to x.fr x.to = BV at *
                generalize (cur.getD j c0).sv = Csv at *
                generalize (cur.getD j c0).wk = Cwk at *
                generalize (cur.getD j c0).th = Cth at *
                generalize (cur.getD j c0).fr = Cfr at *
                generalize (cur.getD j c0).to = Cto at *
                generalize (cur.getD j c0).n = Cn at *
                clear hbo a1
                go_upto_region 12 with fail
                go_quiet ((go_at_call 41; exact Calls.quiet_of_same (BO.out _)))
                go_wp2_with fail
                go_roundw
                case rel => exact ⟨j + 1, by omega, by simp, HJ.out, by first | exact HB2.out | exact bel_drewN HB2.out⟩
                case measure => first | (simp [intOf]; done) | (simp [intOf]; omega)
            · have d1 : ((cur.getD j c0).sv == x.sv) = false := by simpa using a1
              by_cases a2 : (cur.getD j c0).wk = x.wk
              · have d2 : ((cur.getD j c0).wk == x.wk) = true := by simpa using a2
                by_cases hbo : 0 < bothOf (cur.getD j c0).fr (cur.getD j c0).to x.fr x.to
                · have HCL : Hid (anyClash cur x = true) := anyClash_of hj ⟨.inr a2, hbo⟩
                  have HA : Hid (addAll cs l = (cs, 15)) := by show _ = _; rw [HADD.out, HS.out]; unfold addGo; rw [fits_any1 HE.out HCL.out, if_neg (by decide)]
                  have d3 : decide (0 < bothOf (cur.getD j c0).fr (cur.getD j c0).to x.fr x.to) = true := decide_eq_true hbo
                  generalize bothOf (cur.getD j c0).fr (cur.getD j c0).to x.fr x.to = BV at *
                  generalize (cur.getD j c0).sv = Csv at *
                  generalize (cur.getD j c0).wk = Cwk at *
                  generalize (cur.getD j c0).th = Cth at *
                  generalize (cur.getD j c0).fr = Cfr at *
                  generalize (cur.getD j c0).to = Cto at *
                  generalize (cur.getD j c0).n = Cn at *
                  clear hbo a1 a2
                  go_upto_region 12 with fail
                  go_quiet ((go_at_call 41; exact Calls.quiet_of_same (BO.out _)))
                  go_wp2_with fail
                  go_ret2
                  exact ⟨_, (by rw [HA.out]; first | done | rfl), by rw [HA.out]; exact rown_below HVA.out (HB1.out.trans (by first | exact HB2.out.mono HB1.out.size | exact bel_drewN (HB2.out.mono HB1.out.size))), HB1.out.trans (by first | exact HB2.out.mono HB1.out.size | exact bel_drewN (HB2.out.mono HB1.out.size)), .inl rfl⟩
                · have HJ : Hid (∀ m, m < j + 1 → ¬ Clash (cur.getD m c0) x) := fun m hm => by
                    by_cases e : m = j
                    · rw [e]; exact fun h => hbo h.2
                    · exact HN.out m (by omega)
                  have d3 : decide (0 < bothOf (cur.getD j c0).fr (cur.getD j c0).to x.fr x.to) = false := decide_eq_false hbo
                  generalize bothOf (cur.getD j c0).fr (cur.getD j c0).to x.fr x.to = BV at *
                  generalize (cur.getD j c0).sv = Csv at *
                  generalize (cur.getD j c0).wk = Cwk at *
                  generalize (cur.getD j c0).th = Cth at *
                  generalize (cur.getD j c0).fr = Cfr at *
                  generalize (cur.getD j c0).to = Cto at *
                  generalize (cur.getD j c0).n = Cn at *
                  clear hbo a1 a2
                  go_upto_region 12 with fail
                  go_quiet ((go_at_call 41; exact Calls.quiet_of_same (BO.out _)))
                  go_wp2_with fail
                  go_roundw
                  case rel => exact ⟨j + 1, by omega, by simp, HJ.out, by first | exact HB2.out | exact bel_drewN HB2.out⟩
                  case measure => first | (simp [intOf]; done) | (simp [intOf]; omega)
              · have d2 : ((cur.getD j c0).wk == x.wk) = false := by simpa using a2
                have HJ : Hid (∀ m, m < j + 1 → ¬ Clash (cur.getD m c0) x) := fun m hm => by
                  by_cases e : m = j
                  · rw [e]; exact fun h => h.1.elim a1 a2
                  · exact HN.out m (by omega)
                generalize (cur.getD j c0).sv = Csv at *
                generalize (cur.getD j c0).wk = Cwk at *
                generalize (cur.getD j c0).th = Cth at *
                generalize (cur.getD j c0).fr = Cfr at *
                generalize (cur.getD j c0).to = Cto at *
                generalize (cur.getD j c0).n = Cn at *
                clear a1 a2 BO
                go_upto_region 12 with fail
                go_quiet (fail)
                go_wp2_with fail
                go_roundw
                case rel => exact ⟨j + 1, by omega, by simp, HJ.out, by first | exact HB2.out | exact bel_drewN HB2.out⟩
                case measure => first | (simp [intOf]; done) | (simp [intOf]; omega)
          · obtain rfl : j = cur.length := by omega
            have hge : ¬ (cur.length : Int) < (cur.length : Int) := by omega
            have HA2 : Hid (addAll cs l = addGo cs (cur ++ [x]) (l.drop (k + 1))) := by
              show _ = _
              rw [HADD.out, HS.out]
              conv => lhs; unfold addGo; rw [if_pos (fits_ok HE.out (anyClash_not HN.out))]
            have HOW2 := Lib.hid (rown_below HOW1.out HB2.out)
            have hln : (cur ++ [x]).length = cur.length + 1 := by rw [List.length_append]; rfl
            have hX := hA1.out.below lb1 HB2.out
            have HW2 := Lib.hid (HB1.out.trans (HB2.out.mono HB1.out.size))
            have hs2 := HW2.out.size
            obtain ⟨q0, q1, q2, q3, q4, q5⟩ := hX
            have d4 : decide (4096 ≤ (cur.length : Int)) = false := decide_eq_false (by omega)
            have lb2 : b < wr.heap.size := cell_lt q0
            clear hvx
            go_upto_region 16 with fail
            go_wp2_with (at_builtin; (refine wpList_append_own _ rfl _ _ 28 rfl w.heap.size 67 i0 (.agg #[.int .i64 0, .int .i64 0, .int .i64 0, .int .i64 0, .int .i64 0, .int .i64 0]) 6 48 Try.underlying28 hi hz0 hz1 hz2 rfl (by decide) _ cur.length (ccells cur) rfl (World.ownsRow.alloc HOW2.out _) ⟨wr.heap.size, 0, none⟩ 1 1 (ccells [x]) rfl rfl (rnew_row x _) (ccells_one _) (by unfold maxLen; omega) (by omega) (by simp; omega) ?_); intro v' w9 hown9 hgrow9 _)
            have HO3 : Hid (ROwns w9 w.heap.size v' (cur ++ [x])) := by
              show World.ownsRow _ _ _ _ _ _ _
              rw [hln, ccells_append]
              exact hown9
            have HB3 := Lib.hid ((HW2.out.alloc hs2 _).grown hgrow9 (by simp; omega) (rown_block HOW2.out))
            clear hown9 hgrow9
            go_wp2_with fail
            go_roundw
            case rel => exact ⟨k + 1, cur ++ [x], by omega, by simp, HO3.out, (fun c hc => by
              rcases List.mem_append.1 hc with h1 | h1
              · exact HVC.out c h1
              · rw [List.mem_singleton] at h1; subst h1; exact HVX.out), by rw [hln, HCL0.out]; omega, HA2.out, HB3.out⟩
            case measure => first | (simp [intOf]; done) | (simp [intOf]; omega)
      · have HA : Hid (addAll cs l = (cs, chkErr x)) := by show _ = _; rw [HADD.out, HS.out]; unfold addGo; rw [fits_chk he, if_neg he]
        generalize chkErr x = E at *
        have d1 : (E != 0) = true := by rw [bne_iff_ne]; exact he
        clear he
        go_wp2_with fail
        refine (WR.out _).mono ?_
        rintro e w1 ⟨rfl, b1⟩
        have HB1 := Lib.hid (HB.out.trans (b1.mono hsz))
        clear b1
        go_wp2_with fail
        go_ret2
        exact ⟨_, (by rw [HA.out]; first | done | rfl), by rw [HA.out]; exact rown_below HVA.out HB1.out, HB1.out, .inl rfl⟩
    · have HA : Hid (addAll cs l = (cur, 0)) := by show _ = _; rw [HADD.out, List.drop_eq_nil_of_le (by omega)]; rfl
      obtain rfl : k = l.length := by omega
      have hge : ¬ (l.length : Int) < (l.length : Int) := by omega
      go_wp2_with fail
      go_ret2
      exact ⟨_, (by rw [HA.out]; first | done | rfl), by rw [HA.out]; exact rown_base hB HOW.out, HB.out, .inr (rown_block HOW.out)⟩
set_option maxRecDepth 100000 in
set_option maxHeartbeats 8000000 in
theorem radd_none (B b cap : Nat) (cs l : List Chg) (w : World) (hB : B ≤ w.heap.size) (hva : ROwns w B (.slice none 0 0) cs) (hv : ∀ c ∈ cs, Vld c) (hb : b < w.heap.size) (hc : ∀ j, j < l.length → ChgAt w b (j * 6) (l.getD j c0)) (hn : cs.length + l.length ≤ 4000) :
    Calls Try.prog 25 #[(.slice none 0 0), .slice (some ⟨b, 0, none⟩) l.length cap] w (RAdded B (.slice none 0 0) cs l w) := by
  obtain ⟨i0, hi, hz0, hz1, hz2⟩ := info_parts Try.infoRef
  have HC := Lib.hid hc
  have HVA := Lib.hid hva
  have HV := Lib.hid hv
  clear hc hva hv
  go_enter Try.func25, Try.ntmps25
  have hcs0 : cs = [] := by
    rcases rown_row HVA.out with ⟨_, e⟩ | ⟨g', cap', e, _⟩
    · exact e
    · cases e
  have HE0 : Hid (w.ownsRow w.heap.size 67 6 (.slice none 0 0) 0 []) := ⟨rfl, .inl ⟨rfl, rfl⟩⟩
  have HOW0 : Hid (ROwns w w.heap.size (.slice none 0 0) cs) := by
    show ROwns _ _ _ _
    rw [hcs0]
    exact ⟨rfl, .inl ⟨rfl, rfl⟩⟩
  clear hcs0
  have HB0 : Hid (Below w.heap.size w w) := Below.refl _ _
  go_wp2_with (at_builtin; refine wpList_append_own_none rfl _ _ 28 rfl w.heap.size 67 i0 6 Try.underlying28 hi _ 0 [] rfl HE0.out rfl ?_)
  go_loopw [6, 7, 8, 9] (fun v i ee kk wr => ∃ (k : Nat) (cur : List Chg), k ≤ l.length ∧ i = .int .i64 k ∧ ROwns wr w.heap.size v cur ∧ (∀ c ∈ cur, Vld c) ∧ cur.length = cs.length + k ∧ addAll cs l = addGo cs cur (l.drop k) ∧ Below w.heap.size w wr) (fun _ i _ _ _ => l.length - (intOf i).toNat)
  case atStart => exact ⟨0, cs, Nat.zero_le _, rfl, HOW0.out, HV.out, rfl, rfl, HB0.out⟩
  case round =>
    obtain ⟨k, cur, hk, rfl, hown, hvc, hcl, hadd, hbw⟩ := hrel
    have HB := Lib.hid hbw
    have HOW := Lib.hid hown
    have HVC := Lib.hid hvc
    have HCL0 := Lib.hid hcl
    have HADD := Lib.hid hadd
    have hsz := hbw.size
    obtain ⟨av, nv, cv, rfl⟩ := own_shape hown
    have hnv : nv = cur.length := by
      rcases rown_cells hown with ⟨e1, e2⟩ | ⟨gg, cc', e1, _⟩
      · cases e1; subst e2; rfl
      · cases e1; rfl
    subst hnv
    clear hown hvc hcl hadd hbw
    by_cases hlt : k < l.length
    · have hA : ChgAt wr b (k * 6) (l.getD k c0) := (HC.out k hlt).same (HB.out.block b hb)
      have HS := Lib.hid (drop_c (zs := l) (k := k) hlt)
      generalize l.getD k c0 = x at *
      have hlt' : (k : Int) < (l.length : Int) := by omega
      have hcur : cur.length ≤ 4000 := by rw [HCL0.out]; omega
      have hAH := Lib.hid hA
      obtain ⟨q0, q1, q2, q3, q4, q5⟩ := hA
      have WR := Lib.hid (wrong_any x)
      have lbw : b < wr.heap.size := cell_lt q0
      by_cases he : chkErr x = 0
      · have HE := Lib.hid he
        have hvx := chk_zero.1 he
        have HVX := Lib.hid hvx
        rw [he] at WR
        clear he
        go_wp2_with fail
        refine (WR.out _).mono ?_
        rintro e w1 ⟨rfl, b1⟩
        have HB1 := Lib.hid (HB.out.trans (b1.mono hsz))
        have HOW1 := Lib.hid (rown_below HOW.out b1)
        have lb1 := Nat.lt_of_lt_of_le lbw b1.size
        have hA1 := Lib.hid (hAH.out.below lbw b1)
        have hs1 := HB1.out.size
        clear b1 q0 q1 q2 q3 q4 q5
        go_wp2_with fail
        go_loopw [9] (fun kk wr2 => ∃ j : Nat, j ≤ cur.length ∧ kk = .int .i64 j ∧ (∀ m, m < j → ¬ Clash (cur.getD m c0) x) ∧ Below w1.heap.size w1 wr2) (fun kk _ => cur.length - (intOf kk).toNat)
        case atStart => exact ⟨0, Nat.zero_le _, rfl, fun m hm => absurd hm (by omega), Below.refl _ _⟩
        case round =>
          obtain ⟨j, hjk, rfl, hno, hb2⟩ := hrel
          have HB2 := Lib.hid hb2
          have HN := Lib.hid hno
          clear hno hb2
          by_cases hj : j < cur.length
          · have hj' : (j : Int) < (cur.length : Int) := by omega
            obtain ⟨gg, cc', e1, hgg, hcc⟩ : ∃ gg cc', Value.slice av cur.length cv = .slice (some ⟨gg, 0, none⟩) cur.length cc' ∧ gg < w1.heap.size ∧ ∀ m, m < cur.length → ChgAt w1 gg (m * 6) (cur.getD m c0) := by
              rcases rown_cells HOW1.out with ⟨e1, e2⟩ | ⟨gg, cc', e1, e2, e3⟩
              · subst e2; exact absurd hj (by simp)
              · exact ⟨gg, cc', e1, e2, e3⟩
            cases e1
            have hD := (hcc j hj).below hgg HB2.out
            have hX := hA1.out.below lb1 HB2.out
            obtain ⟨r0, r1, _, r3, r4, _⟩ := hD
            obtain ⟨q0, q1, _, q3, q4, _⟩ := hX
            have hvj := vld_at HVC.out hj
            have BO := Lib.hid (rboth_any (cur.getD j c0).fr (cur.getD j c0).to x.fr x.to (tm_fr hvj) (tm_to hvj) (tm_fr HVX.out) (tm_to HVX.out))
            clear hcc hvj hvx
            by_cases a1 : (cur.getD j c0).sv = x.sv
            · have d1 : ((cur.getD j c0).sv == x.sv) = true := by simpa using a1
              by_cases hbo : 0 < bothOf (cur.getD j c0).fr (cur.getD j c0).to x.fr x.to
              · have HCL : Hid (anyClash cur x = true) := anyClash_of hj ⟨.inl a1, hbo⟩
                have HA : Hid (addAll cs l = (cs, 15)) := by show _ = _; rw [HADD.out, HS.out]; unfold addGo; rw [fits_any1 HE.out HCL.out, if_neg (by decide)]
                have d3 : decide (0 < bothOf (cur.getD j c0).fr (cur.getD j c0).to x.fr x.to) = true := decide_eq_true hbo
                generalize bothOf (cur.getD j c0).fr (cur.getD j c0).to x.fr x.to = BV at *
                generalize (cur.getD j c0).sv = Csv at *
                generalize (cur.getD j c0).wk = Cwk at *
                generalize (cur.getD j c0).th = Cth at *
                generalize (cur.getD j c0).fr = Cfr at *
                generalize (cur.getD j c0).to = Cto at *
                generalize (cur.getD j c0).n = Cn at *
                clear hbo a1
                go_upto_region 12 with fail
                go_quiet ((go_at_call 41; exact Calls.quiet_of_same (BO.out _)))
                go_wp2_with fail
                go_ret2
                exact ⟨_, (by rw [HA.out]; first | done | rfl), by rw [HA.out]; exact rown_below HVA.out (HB1.out.trans (by first | exact HB2.out.mono HB1.out.size | exact bel_drewN (HB2.out.mono HB1.out.size))), HB1.out.trans (by first | exact HB2.out.mono HB1.out.size | exact bel_drewN (HB2.out.mono HB1.out.size)), .inl rfl⟩
              · have HJ : Hid (∀ m, m < j + 1 → ¬ Clash (cur.getD m c0) x) := fun m hm => by
                  by_cases e : m = j
                  · rw [e]; exact fun h => hbo h.2
                  · exact HN.out m (by omega)
                have d3 : decide (0 < bothOf (cur.getD j c0).fr (cur.getD j c0).to x.fr x.to) = false := decide_eq_false hbo
                generalize bothOf (cur.getD j c0).fr (cur.getD j c0).to x.fr x.to = BV at *
                generalize (cur.getD j c0).sv = Csv at *
                generalize (cur.getD j c0).wk = Cwk at *
                generalize (cur.getD j c0).th = Cth at *
                generalize (cur.getD j c0).fr = Cfr at *
                generalize (cur.getD j c0).to = Cto at *
                generalize (cur.getD j c0).n = Cn at *
                clear hbo a1
                go_upto_region 12 with fail
                go_quiet ((go_at_call 41; exact Calls.quiet_of_same (BO.out _)))
                go_wp2_with fail
                go_roundw
                case rel => exact ⟨j + 1, by omega, by simp, HJ.out, by first | exact HB2.out | exact bel_drewN HB2.out⟩
                case measure => first | (simp [intOf]; done) | (simp [intOf]; omega)
            · have d1 : ((cur.getD j c0).sv == x.sv) = false := by simpa using a1
              by_cases a2 : (cur.getD j c0).wk = x.wk
              · have d2 : ((cur.getD j c0).wk == x.wk) = true := by simpa using a2
                by_cases hbo : 0 < bothOf (cur.getD j c0).fr (cur.getD j c0).to x.fr x.to
                · have HCL : Hid (anyClash cur x = true) := anyClash_of hj ⟨.inr a2, hbo⟩
                  have HA : Hid (addAll cs l = (cs, 15)) := by show _ = _; rw [HADD.out, HS.out]; unfold addGo; rw [fits_any1 HE.out HCL.out, if_neg (by decide)]
                  have d3 : decide (0 < bothOf (cur.getD j c0).fr (cur.getD j c0).to x.fr x.to) = true := decide_eq_true hbo
                  generalize bothOf (cur.getD j c0).fr (cur.getD j c0).to x.fr x.to = BV at *
                  generalize (cur.getD j c0).sv = Csv at *
                  generalize (cur.getD j c0).wk = Cwk at *
                  generalize (cur.getD j c0).th = Cth at *
                  generalize (cur.getD j c0).fr = Cfr at *
                  generalize (cur.getD j c0).to = Cto at *
                  generalize (cur.getD j c0).n = Cn at *
                  clear hbo a1 a2
                  go_upto_region 12 with fail
                  go_quiet ((go_at_call 41; exact Calls.quiet_of_same (BO.out _)))
                  go_wp2_with fail
                  go_ret2
                  exact ⟨_, (by rw [HA.out]; first | done | rfl), by rw [HA.out]; exact rown_below HVA.out (HB1.out.trans (by first | exact HB2.out.mono HB1.out.size | exact bel_drewN (HB2.out.mono HB1.out.size))), HB1.out.trans (by first | exact HB2.out.mono HB1.out.size | exact bel_drewN (HB2.out.mono HB1.out.size)), .inl rfl⟩
                · have HJ : Hid (∀ m, m < j + 1 → ¬ Clash (cur.getD m c0) x) := fun m hm => by
                    by_cases e : m = j
                    · rw [e]; exact fun h => hbo h.2
                    · exact HN.out m (by omega)
                  have d3 : decide (0 < bothOf (cur.getD j c0).fr (cur.getD j c0).to x.fr x.to) = false := decide_eq_false hbo
                  generalize bothOf (cur.getD j c0).fr (cur.getD j c0).to x.fr x.to = BV at *
                  generalize (cur.getD j c0).sv = Csv at *
                  generalize (cur.getD j c0).wk = Cwk at *
                  generalize (cur.getD j c0).th = Cth at *
                  generalize (cur.getD j c0).fr = Cfr at *
                  generalize (cur.getD j c0).to = Cto at *
                  generalize (cur.getD j c0).n = Cn at *
                  clear hbo a1 a2
                  go_upto_region 12 with fail
                  go_quiet ((go_at_call 41; exact Calls.quiet_of_same (BO.out _)))
                  go_wp2_with fail
                  go_roundw
                  case rel => exact ⟨j + 1, by omega, by simp, HJ.out, by first | exact HB2.out | exact bel_drewN HB2.out⟩
                  case measure => first | (simp [intOf]; done) | (simp [intOf]; omega)
              · have d2 : ((cur.getD j c0).wk == x.wk) = false := by simpa using a2
                have HJ : Hid (∀ m, m < j + 1 → ¬ Clash (cur.getD m c0) x) := fun m hm => by
                  by_cases e : m = j
                  · rw [e]; exact fun h => h.1.elim a1 a2
                  · exact HN.out m (by omega)
                generalize (cur.getD j c0).sv = Csv at *
                generalize (cur.getD j c0).wk = Cwk at *
                generalize (cur.getD j c0).th = Cth at *
                generalize (cur.getD j c0).fr = Cfr at *
                generalize (cur.getD j c0).to = Cto at *
                generalize (cur.getD j c0).n = Cn at *
                clear a1 a2 BO
                go_upto_region 12 with fail
                go_quiet (fail)
                go_wp2_with fail
                go_roundw
                case rel => exact ⟨j + 1, by omega, by simp, HJ.out, by first | exact HB2.out | exact bel_drewN HB2.out⟩
                case measure => first | (simp [intOf]; done) | (simp [intOf]; omega)
          · obtain rfl : j = cur.length := by omega
            have hge : ¬ (cur.length : Int) < (cur.length : Int) := by omega
            have HA2 : Hid (addAll cs l = addGo cs (cur ++ [x]) (l.drop (k + 1))) := by
              show _ = _
              rw [HADD.out, HS.out]
              conv => lhs; unfold addGo; rw [if_pos (fits_ok HE.out (anyClash_not HN.out))]
            have HOW2 := Lib.hid (rown_below HOW1.out HB2.out)
            have hln : (cur ++ [x]).length = cur.length + 1 := by rw [List.length_append]; rfl
            have hX := hA1.out.below lb1 HB2.out
            have HW2 := Lib.hid (HB1.out.trans (HB2.out.mono HB1.out.size))
            have hs2 := HW2.out.size
            obtain ⟨q0, q1, q2, q3, q4, q5⟩ := hX
            have d4 : decide (4096 ≤ (cur.length : Int)) = false := decide_eq_false (by omega)
            have lb2 : b < wr.heap.size := cell_lt q0
            clear hvx
            go_upto_region 16 with fail
            go_wp2_with (at_builtin; (refine wpList_append_own _ rfl _ _ 28 rfl w.heap.size 67 i0 (.agg #[.int .i64 0, .int .i64 0, .int .i64 0, .int .i64 0, .int .i64 0, .int .i64 0]) 6 48 Try.underlying28 hi hz0 hz1 hz2 rfl (by decide) _ cur.length (ccells cur) rfl (World.ownsRow.alloc HOW2.out _) ⟨wr.heap.size, 0, none⟩ 1 1 (ccells [x]) rfl rfl (rnew_row x _) (ccells_one _) (by unfold maxLen; omega) (by omega) (by simp; omega) ?_); intro v' w9 hown9 hgrow9 _)
            have HO3 : Hid (ROwns w9 w.heap.size v' (cur ++ [x])) := by
              show World.ownsRow _ _ _ _ _ _ _
              rw [hln, ccells_append]
              exact hown9
            have HB3 := Lib.hid ((HW2.out.alloc hs2 _).grown hgrow9 (by simp; omega) (rown_block HOW2.out))
            clear hown9 hgrow9
            go_wp2_with fail
            go_roundw
            case rel => exact ⟨k + 1, cur ++ [x], by omega, by simp, HO3.out, (fun c hc => by
              rcases List.mem_append.1 hc with h1 | h1
              · exact HVC.out c h1
              · rw [List.mem_singleton] at h1; subst h1; exact HVX.out), by rw [hln, HCL0.out]; omega, HA2.out, HB3.out⟩
            case measure => first | (simp [intOf]; done) | (simp [intOf]; omega)
      · have HA : Hid (addAll cs l = (cs, chkErr x)) := by show _ = _; rw [HADD.out, HS.out]; unfold addGo; rw [fits_chk he, if_neg he]
        generalize chkErr x = E at *
        have d1 : (E != 0) = true := by rw [bne_iff_ne]; exact he
        clear he
        go_wp2_with fail
        refine (WR.out _).mono ?_
        rintro e w1 ⟨rfl, b1⟩
        have HB1 := Lib.hid (HB.out.trans (b1.mono hsz))
        clear b1
        go_wp2_with fail
        go_ret2
        exact ⟨_, (by rw [HA.out]; first | done | rfl), by rw [HA.out]; exact rown_below HVA.out HB1.out, HB1.out, .inl rfl⟩
    · have HA : Hid (addAll cs l = (cur, 0)) := by show _ = _; rw [HADD.out, List.drop_eq_nil_of_le (by omega)]; rfl
      obtain rfl : k = l.length := by omega
      have hge : ¬ (l.length : Int) < (l.length : Int) := by omega
      go_wp2_with fail
      go_ret2
      exact ⟨_, (by rw [HA.out]; first | done | rfl), by rw [HA.out]; exact rown_base hB HOW.out, HB.out, .inr (rown_block HOW.out)⟩
set_option maxRecDepth 100000 in
set_option maxHeartbeats 2000000 in
theorem radd_some0 (B : Nat) (g cap0 : Nat) (cs : List Chg) (w : World) (hB : B ≤ w.heap.size) (hva : ROwns w B (.slice (some ⟨g, 0, none⟩) cs.length cap0) cs) (hn : cs.length ≤ 4000) :
    Calls Try.prog 25 #[(.slice (some ⟨g, 0, none⟩) cs.length cap0), .slice none 0 0] w (RAdded B (.slice (some ⟨g, 0, none⟩) cs.length cap0) cs [] w) := by
  obtain ⟨i0, hi, hz0, hz1, hz2⟩ := info_parts Try.infoRef
  have HVA := Lib.hid hva
  clear hva
  go_enter Try.func25, Try.ntmps25
  have hcl := Lib.hid (rown_row HVA.out)
  have hcs : ∀ j u, (ccells cs)[j]? = some u → w.cell? ((Addr.mk g 0 none).add j) = some u := by
    rcases hcl.out with ⟨e, _⟩ | ⟨g', cap', e, _, _, h⟩
    · cases e
    · cases e; exact h
  have HCS := Lib.hid hcs
  clear hcs
  go_wp2_with (at_builtin; (refine wpList_append_own _ rfl _ _ 28 rfl w.heap.size 67 i0 (.agg #[.int .i64 0, .int .i64 0, .int .i64 0, .int .i64 0, .int .i64 0, .int .i64 0]) 6 48 Try.underlying28 hi hz0 hz1 hz2 rfl (by decide) _ 0 [] rfl ⟨rfl, .inl ⟨rfl, rfl⟩⟩ ⟨g, 0, none⟩ cs.length cap0 (ccells cs) rfl (ccells_length cs) HCS.out (ccells_one cs) (by unfold maxLen; omega) (by omega) (by simp) ?_); intro v0 w0 hown0 hgrow0 _; simp only [Nat.zero_add, List.nil_append] at hown0)
  have HOW0 : Hid (ROwns w0 w.heap.size v0 cs) := hown0
  have HB0 := Lib.hid ((Below.refl w.heap.size w).grown hgrow0 (by simp) (fun k e => by cases e))
  clear hown0 hgrow0
  go_wp2_with fail
  refine wp_loop_rounds 1 ?_
  rw [rounds_succ]
  go_wp2_with fail
  go_ret2
  exact ⟨_, rfl, rown_base hB HOW0.out, HB0.out, .inr (rown_block HOW0.out)⟩
set_option maxRecDepth 100000 in
set_option maxHeartbeats 2000000 in
theorem radd_none0 (B : Nat) (cs : List Chg) (w : World) (hB : B ≤ w.heap.size) (hva : ROwns w B (.slice none 0 0) cs) :
    Calls Try.prog 25 #[(.slice none 0 0), .slice none 0 0] w (RAdded B (.slice none 0 0) cs [] w) := by
  obtain ⟨i0, hi, _, _, _⟩ := info_parts Try.infoRef
  have HVA := Lib.hid hva
  clear hva
  go_enter Try.func25, Try.ntmps25
  have hcs0 : cs = [] := by
    rcases rown_row HVA.out with ⟨_, e⟩ | ⟨g', cap', e, _⟩
    · exact e
    · cases e
  have HE0 : Hid (w.ownsRow w.heap.size 67 6 (.slice none 0 0) 0 []) := ⟨rfl, .inl ⟨rfl, rfl⟩⟩
  have HOW0 : Hid (ROwns w w.heap.size (.slice none 0 0) cs) := by
    show ROwns _ _ _ _
    rw [hcs0]
    exact ⟨rfl, .inl ⟨rfl, rfl⟩⟩
  clear hcs0
  have HB0 : Hid (Below w.heap.size w w) := Below.refl _ _
  go_wp2_with (at_builtin; refine wpList_append_own_none rfl _ _ 28 rfl w.heap.size 67 i0 6 Try.underlying28 hi _ 0 [] rfl HE0.out rfl ?_)
  go_wp2_with fail
  refine wp_loop_rounds 1 ?_
  rw [rounds_succ]
  go_wp2_with fail
  go_ret2
  exact ⟨_, rfl, rown_base hB HOW0.out, HB0.out, .inr (rown_block HOW0.out)⟩
theorem radd_any (B Bl : Nat) (va vl : Value) (cs l : List Chg) (w : World) (hB : B ≤ w.heap.size) (hva : ROwns w B va cs) (hl : ROwns w Bl vl l) (hv : ∀ c ∈ cs, Vld c) (hn : cs.length + l.length ≤ 4000) :
    Calls Try.prog 25 #[va, vl] w (RAdded B va cs l w) := by
  rcases rown_cells hva with ⟨rfl, e2⟩ | ⟨g, cap, rfl, _, _⟩
  · rcases rown_cells hl with ⟨rfl, rfl⟩ | ⟨b, cap', rfl, hb, hc⟩
    · exact radd_none0 B cs w hB hva
    · exact radd_none B b cap' cs l w hB hva hv hb hc hn
  · rcases rown_cells hl with ⟨rfl, rfl⟩ | ⟨b, cap', rfl, hb, hc⟩
    · exact radd_some0 B g cap cs w hB hva (by simpa using hn)
    · exact radd_some B b cap' g cap cs l w hB hva hv hb hc hn
end Go.Proofs.Ytfpifaccjfgfkaa
