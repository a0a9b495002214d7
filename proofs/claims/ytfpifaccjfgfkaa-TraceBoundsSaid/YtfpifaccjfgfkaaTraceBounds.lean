/- TraceBounds answers true at every charges, every server and every window. No condition. -/
import Derived.Test.YtfpifaccjfgfkaaTraceLaws
import Derived.Test.YtfpifaccjfgfkaaTraceCollect
import Derived.BigQuiet
namespace Go.Proofs.Ytfpifaccjfgfkaa.traceBounds
open Go.ChangeShapes Go.WideShapes Go.ChangeAt Go.RowKit Go.Deep Go.Joins
attribute [local go_sem] Oper.semAt_some

theorem own_only {w w' : World} {B : Nat} {v : Value} {cs : List Chg} {S : Nat → Prop} (h : Owns w B v cs) (k : Only w w' S) (hS : ∀ i, S i → i < B) : Owns w' B v cs := by
  obtain ⟨hl, ⟨rfl, h0⟩ | ⟨r, cap, cur, rfl, hB, hg, hn, hm, hs, hc⟩⟩ := h
  · exact ⟨hl, .inl ⟨rfl, h0⟩⟩
  · exact ⟨hl, .inr ⟨r, cap, cur, rfl, hB, (k.block r (Array.getElem?_eq_some_iff.1 hg).1 (fun hs => by have := hS _ hs; omega)).trans hg, hn, hm, hs, hc⟩⟩
theorem rev_take {ps : List Chg} {t : Nat} (ht : t < ps.length) : ps.reverse.take (ps.length - t) = ps.reverse.take (ps.length - (t + 1)) ++ [ps.getD t c0] := by
  have h1 : ps.length - t = ps.length - (t + 1) + 1 := by omega
  rw [h1, List.take_succ_eq_append_getElem (by rw [List.length_reverse]; omega), List.getElem_reverse]
  congr 2
  have : ps.getD t c0 = ps[t] := by simp [List.getD, ht]
  rw [this]
  congr 1
  omega
theorem rev_all {w : World} {B : Nat} {v : Value} {ps : List Chg} (h : Owns w B v (ps.reverse.take (ps.length - 0))) : Owns w B v ps.reverse := by
  rw [Nat.sub_zero, List.take_of_length_le (by rw [List.length_reverse]; exact Nat.le_refl _)] at h
  exact h
theorem ask_same {n f t : Int} (h0 : 0 ≤ n) (h1 : n < 16) : askErr n 16 f t = askErr n 64 f t := by
  unfold askErr
  rw [inB_true.2 ⟨h0, h1⟩, inB_true.2 ⟨h0, show n < 64 by omega⟩]
set_option maxRecDepth 100000 in
set_option maxHeartbeats 1000000 in
theorem many (o : Option Addr) (len cap : Nat) (l : List Chg) (n f t : Int) (w : World) (_ : ChgRow w (.slice o len cap) l) (hl : 20 < len) : Calls Try.prog 5 #[.slice o len cap, .int .i64 n, .agg #[.int .i64 f, .int .i64 t]] w (Gives (.bool true) w) := by
  have d1 : decide (20 < (len : Int)) = true := decide_eq_true (by omega)
  have R0 := bel_alloc (o := .cells #[.int .i64 f, .int .i64 t] 48) (Below.refl w.heap.size w)
  go_enter Try.func5, Try.ntmps5
  go_wp2_with fail
  refine (awake_true _).mono ?_
  rintro e w90 ⟨rfl, b90⟩
  have HE := Lib.hid (R0.trans (b90.mono (R0).size))
  clear b90
  go_wp2_with fail
  go_ret
  exact ⟨rfl, HE.out⟩
set_option maxRecDepth 100000 in
set_option maxHeartbeats 1000000 in
theorem neg (o : Option Addr) (len cap : Nat) (l : List Chg) (n f t : Int) (w : World) (_ : ChgRow w (.slice o len cap) l) (hl : ¬ 20 < len) (hn : n < 0) : Calls Try.prog 5 #[.slice o len cap, .int .i64 n, .agg #[.int .i64 f, .int .i64 t]] w (Gives (.bool true) w) := by
  have d1 : decide (20 < (len : Int)) = false := decide_eq_false (by omega)
  have d2 : decide (n < 0) = true := decide_eq_true (by omega)
  have R0 := bel_alloc (o := .cells #[.int .i64 f, .int .i64 t] 48) (Below.refl w.heap.size w)
  go_enter Try.func5, Try.ntmps5
  go_wp2_with fail
  refine (awake_true _).mono ?_
  rintro e w90 ⟨rfl, b90⟩
  have HE := Lib.hid (R0.trans (b90.mono (R0).size))
  clear b90
  go_wp2_with fail
  go_ret
  exact ⟨rfl, HE.out⟩
set_option maxRecDepth 100000 in
set_option maxHeartbeats 1000000 in
theorem big (o : Option Addr) (len cap : Nat) (l : List Chg) (n f t : Int) (w : World) (_ : ChgRow w (.slice o len cap) l) (hl : ¬ 20 < len) (hn : ¬ n < 0) (hm : 15 < n) : Calls Try.prog 5 #[.slice o len cap, .int .i64 n, .agg #[.int .i64 f, .int .i64 t]] w (Gives (.bool true) w) := by
  have d1 : decide (20 < (len : Int)) = false := decide_eq_false (by omega)
  have d2 : decide (n < 0) = false := decide_eq_false (by omega)
  have d3 : decide (15 < n) = true := decide_eq_true (by omega)
  have R0 := bel_alloc (o := .cells #[.int .i64 f, .int .i64 t] 48) (Below.refl w.heap.size w)
  go_enter Try.func5, Try.ntmps5
  go_wp2_with fail
  refine (awake_true _).mono ?_
  rintro e w90 ⟨rfl, b90⟩
  have HE := Lib.hid (R0.trans (b90.mono (R0).size))
  clear b90
  go_wp2_with fail
  go_ret
  exact ⟨rfl, HE.out⟩
set_option maxRecDepth 100000 in
set_option maxHeartbeats 1000000 in
theorem bad (o : Option Addr) (len cap : Nat) (l : List Chg) (n f t : Int) (w : World) (h : ChgRow w (.slice o len cap) l) (hl : ¬ 20 < len) (hn : ¬ n < 0) (hm : ¬ 15 < n) (ha : (addAll [] l).2 ≠ 0) : Calls Try.prog 5 #[.slice o len cap, .int .i64 n, .agg #[.int .i64 f, .int .i64 t]] w (Gives (.bool true) w) := by
  have hnot := add_not ha
  have hrev : (addAll [] l.reverse).2 ≠ 0 := fun h => ha ((add_reverse l).1 h)
  have e1 : ((addAll [] l).2 == 0) = false := by rw [beq_eq_false_iff_ne]; exact ha
  have e2 : ((addAll [] l).2 != 0) = true := by rw [bne_iff_ne]; exact ha
  have e3 : ((addAll [] l.reverse).2 == 0) = false := by rw [beq_eq_false_iff_ne]; exact hrev
  have e4 : ((addAll [] l.reverse).2 != 0) = true := by rw [bne_iff_ne]; exact hrev
  have d1 : decide (20 < (len : Int)) = false := decide_eq_false (by omega)
  have d2 : decide (n < 0) = false := decide_eq_false (by omega)
  have d3 : decide (15 < n) = false := decide_eq_false (by omega)
  have hlen := row_len h
  subst hlen
  have HP := Lib.hid h
  have hl2 : l.length ≤ 20 := by omega
  clear h
  obtain ⟨i0, hi1, hz0, hz1, hz2⟩ := info_parts Try.infoCharge
  have HCB := Lib.hid (fun (wx : World) (hx : Below (w.alloc (.cells #[.int .i64 f, .int .i64 t] 48)).heap.size (w.alloc (.cells #[.int .i64 f, .int .i64 t] 48)) wx) => And.intro ((hx.cell (p := ⟨w.heap.size, 0, none⟩) (by simp)).trans (show _ = some (Value.int .i64 f) by go_simp)) (And.intro ((hx.cell (p := ⟨w.heap.size, 1, none⟩) (by simp)).trans (show _ = some (Value.int .i64 t) by go_simp)) (show w.heap.size + 1 ≤ wx.heap.size by have := hx.size; simp at this; exact this)))
  have sz0 : (w.alloc (.cells #[.int .i64 f, .int .i64 t] 48)).heap.size = w.heap.size + 1 := by simp
  have HW0 : Hid (Below w.heap.size w (w.alloc (.cells #[.int .i64 f, .int .i64 t] 48))) := Lib.hid (bel_alloc (Below.refl _ _))
  go_enter Try.func5, Try.ntmps5
  go_wp2_with fail
  refine (new_any _).mono ?_
  rintro e w1 ⟨rfl, hT, hb⟩
  rw [sz0] at hT
  have R1 := Lib.hid hb
  have HT1 := Lib.hid (hT.base (B := w.heap.size))
  have l1 := hT.lt
  clear hT hb
  go_wp2_with fail
  refine (new_any _).mono ?_
  rintro e wc ⟨rfl, hU, hc⟩
  have Rc := Lib.hid (R1.out.trans (hc.mono R1.out.size))
  have HT := Lib.hid (HT1.out.below hc)
  have HU := Lib.hid (hU.base (B := w.heap.size))
  have lu := hU.lt
  have l3 : w.heap.size + 1 < wc.heap.size := by omega
  clear hU hc HT1
  go_wp2_with fail
  go_loopw [9, 10] (fun v kk wr => ∃ (s : Nat) (K : Int), K + 1 = s ∧ s ≤ l.length ∧ kk = .int .i64 K ∧ Owns wr wc.heap.size v (l.reverse.take (l.length - s)) ∧ Below wc.heap.size wc wr) (fun _ i _ => (intOf i + 1).toNat)
  case atStart => exact ⟨l.length, _, by omega, Nat.le_refl _, rfl, by rw [Nat.sub_self]; exact own_nil _ _, Below.refl _ _⟩
  case round =>
    obtain ⟨s, K, hK, htl, rfl, hown, hbw⟩ := hrel
    have HB := Lib.hid hbw
    have hsz := hbw.size
    have HO := Lib.hid hown
    clear hown hbw
    cases s with
    | succ s =>
      obtain rfl : K = (s : Int) := by omega
      obtain ⟨b, off, rfl, lb0⟩ : ∃ b off, o = some ⟨b, off, none⟩ ∧ b < w.heap.size := by
        rcases HP.out with ⟨_, _, _, e2⟩ | ⟨b, off, _, e1, hb, _⟩
        · rw [e2] at htl; simp at htl
        · simp only [Value.slice.injEq] at e1
          exact ⟨b, off, e1.1, hb⟩
      have hA : ChgAt wr b (off + s * 6) (l.getD s c0) := ((row_at HP.out (by omega)).below lb0 (HW0.out.trans (Rc.out.mono (by omega)))).below (by omega) (HB.out.mono (Nat.le_refl _))
      have HV := Lib.hid (rev_take (ps := l) (t := s) (by omega))
      generalize l.getD s c0 = x at *
      obtain ⟨q0, q1, q2, q3, q4, q5⟩ := hA
      have hlt : (s : Int) < (l.length : Int) := by omega
      have hge : ¬ (s : Int) < 0 := by omega
      have lb : b < wr.heap.size := cell_lt q0
      have hlw : wc.heap.size ≤ wr.heap.size := hsz
      obtain ⟨av, nv, cv, rfl⟩ := own_shape HO.out
      have hln : (l.reverse.take (l.length - (s + 1))).length + 1 = (l.reverse.take (l.length - s)).length := by rw [HV.out, List.length_append]; rfl
      have hcap20 : (l.reverse.take (l.length - (s + 1))).length ≤ 20 := by rw [List.length_take, List.length_reverse]; omega
      go_wp2_with (at_builtin; (refine wpList_append_own _ rfl _ _ 40 rfl wc.heap.size 50 i0 (.agg #[.int .i64 0, .int .i64 0, .int .i64 0, .int .i64 0, .int .i64 0, .int .i64 0]) 6 48 Try.underlying40 hi1 hz0 hz1 hz2 rfl (by decide) _ _ _ rfl (HO.out.alloc _) ⟨wr.heap.size, 0, none⟩ 1 1 (ccells [x]) rfl rfl (new_row x wr) (ccells_one _) (by unfold maxLen; omega) (by omega) (by simp; omega) ?_); intro v' w2 hown hgrow _)
      rw [← ccells_append, hln, ← HV.out] at hown
      have HO3 := Lib.hid hown
      have HB3 := Lib.hid ((HB.out.alloc HB.out.size _).grown hgrow (Nat.le_trans HB.out.size (by simp)) (own_block HO.out))
      obtain ⟨a3, n3, c3, rfl⟩ := own_shape hown
      clear hown hgrow HO HB HV hln q0 q1 q2 q3 q4 q5
      go_wp2_with fail
      go_roundw
      case rel => exact ⟨s, _, by omega, by omega, rfl, HO3.out, HB3.out⟩
      case measure => first | (simp [intOf]; done) | (simp [intOf]; omega)
    | zero =>
      obtain rfl : K = -1 := by omega
      have HF := Lib.hid (rev_all HO.out)
      have Rr := Lib.hid (Rc.out.trans (HB.out.mono (by omega)))
      have HTr := Lib.hid (HT.out.below HB.out)
      have HUr := Lib.hid (HU.out.below HB.out)
      have AD := Lib.hid (add_fresh w.heap.size (w.heap.size + 1) _ l w wr HP.out (HW0.out.trans (Rr.out.mono (by omega))) (by omega) HTr.out (by omega) (by omega))
      obtain ⟨cb0, cb1, lw⟩ := HCB.out _ Rr.out
      clear HO hK htl HB HT HU
      go_wp2_with fail
      refine AD.out.mono ?_
      rintro e w3 ⟨he, v3, hT3, hO3, hr3⟩
      subst he
      have hb3 := added_below (B := (w.alloc (.cells #[.int .i64 f, .int .i64 t] 48)).heap.size) hO3 (by omega) (by omega)
      have R3 := Lib.hid (Rr.out.trans hb3)
      have HU3 := Lib.hid (HUr.out.keep hO3 (fun hs => by
        rcases hs with hs | hs
        · omega
        · simp [Value.ownBlock] at hs) (fun r e => by simp [Value.ownBlock] at e))
      have HF3 := Lib.hid (own_only HF.out hO3 (fun i hs => by
        rcases hs with hs | hs
        · omega
        · simp [Value.ownBlock] at hs))
      have hs3 := hO3.size
      have lrr : wc.heap.size ≤ wr.heap.size := hsz
      have AU := Lib.hid (add_any w.heap.size w1.heap.size (.slice none 0 0) _ [] l.reverse w3 (by omega) HU3.out (owns_row HF3.out).1 (fun r e => by
        have := own_block HF3.out r e
        exact ⟨by omega, by simp [Value.ownBlock]⟩) (fun c h => absurd h (by simp)) (by rw [List.length_reverse]; simp; omega))
      obtain ⟨ab, nb, cbk, rfl⟩ := own_shape HF.out
      clear cb0 cb1 lw AD hb3 HF HUr HTr
      rw [hnot] at hT3
      have LN := Lib.hid (len_any w.heap.size _ v3 [] w3 hT3)
      unfold Added at AU
      generalize (addAll [] l).2 = E at *
      generalize (addAll [] l.reverse).2 = E2 at *
      clear hT3 hO3 hr3 ha hrev hnot
      obtain ⟨cb0, cb1, lw⟩ := HCB.out _ R3.out
      go_wp2_with fail
      refine LN.out.mono ?_
      rintro e w4 ⟨rfl, rfl⟩
      go_wp2_with fail
      refine AU.out.mono ?_
      rintro e w5 ⟨rfl, v5, hT5, hO5, hr5⟩
      have hb5 := added_below (B := (w.alloc (.cells #[.int .i64 f, .int .i64 t] 48)).heap.size) hO5 (by omega) (by omega)
      have R5 := Lib.hid (HW0.out.trans ((R3.out.trans hb5).mono (by omega)))
      clear hb5 hT5 hO5 hr5 cb0 cb1 lw
      go_wp2_with fail
      refine (awake_true _).mono ?_
      rintro e w90 ⟨rfl, b90⟩
      have HE := Lib.hid (R5.out.trans (b90.mono (R5.out).size))
      clear b90
      go_wp2_with fail
      go_ret
      exact ⟨rfl, HE.out⟩
set_option maxRecDepth 100000 in
set_option maxHeartbeats 1000000 in
theorem wrong (o : Option Addr) (len cap : Nat) (l : List Chg) (n f t : Int) (w : World) (h : ChgRow w (.slice o len cap) l) (hl : ¬ 20 < len) (hn : ¬ n < 0) (hm : ¬ 15 < n) (ha : (addAll [] l).2 = 0) (he : askErr n 64 f t ≠ 0) : Calls Try.prog 5 #[.slice o len cap, .int .i64 n, .agg #[.int .i64 f, .int .i64 t]] w (Gives (.bool true) w) := by
  obtain ⟨hz, hv, hcalm⟩ := add_zero ha
  have hra := (add_reverse l).2 ha
  obtain ⟨hrl, _, _⟩ := add_zero hra
  have hll : l.length ≤ 20 := by have := row_len h; omega
  obtain ⟨ys, hys⟩ := vcs l hv
  have hyl : ys.length ≤ 20 := by rw [← List.length_map (f := fun z : VC => z.1), hys]; exact hll
  rw [← hys] at hcalm
  have CX0 := Lib.hid (fun (v2 : Value) (g : Nat) (w2 : World) (hT : TAt w2 w.heap.size g v2 ((ys).map (·.1))) => within_t_any w.heap.size g v2 (ys) n f t w2 (by first | omega | (rw [List.length_reverse]; omega)) hT)
  rw [told_not he] at CX0
  have CX1 := Lib.hid (fun (v2 : Value) (g : Nat) (w2 : World) (hT : TAt w2 w.heap.size g v2 ((ys).map (·.1))) => touch_t_any w.heap.size g v2 (ys) n f t w2 (by first | omega | (rw [List.length_reverse]; omega)) hT)
  rw [told_not he] at CX1
  have CX2 := Lib.hid (fun (v2 : Value) (g : Nat) (w2 : World) (hT : TAt w2 w.heap.size g v2 ((ys).map (·.1))) => busy_t_any w.heap.size g v2 (ys) n f t w2 (by first | omega | (rw [List.length_reverse]; omega)) hT)
  rw [told_not (by rw [ask_same (by omega) (by omega)]; exact he), ask_same (by omega) (by omega)] at CX2
  have CX3 := Lib.hid (fun (v2 : Value) (g : Nat) (w2 : World) (hT : TAt w2 w.heap.size g v2 ((ys.reverse).map (·.1))) => within_t_any w.heap.size g v2 (ys.reverse) n f t w2 (by first | omega | (rw [List.length_reverse]; omega)) hT)
  rw [of_reverse, sum_reverse] at CX3
  rw [told_not he] at CX3
  have CX4 := Lib.hid (fun (v2 : Value) (g : Nat) (w2 : World) (hT : TAt w2 w.heap.size g v2 ((ys.reverse).map (·.1))) => touch_t_any w.heap.size g v2 (ys.reverse) n f t w2 (by first | omega | (rw [List.length_reverse]; omega)) hT)
  rw [of_reverse, sum_reverse] at CX4
  rw [told_not he] at CX4
  have CX5 := Lib.hid (fun (v2 : Value) (g : Nat) (w2 : World) (hT : TAt w2 w.heap.size g v2 ((ys.reverse).map (·.1))) => busy_t_any w.heap.size g v2 (ys.reverse) n f t w2 (by first | omega | (rw [List.length_reverse]; omega)) hT)
  rw [sum_reverse] at CX5
  rw [told_not (by rw [ask_same (by omega) (by omega)]; exact he), ask_same (by omega) (by omega)] at CX5
  have e1 : (askErr n 64 f t == 0) = false := by rw [beq_eq_false_iff_ne]; exact he
  have e2 : (askErr n 64 f t != 0) = true := by rw [bne_iff_ne]; exact he
  have e3 : (askErr n 64 f t != askErr n 64 f t) = false := by simp
  generalize askErr n 64 f t = E at *
  have hrz : (addAll [] l.reverse).2 = 0 := hra
  have d1 : decide (20 < (len : Int)) = false := decide_eq_false (by omega)
  have d2 : decide (n < 0) = false := decide_eq_false (by omega)
  have d3 : decide (15 < n) = false := decide_eq_false (by omega)
  have hlen := row_len h
  subst hlen
  have HP := Lib.hid h
  have hl2 : l.length ≤ 20 := by omega
  clear h
  obtain ⟨i0, hi1, hz0, hz1, hz2⟩ := info_parts Try.infoCharge
  have HCB := Lib.hid (fun (wx : World) (hx : Below (w.alloc (.cells #[.int .i64 f, .int .i64 t] 48)).heap.size (w.alloc (.cells #[.int .i64 f, .int .i64 t] 48)) wx) => And.intro ((hx.cell (p := ⟨w.heap.size, 0, none⟩) (by simp)).trans (show _ = some (Value.int .i64 f) by go_simp)) (And.intro ((hx.cell (p := ⟨w.heap.size, 1, none⟩) (by simp)).trans (show _ = some (Value.int .i64 t) by go_simp)) (show w.heap.size + 1 ≤ wx.heap.size by have := hx.size; simp at this; exact this)))
  have sz0 : (w.alloc (.cells #[.int .i64 f, .int .i64 t] 48)).heap.size = w.heap.size + 1 := by simp
  have HW0 : Hid (Below w.heap.size w (w.alloc (.cells #[.int .i64 f, .int .i64 t] 48))) := Lib.hid (bel_alloc (Below.refl _ _))
  go_enter Try.func5, Try.ntmps5
  go_wp2_with fail
  refine (new_any _).mono ?_
  rintro e w1 ⟨rfl, hT, hb⟩
  rw [sz0] at hT
  have R1 := Lib.hid hb
  have HT1 := Lib.hid (hT.base (B := w.heap.size))
  have l1 := hT.lt
  clear hT hb
  go_wp2_with fail
  refine (new_any _).mono ?_
  rintro e wc ⟨rfl, hU, hc⟩
  have Rc := Lib.hid (R1.out.trans (hc.mono R1.out.size))
  have HT := Lib.hid (HT1.out.below hc)
  have HU := Lib.hid (hU.base (B := w.heap.size))
  have lu := hU.lt
  have l3 : w.heap.size + 1 < wc.heap.size := by omega
  clear hU hc HT1
  go_wp2_with fail
  go_loopw [9, 10] (fun v kk wr => ∃ (s : Nat) (K : Int), K + 1 = s ∧ s ≤ l.length ∧ kk = .int .i64 K ∧ Owns wr wc.heap.size v (l.reverse.take (l.length - s)) ∧ Below wc.heap.size wc wr) (fun _ i _ => (intOf i + 1).toNat)
  case atStart => exact ⟨l.length, _, by omega, Nat.le_refl _, rfl, by rw [Nat.sub_self]; exact own_nil _ _, Below.refl _ _⟩
  case round =>
    obtain ⟨s, K, hK, htl, rfl, hown, hbw⟩ := hrel
    have HB := Lib.hid hbw
    have hsz := hbw.size
    have HO := Lib.hid hown
    clear hown hbw
    cases s with
    | succ s =>
      obtain rfl : K = (s : Int) := by omega
      obtain ⟨b, off, rfl, lb0⟩ : ∃ b off, o = some ⟨b, off, none⟩ ∧ b < w.heap.size := by
        rcases HP.out with ⟨_, _, _, e2⟩ | ⟨b, off, _, e1, hb, _⟩
        · rw [e2] at htl; simp at htl
        · simp only [Value.slice.injEq] at e1
          exact ⟨b, off, e1.1, hb⟩
      have hA : ChgAt wr b (off + s * 6) (l.getD s c0) := ((row_at HP.out (by omega)).below lb0 (HW0.out.trans (Rc.out.mono (by omega)))).below (by omega) (HB.out.mono (Nat.le_refl _))
      have HV := Lib.hid (rev_take (ps := l) (t := s) (by omega))
      generalize l.getD s c0 = x at *
      obtain ⟨q0, q1, q2, q3, q4, q5⟩ := hA
      have hlt : (s : Int) < (l.length : Int) := by omega
      have hge : ¬ (s : Int) < 0 := by omega
      have lb : b < wr.heap.size := cell_lt q0
      have hlw : wc.heap.size ≤ wr.heap.size := hsz
      obtain ⟨av, nv, cv, rfl⟩ := own_shape HO.out
      have hln : (l.reverse.take (l.length - (s + 1))).length + 1 = (l.reverse.take (l.length - s)).length := by rw [HV.out, List.length_append]; rfl
      have hcap20 : (l.reverse.take (l.length - (s + 1))).length ≤ 20 := by rw [List.length_take, List.length_reverse]; omega
      go_wp2_with (at_builtin; (refine wpList_append_own _ rfl _ _ 40 rfl wc.heap.size 50 i0 (.agg #[.int .i64 0, .int .i64 0, .int .i64 0, .int .i64 0, .int .i64 0, .int .i64 0]) 6 48 Try.underlying40 hi1 hz0 hz1 hz2 rfl (by decide) _ _ _ rfl (HO.out.alloc _) ⟨wr.heap.size, 0, none⟩ 1 1 (ccells [x]) rfl rfl (new_row x wr) (ccells_one _) (by unfold maxLen; omega) (by omega) (by simp; omega) ?_); intro v' w2 hown hgrow _)
      rw [← ccells_append, hln, ← HV.out] at hown
      have HO3 := Lib.hid hown
      have HB3 := Lib.hid ((HB.out.alloc HB.out.size _).grown hgrow (Nat.le_trans HB.out.size (by simp)) (own_block HO.out))
      obtain ⟨a3, n3, c3, rfl⟩ := own_shape hown
      clear hown hgrow HO HB HV hln q0 q1 q2 q3 q4 q5
      go_wp2_with fail
      go_roundw
      case rel => exact ⟨s, _, by omega, by omega, rfl, HO3.out, HB3.out⟩
      case measure => first | (simp [intOf]; done) | (simp [intOf]; omega)
    | zero =>
      obtain rfl : K = -1 := by omega
      have HF := Lib.hid (rev_all HO.out)
      have Rr := Lib.hid (Rc.out.trans (HB.out.mono (by omega)))
      have HTr := Lib.hid (HT.out.below HB.out)
      have HUr := Lib.hid (HU.out.below HB.out)
      have AD := Lib.hid (add_fresh w.heap.size (w.heap.size + 1) _ l w wr HP.out (HW0.out.trans (Rr.out.mono (by omega))) (by omega) HTr.out (by omega) (by omega))
      obtain ⟨cb0, cb1, lw⟩ := HCB.out _ Rr.out
      clear HO hK htl HB HT HU
      go_wp2_with fail
      refine AD.out.mono ?_
      rintro e w3 ⟨he, v3, hT3, hO3, hr3⟩
      subst he
      have hb3 := added_below (B := (w.alloc (.cells #[.int .i64 f, .int .i64 t] 48)).heap.size) hO3 (by omega) (by omega)
      have R3 := Lib.hid (Rr.out.trans hb3)
      have HU3 := Lib.hid (HUr.out.keep hO3 (fun hs => by
        rcases hs with hs | hs
        · omega
        · simp [Value.ownBlock] at hs) (fun r e => by simp [Value.ownBlock] at e))
      have HF3 := Lib.hid (own_only HF.out hO3 (fun i hs => by
        rcases hs with hs | hs
        · omega
        · simp [Value.ownBlock] at hs))
      have hs3 := hO3.size
      have lrr : wc.heap.size ≤ wr.heap.size := hsz
      have AU := Lib.hid (add_any w.heap.size w1.heap.size (.slice none 0 0) _ [] l.reverse w3 (by omega) HU3.out (owns_row HF3.out).1 (fun r e => by
        have := own_block HF3.out r e
        exact ⟨by omega, by simp [Value.ownBlock]⟩) (fun c h => absurd h (by simp)) (by rw [List.length_reverse]; simp; omega))
      obtain ⟨ab, nb, cbk, rfl⟩ := own_shape HF.out
      clear cb0 cb1 lw AD hb3 HF HUr HTr
      rw [ha]
      have hT4 := hT3
      rw [hz, ← hys] at hT4
      unfold Added at AU
      rw [hrz] at AU
      obtain ⟨cb0, cb1, lw⟩ := HCB.out _ R3.out
      clear hT3
      go_wp2_with fail
      refine AU.out.mono ?_
      rintro e w5 ⟨rfl, v5, hT5, hO5, hr5⟩
      rw [hrl, ← hys, ← List.map_reverse] at hT5
      have hb5 := added_below (B := (w.alloc (.cells #[.int .i64 f, .int .i64 t] 48)).heap.size) hO5 (by omega) (by omega)
      have R5 := Lib.hid (R3.out.trans hb5)
      have HU5 := Lib.hid hT5
      have HT5 := Lib.hid (hT4.keep hO5 (fun hs => by
        rcases hs with hs | hs
        · omega
        · simp [Value.ownBlock] at hs) (fun r e hs => by
        rcases hs with hs | hs
        · rcases hr3 r e with h1 | h1
          · simp [Value.ownBlock] at h1
          · omega
        · simp [Value.ownBlock] at hs))
      clear hT4 hT5 hO5 hr5 hb5 hO3 hr3 cb0 cb1 lw AU HU3 HF3 R3
      obtain ⟨cb0, cb1, lw⟩ := HCB.out _ R5.out
      go_wp2_with fail
      refine (CX0.out v3 _ w5 HT5.out).mono ?_
      rintro e w10 ⟨rfl, b10⟩
      have R10 := Lib.hid (R5.out.trans (b10.mono R5.out.size))
      have HT10 := Lib.hid (HT5.out.below b10)
      have HU10 := Lib.hid (HU5.out.below b10)
      clear b10 CX0 HT5 HU5 R5 cb0 cb1 lw
      obtain ⟨cb0, cb1, lw⟩ := HCB.out _ R10.out
      go_wp2_with fail
      refine (CX1.out v3 _ w10 HT10.out).mono ?_
      rintro e w11 ⟨rfl, b11⟩
      have R11 := Lib.hid (R10.out.trans (b11.mono R10.out.size))
      have HT11 := Lib.hid (HT10.out.below b11)
      have HU11 := Lib.hid (HU10.out.below b11)
      clear b11 CX1 HT10 HU10 R10 cb0 cb1 lw
      obtain ⟨cb0, cb1, lw⟩ := HCB.out _ R11.out
      go_wp2_with fail
      refine (CX2.out v3 _ w11 HT11.out).mono ?_
      rintro e w12 ⟨rfl, b12⟩
      have R12 := Lib.hid (R11.out.trans (b12.mono R11.out.size))
      have HT12 := Lib.hid (HT11.out.below b12)
      have HU12 := Lib.hid (HU11.out.below b12)
      clear b12 CX2 HT11 HU11 R11 cb0 cb1 lw
      obtain ⟨cb0, cb1, lw⟩ := HCB.out _ R12.out
      go_wp2_with fail
      refine (CX3.out v5 _ w12 HU12.out).mono ?_
      rintro e w13 ⟨rfl, b13⟩
      have R13 := Lib.hid (R12.out.trans (b13.mono R12.out.size))
      have HT13 := Lib.hid (HT12.out.below b13)
      have HU13 := Lib.hid (HU12.out.below b13)
      clear b13 CX3 HT12 HU12 R12 cb0 cb1 lw
      obtain ⟨cb0, cb1, lw⟩ := HCB.out _ R13.out
      go_wp2_with fail
      refine (CX4.out v5 _ w13 HU13.out).mono ?_
      rintro e w14 ⟨rfl, b14⟩
      have R14 := Lib.hid (R13.out.trans (b14.mono R13.out.size))
      have HT14 := Lib.hid (HT13.out.below b14)
      have HU14 := Lib.hid (HU13.out.below b14)
      clear b14 CX4 HT13 HU13 R13 cb0 cb1 lw
      obtain ⟨cb0, cb1, lw⟩ := HCB.out _ R14.out
      go_wp2_with fail
      refine (CX5.out v5 _ w14 HU14.out).mono ?_
      rintro e w15 ⟨rfl, b15⟩
      have R15 := Lib.hid (R14.out.trans (b15.mono R14.out.size))
      have HT15 := Lib.hid (HT14.out.below b15)
      have HU15 := Lib.hid (HU14.out.below b15)
      clear b15 CX5 HT14 HU14 R14 cb0 cb1 lw
      clear HT15 HU15 HCB
      go_wp2_with fail
      refine (awake_true _).mono ?_
      rintro e w90 ⟨rfl, b90⟩
      have HR := Lib.hid (HW0.out.trans (R15.out.mono (by omega)))
      have HE := Lib.hid (HR.out.trans (b90.mono (HR.out).size))
      clear b90
      go_wp2_with fail
      go_ret
      exact ⟨rfl, HE.out⟩
set_option maxRecDepth 100000 in
set_option maxHeartbeats 1000000 in
theorem good (o : Option Addr) (len cap : Nat) (l : List Chg) (n f t : Int) (w : World) (h : ChgRow w (.slice o len cap) l) (hl : ¬ 20 < len) (hn : ¬ n < 0) (hm : ¬ 15 < n) (ha : (addAll [] l).2 = 0) (he : askErr n 64 f t = 0) : Calls Try.prog 5 #[.slice o len cap, .int .i64 n, .agg #[.int .i64 f, .int .i64 t]] w (Gives (.bool true) w) := by
  obtain ⟨hz, hv, hcalm⟩ := add_zero ha
  have hra := (add_reverse l).2 ha
  obtain ⟨hrl, _, _⟩ := add_zero hra
  have hll : l.length ≤ 20 := by have := row_len h; omega
  obtain ⟨ys, hys⟩ := vcs l hv
  have hyl : ys.length ≤ 20 := by rw [← List.length_map (f := fun z : VC => z.1), hys]; exact hll
  rw [← hys] at hcalm
  have CX0 := Lib.hid (fun (v2 : Value) (g : Nat) (w2 : World) (hT : TAt w2 w.heap.size g v2 ((ys).map (·.1))) => within_t_any w.heap.size g v2 (ys) n f t w2 (by first | omega | (rw [List.length_reverse]; omega)) hT)
  rw [told_ok he] at CX0
  have CX1 := Lib.hid (fun (v2 : Value) (g : Nat) (w2 : World) (hT : TAt w2 w.heap.size g v2 ((ys).map (·.1))) => touch_t_any w.heap.size g v2 (ys) n f t w2 (by first | omega | (rw [List.length_reverse]; omega)) hT)
  rw [told_ok he] at CX1
  have CX2 := Lib.hid (fun (v2 : Value) (g : Nat) (w2 : World) (hT : TAt w2 w.heap.size g v2 ((ys).map (·.1))) => busy_t_any w.heap.size g v2 (ys) n f t w2 (by first | omega | (rw [List.length_reverse]; omega)) hT)
  rw [told_ok (by rw [ask_same (by omega) (by omega)]; exact he)] at CX2
  have CX3 := Lib.hid (fun (v2 : Value) (g : Nat) (w2 : World) (hT : TAt w2 w.heap.size g v2 ((ys.reverse).map (·.1))) => within_t_any w.heap.size g v2 (ys.reverse) n f t w2 (by first | omega | (rw [List.length_reverse]; omega)) hT)
  rw [of_reverse, sum_reverse] at CX3
  rw [told_ok he] at CX3
  have CX4 := Lib.hid (fun (v2 : Value) (g : Nat) (w2 : World) (hT : TAt w2 w.heap.size g v2 ((ys.reverse).map (·.1))) => touch_t_any w.heap.size g v2 (ys.reverse) n f t w2 (by first | omega | (rw [List.length_reverse]; omega)) hT)
  rw [of_reverse, sum_reverse] at CX4
  rw [told_ok he] at CX4
  have CX5 := Lib.hid (fun (v2 : Value) (g : Nat) (w2 : World) (hT : TAt w2 w.heap.size g v2 ((ys.reverse).map (·.1))) => busy_t_any w.heap.size g v2 (ys.reverse) n f t w2 (by first | omega | (rw [List.length_reverse]; omega)) hT)
  rw [sum_reverse] at CX5
  rw [told_ok (by rw [ask_same (by omega) (by omega)]; exact he)] at CX5
  obtain ⟨_, _, f0, f1, t0, t1, ft⟩ := asked_zero he
  have B0 := sumOf_le (fun z : VC => inWin f t z.1) _ (inWin_bound f t) (ofServer n ys)
  have B1 : sumOf (fun z : VC => inWin f t z.1) (ofServer n ys) ≤ sumOf (fun z : VC => atWin f t z.1) (ofServer n ys) := sumOf_mono (in_at f t) _
  have B2 : sumOf (fun z : VC => atWin f t z.1) (ofServer n ys) ≤ t - f := at_way ft hcalm
  have B3 := sumOf_le (fun z : VC => busyWin n f t z.1) _ (busyWin_bound n f t) ys
  have B4 : sumOf (fun z : VC => busyWin n f t z.1) ys ≤ t - f := busy_way ft hcalm
  generalize sumOf (fun z : VC => inWin f t z.1) (ofServer n ys) = X0 at *
  generalize sumOf (fun z : VC => atWin f t z.1) (ofServer n ys) = X1 at *
  generalize sumOf (fun z : VC => busyWin n f t z.1) ys = X2 at *
  have g0 : 0 ≤ X0 := B0.1
  have g2 : 0 ≤ X2 := B3.1
  clear B0 B3 he
  have f2 : decide (0 ≤ X0) = true := decide_eq_true g0
  have f3 : decide (X0 ≤ X1) = true := decide_eq_true B1
  have f4 : decide (X1 ≤ t - f) = true := decide_eq_true B2
  have f5 : decide (0 ≤ X2) = true := decide_eq_true g2
  have f6 : decide (X2 ≤ t - f) = true := decide_eq_true B4
  have e3 : (X0 != X0) = false := by simp
  have e4 : (X1 != X1) = false := by simp
  have e5 : (X2 != X2) = false := by simp
  have hrz : (addAll [] l.reverse).2 = 0 := hra
  have d1 : decide (20 < (len : Int)) = false := decide_eq_false (by omega)
  have d2 : decide (n < 0) = false := decide_eq_false (by omega)
  have d3 : decide (15 < n) = false := decide_eq_false (by omega)
  have hlen := row_len h
  subst hlen
  have HP := Lib.hid h
  have hl2 : l.length ≤ 20 := by omega
  clear h
  obtain ⟨i0, hi1, hz0, hz1, hz2⟩ := info_parts Try.infoCharge
  have HCB := Lib.hid (fun (wx : World) (hx : Below (w.alloc (.cells #[.int .i64 f, .int .i64 t] 48)).heap.size (w.alloc (.cells #[.int .i64 f, .int .i64 t] 48)) wx) => And.intro ((hx.cell (p := ⟨w.heap.size, 0, none⟩) (by simp)).trans (show _ = some (Value.int .i64 f) by go_simp)) (And.intro ((hx.cell (p := ⟨w.heap.size, 1, none⟩) (by simp)).trans (show _ = some (Value.int .i64 t) by go_simp)) (show w.heap.size + 1 ≤ wx.heap.size by have := hx.size; simp at this; exact this)))
  have sz0 : (w.alloc (.cells #[.int .i64 f, .int .i64 t] 48)).heap.size = w.heap.size + 1 := by simp
  have HW0 : Hid (Below w.heap.size w (w.alloc (.cells #[.int .i64 f, .int .i64 t] 48))) := Lib.hid (bel_alloc (Below.refl _ _))
  go_enter Try.func5, Try.ntmps5
  go_wp2_with fail
  refine (new_any _).mono ?_
  rintro e w1 ⟨rfl, hT, hb⟩
  rw [sz0] at hT
  have R1 := Lib.hid hb
  have HT1 := Lib.hid (hT.base (B := w.heap.size))
  have l1 := hT.lt
  clear hT hb
  go_wp2_with fail
  refine (new_any _).mono ?_
  rintro e wc ⟨rfl, hU, hc⟩
  have Rc := Lib.hid (R1.out.trans (hc.mono R1.out.size))
  have HT := Lib.hid (HT1.out.below hc)
  have HU := Lib.hid (hU.base (B := w.heap.size))
  have lu := hU.lt
  have l3 : w.heap.size + 1 < wc.heap.size := by omega
  clear hU hc HT1
  go_wp2_with fail
  go_loopw [9, 10] (fun v kk wr => ∃ (s : Nat) (K : Int), K + 1 = s ∧ s ≤ l.length ∧ kk = .int .i64 K ∧ Owns wr wc.heap.size v (l.reverse.take (l.length - s)) ∧ Below wc.heap.size wc wr) (fun _ i _ => (intOf i + 1).toNat)
  case atStart => exact ⟨l.length, _, by omega, Nat.le_refl _, rfl, by rw [Nat.sub_self]; exact own_nil _ _, Below.refl _ _⟩
  case round =>
    obtain ⟨s, K, hK, htl, rfl, hown, hbw⟩ := hrel
    have HB := Lib.hid hbw
    have hsz := hbw.size
    have HO := Lib.hid hown
    clear hown hbw
    cases s with
    | succ s =>
      obtain rfl : K = (s : Int) := by omega
      obtain ⟨b, off, rfl, lb0⟩ : ∃ b off, o = some ⟨b, off, none⟩ ∧ b < w.heap.size := by
        rcases HP.out with ⟨_, _, _, e2⟩ | ⟨b, off, _, e1, hb, _⟩
        · rw [e2] at htl; simp at htl
        · simp only [Value.slice.injEq] at e1
          exact ⟨b, off, e1.1, hb⟩
      have hA : ChgAt wr b (off + s * 6) (l.getD s c0) := ((row_at HP.out (by omega)).below lb0 (HW0.out.trans (Rc.out.mono (by omega)))).below (by omega) (HB.out.mono (Nat.le_refl _))
      have HV := Lib.hid (rev_take (ps := l) (t := s) (by omega))
      generalize l.getD s c0 = x at *
      obtain ⟨q0, q1, q2, q3, q4, q5⟩ := hA
      have hlt : (s : Int) < (l.length : Int) := by omega
      have hge : ¬ (s : Int) < 0 := by omega
      have lb : b < wr.heap.size := cell_lt q0
      have hlw : wc.heap.size ≤ wr.heap.size := hsz
      obtain ⟨av, nv, cv, rfl⟩ := own_shape HO.out
      have hln : (l.reverse.take (l.length - (s + 1))).length + 1 = (l.reverse.take (l.length - s)).length := by rw [HV.out, List.length_append]; rfl
      have hcap20 : (l.reverse.take (l.length - (s + 1))).length ≤ 20 := by rw [List.length_take, List.length_reverse]; omega
      go_wp2_with (at_builtin; (refine wpList_append_own _ rfl _ _ 40 rfl wc.heap.size 50 i0 (.agg #[.int .i64 0, .int .i64 0, .int .i64 0, .int .i64 0, .int .i64 0, .int .i64 0]) 6 48 Try.underlying40 hi1 hz0 hz1 hz2 rfl (by decide) _ _ _ rfl (HO.out.alloc _) ⟨wr.heap.size, 0, none⟩ 1 1 (ccells [x]) rfl rfl (new_row x wr) (ccells_one _) (by unfold maxLen; omega) (by omega) (by simp; omega) ?_); intro v' w2 hown hgrow _)
      rw [← ccells_append, hln, ← HV.out] at hown
      have HO3 := Lib.hid hown
      have HB3 := Lib.hid ((HB.out.alloc HB.out.size _).grown hgrow (Nat.le_trans HB.out.size (by simp)) (own_block HO.out))
      obtain ⟨a3, n3, c3, rfl⟩ := own_shape hown
      clear hown hgrow HO HB HV hln q0 q1 q2 q3 q4 q5
      go_wp2_with fail
      go_roundw
      case rel => exact ⟨s, _, by omega, by omega, rfl, HO3.out, HB3.out⟩
      case measure => first | (simp [intOf]; done) | (simp [intOf]; omega)
    | zero =>
      obtain rfl : K = -1 := by omega
      have HF := Lib.hid (rev_all HO.out)
      have Rr := Lib.hid (Rc.out.trans (HB.out.mono (by omega)))
      have HTr := Lib.hid (HT.out.below HB.out)
      have HUr := Lib.hid (HU.out.below HB.out)
      have AD := Lib.hid (add_fresh w.heap.size (w.heap.size + 1) _ l w wr HP.out (HW0.out.trans (Rr.out.mono (by omega))) (by omega) HTr.out (by omega) (by omega))
      obtain ⟨cb0, cb1, lw⟩ := HCB.out _ Rr.out
      clear HO hK htl HB HT HU
      go_wp2_with fail
      refine AD.out.mono ?_
      rintro e w3 ⟨he, v3, hT3, hO3, hr3⟩
      subst he
      have hb3 := added_below (B := (w.alloc (.cells #[.int .i64 f, .int .i64 t] 48)).heap.size) hO3 (by omega) (by omega)
      have R3 := Lib.hid (Rr.out.trans hb3)
      have HU3 := Lib.hid (HUr.out.keep hO3 (fun hs => by
        rcases hs with hs | hs
        · omega
        · simp [Value.ownBlock] at hs) (fun r e => by simp [Value.ownBlock] at e))
      have HF3 := Lib.hid (own_only HF.out hO3 (fun i hs => by
        rcases hs with hs | hs
        · omega
        · simp [Value.ownBlock] at hs))
      have hs3 := hO3.size
      have lrr : wc.heap.size ≤ wr.heap.size := hsz
      have AU := Lib.hid (add_any w.heap.size w1.heap.size (.slice none 0 0) _ [] l.reverse w3 (by omega) HU3.out (owns_row HF3.out).1 (fun r e => by
        have := own_block HF3.out r e
        exact ⟨by omega, by simp [Value.ownBlock]⟩) (fun c h => absurd h (by simp)) (by rw [List.length_reverse]; simp; omega))
      obtain ⟨ab, nb, cbk, rfl⟩ := own_shape HF.out
      clear cb0 cb1 lw AD hb3 HF HUr HTr
      rw [ha]
      have hT4 := hT3
      rw [hz, ← hys] at hT4
      unfold Added at AU
      rw [hrz] at AU
      obtain ⟨cb0, cb1, lw⟩ := HCB.out _ R3.out
      clear hT3
      go_wp2_with fail
      refine AU.out.mono ?_
      rintro e w5 ⟨rfl, v5, hT5, hO5, hr5⟩
      rw [hrl, ← hys, ← List.map_reverse] at hT5
      have hb5 := added_below (B := (w.alloc (.cells #[.int .i64 f, .int .i64 t] 48)).heap.size) hO5 (by omega) (by omega)
      have R5 := Lib.hid (R3.out.trans hb5)
      have HU5 := Lib.hid hT5
      have HT5 := Lib.hid (hT4.keep hO5 (fun hs => by
        rcases hs with hs | hs
        · omega
        · simp [Value.ownBlock] at hs) (fun r e hs => by
        rcases hs with hs | hs
        · rcases hr3 r e with h1 | h1
          · simp [Value.ownBlock] at h1
          · omega
        · simp [Value.ownBlock] at hs))
      clear hT4 hT5 hO5 hr5 hb5 hO3 hr3 cb0 cb1 lw AU HU3 HF3 R3
      obtain ⟨cb0, cb1, lw⟩ := HCB.out _ R5.out
      go_wp2_with fail
      refine (CX0.out v3 _ w5 HT5.out).mono ?_
      rintro e w10 ⟨rfl, b10⟩
      have R10 := Lib.hid (R5.out.trans (b10.mono R5.out.size))
      have HT10 := Lib.hid (HT5.out.below b10)
      have HU10 := Lib.hid (HU5.out.below b10)
      clear b10 CX0 HT5 HU5 R5 cb0 cb1 lw
      obtain ⟨cb0, cb1, lw⟩ := HCB.out _ R10.out
      go_wp2_with fail
      refine (CX1.out v3 _ w10 HT10.out).mono ?_
      rintro e w11 ⟨rfl, b11⟩
      have R11 := Lib.hid (R10.out.trans (b11.mono R10.out.size))
      have HT11 := Lib.hid (HT10.out.below b11)
      have HU11 := Lib.hid (HU10.out.below b11)
      clear b11 CX1 HT10 HU10 R10 cb0 cb1 lw
      obtain ⟨cb0, cb1, lw⟩ := HCB.out _ R11.out
      go_wp2_with fail
      refine (CX2.out v3 _ w11 HT11.out).mono ?_
      rintro e w12 ⟨rfl, b12⟩
      have R12 := Lib.hid (R11.out.trans (b12.mono R11.out.size))
      have HT12 := Lib.hid (HT11.out.below b12)
      have HU12 := Lib.hid (HU11.out.below b12)
      clear b12 CX2 HT11 HU11 R11 cb0 cb1 lw
      obtain ⟨cb0, cb1, lw⟩ := HCB.out _ R12.out
      go_wp2_with fail
      refine (CX3.out v5 _ w12 HU12.out).mono ?_
      rintro e w13 ⟨rfl, b13⟩
      have R13 := Lib.hid (R12.out.trans (b13.mono R12.out.size))
      have HT13 := Lib.hid (HT12.out.below b13)
      have HU13 := Lib.hid (HU12.out.below b13)
      clear b13 CX3 HT12 HU12 R12 cb0 cb1 lw
      obtain ⟨cb0, cb1, lw⟩ := HCB.out _ R13.out
      go_wp2_with fail
      refine (CX4.out v5 _ w13 HU13.out).mono ?_
      rintro e w14 ⟨rfl, b14⟩
      have R14 := Lib.hid (R13.out.trans (b14.mono R13.out.size))
      have HT14 := Lib.hid (HT13.out.below b14)
      have HU14 := Lib.hid (HU13.out.below b14)
      clear b14 CX4 HT13 HU13 R13 cb0 cb1 lw
      obtain ⟨cb0, cb1, lw⟩ := HCB.out _ R14.out
      go_wp2_with fail
      refine (CX5.out v5 _ w14 HU14.out).mono ?_
      rintro e w15 ⟨rfl, b15⟩
      have R15 := Lib.hid (R14.out.trans (b15.mono R14.out.size))
      have HT15 := Lib.hid (HT14.out.below b15)
      have HU15 := Lib.hid (HU14.out.below b15)
      clear b15 CX5 HT14 HU14 R14 cb0 cb1 lw
      obtain ⟨cb0, cb1, lw⟩ := HCB.out _ R15.out
      clear HT15 HU15 HCB
      go_wp2_with fail
      refine (awake_true _).mono ?_
      rintro e w90 ⟨rfl, b90⟩
      have HR := Lib.hid (HW0.out.trans (R15.out.mono (by omega)))
      have HE := Lib.hid (HR.out.trans (b90.mono (HR.out).size))
      clear b90
      go_wp2_with fail
      go_ret
      exact ⟨rfl, HE.out⟩
theorem walk (v : Value) (l : List Chg) (n f t : Int) (w : World) (h : ChgRow w v l) (_ : ∀ x ∈ l, Fit6 x) (_ : SliceOk v) (_ : (Lit.int .i64 n).wf = true) (_ : (Lit.int .i64 f).wf = true) (_ : (Lit.int .i64 t).wf = true) :
    Calls Try.prog 5 #[v, .int .i64 n, .agg #[.int .i64 f, .int .i64 t]] w (Gives (.bool true) w) := by
  obtain ⟨o, len, cap, rfl⟩ := row_slice h
  by_cases hl : 20 < len
  · exact many o len cap l n f t w h hl
  by_cases hn : n < 0
  · exact neg o len cap l n f t w h hl hn
  by_cases hm : 15 < n
  · exact big o len cap l n f t w h hl hn hm
  by_cases ha : (addAll [] l).2 = 0
  · by_cases he : askErr n 64 f t = 0
    · exact good o len cap l n f t w h hl hn hm ha he
    · exact wrong o len cap l n f t w h hl hn hm ha he
  · exact bad o len cap l n f t w h hl hn hm ha

set_option maxRecDepth 100000 in
theorem lifted (os : Os) (started : os.Started) (H : Type) (enc : TypeId × Value → H) :
    ReturnsInHanded {} Try.checked os 5 .any (Rows.traceBoundsSpec.pre6 enc Try.prog Try.f5 Rows.traceBoundsRow.domain false) (Rows.traceBoundsSpec.post enc Try.prog Try.f5 false true false false) := by
  refine returnsInHanded_of_change (C := Try.checked) own started (by kernel_rfl) Try.func5
    (ChangeSpec.witness6 (enc := enc) (C := Try.checked) false ⟨#[], #[.slice none 0 0, .int .i64 0, .agg #[.int .i64 0, .int .i64 0]], []⟩ 8 (by kernel_rfl) (by kernel_rfl) (by kernel_rfl) (by kernel_rfl)) ?_
  intro W base args ds gs before hval0 hW hcnd _
  have hval : ∀ (j : Nat) t v, Try.f5.params[j]? = some t → args[j]? = some v → Value.okWide Try.prog W .any base t v := hval0
  have hW' := hW
  obtain ⟨p, q, hA0, hV, _, hfz, hnd⟩ := hW'
  have hA : DataW.TrodAll enc Try.prog W 0 (fun _ => true) true Try.f5.params.toList args.toList ds p := hA0
  rw [Try.params5] at hA hval
  obtain ⟨v0, v1, v2, d0, d1, d2, p0, p1, p2, rfl, _, _, h0, h1, h2⟩ := trodAll_three hA
  obtain ⟨l, hl, fl, kl⟩ := open_charges Try.underlying40 Try.underlying50 (by kernel_rfl) (fun i hi => by match i, hi with | 0, _ => exact ⟨_, rfl, rfl, by kernel_rfl, Try.underlying3⟩ | 1, _ => exact ⟨_, rfl, rfl, by kernel_rfl, Try.underlying3⟩ | 2, _ => exact ⟨_, rfl, rfl, by kernel_rfl, Try.underlying3⟩ | 3, _ => exact ⟨_, rfl, rfl, by kernel_rfl, Try.underlying3⟩ | 4, _ => exact ⟨_, rfl, rfl, by kernel_rfl, Try.underlying3⟩ | 5, _ => exact ⟨_, rfl, rfl, by kernel_rfl, Try.underlying3⟩) (hval 0 40 v0 rfl rfl) h0
  obtain ⟨n, rfl, _, _, wn⟩ := open_int Try.underlying3 (hval 1 3 v1 rfl rfl) h1
  obtain ⟨f, t, rfl, wf, wt⟩ := open_arr2 Try.underlying48 Try.underlying3 (by kernel_rfl) (by kernel_rfl) (hval 2 48 v2 rfl rfl) h2
  refine (walk v0 l n f t W hl fl kl wn wf wt).mono fun e W' h => ?_
  exact law_post (f := Try.f5) rfl rfl Try.underlying4 (by kernel_rfl) (fun ds hd => by
    match ds, hd with
    | [_, _, _], _ => rfl) hW h

theorem over : Rows.traceBoundsRow.holds Try.pinned (OpenSpec.ofChange Rows.traceBoundsSpec) :=
  OpenClaim.holds_of_wide 5 Try.f5 rfl rfl rfl rfl rfl rfl rfl ⟨rfl, rfl, rfl, rfl, rfl⟩ rfl rfl rfl rfl rfl (by kernel_rfl) Try.func5 (by kernel_rfl)
    (of_decide_eq_true (by kernel_rfl)) (by unfold Func.isWrapper; first | (rw [if_pos (by decide +kernel)]; kernel_rfl) | (rw [if_neg (by decide +kernel)]; exact ⟨rfl, rfl⟩))
    (fun os started H enc _ => lifted os started H enc)

/-- THE STATEMENT. -/
theorem proved : Rows.TraceBoundsSaid := over
end Go.Proofs.Ytfpifaccjfgfkaa.traceBounds
