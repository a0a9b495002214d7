/- What trace.Excess answers. The theorem's premises are its conditions. -/
import Derived.Test.YtfpifaccjfgfkaaTraceExc0
import Derived.Deep.RegionHeld3
namespace Go.Proofs.Ytfpifaccjfgfkaa
open Go.ChangeShapes Go.WideShapes Go.ChangeAt Go.RowKit Go.Deep
attribute [local go_sem] Oper.semAt_some

theorem bel_drewN {B n : Nat} {w w' : World} (h : Below B w w') : Below B w (w'.drewN n) := ⟨h.os, h.tape, h.output, h.size, fun k hk => h.block k hk⟩
theorem exc_succ (q t : Int) (ts : List VC) (k : Nat) : excAt q t ts (k + 1 + 1) = (max (excAt q t ts (k + 1)).1 (max (ownOf q t (ts.getD (k + 1) default).1) ((excAt q t ts (k + 1)).2 + ownOf q t (ts.getD (k + 1) default).1 - q * ((ts.getD (k + 1) default).1.fr - (ts.getD k default).1.to))), max (ownOf q t (ts.getD (k + 1) default).1) ((excAt q t ts (k + 1)).2 + ownOf q t (ts.getD (k + 1) default).1 - q * ((ts.getD (k + 1) default).1.fr - (ts.getD k default).1.to))) := by
  rw [excAt]
  simp
theorem exc_one (q t : Int) (ts : List VC) : excAt q t ts 1 = (ownOf q t (ts.getD 0 default).1, ownOf q t (ts.getD 0 default).1) := by
  simp [excAt]
theorem chain_ends {ts : List VC} {m : Nat} (hc : Chain ts) (hm : ts.length = m + 1) : ∀ k, k < ts.length → (ts.getD 0 default).1.fr ≤ (ts.getD k default).1.fr ∧ (ts.getD k default).1.to ≤ (ts.getD m default).1.to := by
  intro k hk
  constructor
  · by_cases e : k = 0
    · rw [e]; exact Int.le_refl _
    · have := hc 0 k (by omega) hk
      obtain ⟨_, _, _, _, _, _, _, b1, _, _, _⟩ := (ts.getD 0 default).2
      omega
  · by_cases e : k = m
    · rw [e]; exact Int.le_refl _
    · have := hc k m (by omega) (by omega)
      obtain ⟨_, _, _, _, _, _, _, b1, _, _, _⟩ := (ts.getD m default).2
      omega
theorem row_vc {w : World} {b off cap len : Nat} {ts : List VC} (h : ChgRow w (.slice (some ⟨b, off, none⟩) len cap) (ts.map (·.1))) {k : Nat} (hk : k < ts.length) : ChgAt w b (off + k * 6) (ts.getD k default).1 := by
  have := row_at h (t := k) (by rw [List.length_map]; exact hk)
  rw [get_vc hk] at this
  rw [get_vd hk]
  exact this
instance (q d t : Int) : Decidable (ParamsMay q d t) := by unfold ParamsMay; exact inferInstance
/-- what is told of the excess. -/
def excTold (s q d t : Int) (ts : List VC) : Value :=
  if inB s 64 = false then .tuple #[.int .i64 0, .int .i64 1] else if ¬ ParamsMay q d t then .tuple #[.int .i64 0, .int .i64 1] else if 0 < ts.length ∧ 2147483648 < spanOf ts then .tuple #[.int .i64 0, .int .i64 11] else .tuple #[.int .i64 (excAt q t ts ts.length).1, .int .i64 0]
theorem asked_s (s : Int) : askErr s 64 0 0 = if inB s 64 = false then 1 else 0 := by
  unfold askErr
  cases inB s 64 <;> simp [first2, timeErr]
def Excd (ys : List VC) (s q d t : Int) (w : World) (e : Ending) (w' : World) : Prop :=
  Below w.heap.size w w' ∧ ∃ ts, ts.Perm (ofServer s ys) ∧ Ups ts ∧ e = .returned (excTold s q d t ts)
set_option maxRecDepth 100000 in
set_option maxHeartbeats 2000000 in
theorem exc_bad (g : Nat) (s q d t : Int) (w : World) (hbad : inB s 64 = false ∨ ¬ ParamsMay q d t) (ts : List VC) :
    Calls Try.prog 11 #[.pointer (some ⟨g, 0, none⟩), .int .i64 s, .agg #[.int .i64 q, .int .i64 d, .int .i64 t]] w (Gives (excTold s q d t ts) w) := by
  have AS := Lib.hid (asked_any g s 64 0 0)
  rw [asked_s] at AS
  unfold excTold
  by_cases h : inB s 64 = false
  · rw [if_pos h] at AS ⊢
    clear hbad h
    go_enter Try.func11, Try.ntmps11
    go_wp2_with fail
    refine (AS.out _).mono ?_
    rintro e w1 ⟨rfl, b1⟩
    have HB1 := Lib.hid ((bel_alloc (Below.refl w.heap.size w)).trans (b1.mono (by simp)))
    clear b1
    go_wp2_with fail
    go_ret2
    exact ⟨rfl, HB1.out⟩
  · have hp : ¬ ParamsMay q d t := hbad.resolve_left h
    rw [if_neg h] at AS ⊢
    rw [if_pos hp]
    have C := Lib.hid (pcheck_bad q d t hp)
    clear hbad h hp
    go_enter Try.func11, Try.ntmps11
    go_wp2_with fail
    refine (AS.out _).mono ?_
    rintro e w1 ⟨rfl, b1⟩
    have c0 := (b1.cell (p := ⟨w.heap.size, 0, none⟩) (by simp)).trans (show _ = some (Value.int .i64 q) by go_simp)
    have c1 := (b1.cell (p := ⟨w.heap.size, 1, none⟩) (by simp)).trans (show _ = some (Value.int .i64 d) by go_simp)
    have c2 := (b1.cell (p := ⟨w.heap.size, 2, none⟩) (by simp)).trans (show _ = some (Value.int .i64 t) by go_simp)
    have HB1 := Lib.hid ((bel_alloc (Below.refl w.heap.size w)).trans (b1.mono (by simp)))
    clear b1
    go_wp2_with fail
    refine (C.out _).mono ?_
    rintro e w2 ⟨rfl, b2⟩
    have HB2 := Lib.hid (HB1.out.trans (b2.mono HB1.out.size))
    clear b2
    go_wp2_with fail
    go_ret2
    exact ⟨rfl, HB2.out⟩
set_option maxRecDepth 100000 in
set_option maxHeartbeats 4000000 in
theorem exc_good (B g : Nat) (v : Value) (ys : List VC) (s q d t : Int) (w : World) (hs : inB s 64 = true) (hp : ParamsMay q d t) (hl : ys.length ≤ 4000) (h : TAt w B g v (ys.map (·.1))) (hc : Calm (ys.map (·.1))) :
    Calls Try.prog 11 #[.pointer (some ⟨g, 0, none⟩), .int .i64 s, .agg #[.int .i64 q, .int .i64 d, .int .i64 t]] w (Excd ys s q d t w) := by
  have AS := Lib.hid (asked_any g s 64 0 0)
  rw [asked_s, hs, if_neg (by decide)] at AS
  have C := Lib.hid (pcheck_ok q d t hp)
  have HP := Lib.hid hp
  have HT := Lib.hid h
  have HC := Lib.hid hc
  have hS := Lib.hid hs
  have hmf : ∀ (fn : Fn) (first cap : Array Value) (w : World), (Instr.makeFunc fn first cap).run Try.prog w = .ok (.func fn first cap) w := fun _ _ _ _ => rfl
  clear hp h hc hs
  go_enter Try.func11, Try.ntmps11
  go_wp2_with fail
  refine (AS.out _).mono ?_
  rintro e w1 ⟨rfl, b1⟩
  have c0 := (b1.cell (p := ⟨w.heap.size, 0, none⟩) (by simp)).trans (show _ = some (Value.int .i64 q) by go_simp)
  have c1 := (b1.cell (p := ⟨w.heap.size, 1, none⟩) (by simp)).trans (show _ = some (Value.int .i64 d) by go_simp)
  have c2 := (b1.cell (p := ⟨w.heap.size, 2, none⟩) (by simp)).trans (show _ = some (Value.int .i64 t) by go_simp)
  have HB1 := Lib.hid ((bel_alloc (Below.refl w.heap.size w)).trans (b1.mono (by simp)))
  clear b1
  go_wp2_with fail
  refine (C.out _).mono ?_
  rintro e w2 ⟨rfl, b2⟩
  replace c0 := (b2.cell (cell_lt c0)).trans c0
  replace c2 := (b2.cell (cell_lt c2)).trans c2
  have HB2 := Lib.hid (HB1.out.trans (b2.mono HB1.out.size))
  clear b2 c1
  go_wp2_with fail
  refine (of_any g s w2).mono ?_
  rintro e w3 ⟨rfl, b3, ck, cn⟩
  have HB3 := Lib.hid (HB2.out.trans (b3.mono HB2.out.size))
  replace c0 := (b3.cell (cell_lt c0)).trans c0
  replace c2 := (b3.cell (cell_lt c2)).trans c2
  have hof : (ofServer s ys).length ≤ 4000 := Nat.le_trans (List.length_filter_le _ _) hl
  have SH := Lib.hid (sorted_hands 46 #[.pointer (some ⟨w2.heap.size, 0, none⟩), .pointer (some ⟨w2.heap.size + 1, 0, none⟩)] (ofServer s ys) w3 (fun _ _ => rfl) hof (fun W hW => of_hands B g w2.heap.size (w2.heap.size + 1) v s ys w3 hl (HT.out.below HB3.out) ck cn W hW))
  clear b3 ck cn
  go_wp2_with fail
  refine SH.out.mono ?_
  rintro e w4 ⟨v4, ts, rfl, hperm, hup, hrow, b4⟩
  replace c0 := (b4.cell (cell_lt c0)).trans c0
  replace c2 := (b4.cell (cell_lt c2)).trans c2
  have HB4 := Lib.hid (HB3.out.trans (b4.mono HB3.out.size))
  have HR := Lib.hid hrow
  have HX := Lib.hid (And.intro hperm hup)
  have HCH := Lib.hid (chain_of HC.out hperm hup)
  have hlen : ts.length ≤ 4000 := by rw [hperm.length_eq]; exact hof
  obtain ⟨a, n, cap, rfl⟩ := row_slice hrow
  obtain rfl : n = ts.length := by rw [row_len hrow, List.length_map]
  clear hrow hperm hup b4 SH hof
  have lP : w.heap.size < w4.heap.size := cell_lt c0
  have hun : excTold s q d t ts = if 0 < ts.length ∧ 2147483648 < spanOf ts then .tuple #[.int .i64 0, .int .i64 11] else .tuple #[.int .i64 (excAt q t ts ts.length).1, .int .i64 0] := by
    unfold excTold
    rw [hS.out, if_neg (by decide), if_neg (fun h => h HP.out)]
  have HU := Lib.hid hun
  clear hun
  by_cases hm : ts = []
  · subst hm
    have e0 : excTold s q d t [] = .tuple #[.int .i64 0, .int .i64 0] := by rw [HU.out]; rfl
    have HE := Lib.hid e0
    clear e0 HU
    go_upto_region 9 with fail
    go_quiet (fail)
    go_wp2_with fail
    go_loopw [12, 13, 52] (fun bst run i wr => i = .int .i64 0 ∧ bst = .int .i64 0 ∧ run = .int .i64 0 ∧ Below w4.heap.size w4 wr) (fun _ _ _ _ => 0)
    case atStart => exact ⟨rfl, rfl, rfl, by first | exact Below.refl _ _ | exact bel_drewN (Below.refl _ _)⟩
    case round =>
      obtain ⟨rfl, rfl, rfl, hb⟩ := hrel
      have HB5 := Lib.hid (HB4.out.trans (hb.mono HB4.out.size))
      clear hb
      go_wp2_with fail
      go_ret2
      exact ⟨HB5.out, [], HX.out.1, HX.out.2, by rw [HE.out]; rfl⟩
  · obtain ⟨m, hm1⟩ : ∃ m, ts.length = m + 1 := ⟨ts.length - 1, by have := List.length_pos_iff.2 hm; omega⟩
    have hm0 : 0 < ts.length := by omega
    obtain ⟨b, off, rfl, lb⟩ : ∃ b off, a = some ⟨b, off, none⟩ ∧ b < w4.heap.size := by
      rcases HR.out with ⟨_, _, e1, e2⟩ | ⟨b, off, _, e1, hb, _⟩
      · exact absurd (List.map_eq_nil_iff.1 e2) hm
      · simp only [Value.slice.injEq] at e1
        exact ⟨b, off, e1.1, hb⟩
    have A0 := row_vc HR.out hm0
    have AL := row_vc HR.out (k := m) (by omega)
    have spn : spanOf ts = (ts.getD m default).1.to - (ts.getD 0 default).1.fr := by unfold spanOf; rw [hm1]; rfl
    obtain ⟨_, _, _, z3, _, _⟩ := A0
    obtain ⟨_, _, _, _, z4, _⟩ := AL
    have vf := (ts.getD 0 default).2
    have vl := (ts.getD m default).2
    obtain ⟨_, _, _, _, _, _, f0, f1, f2, _, _⟩ := vf
    obtain ⟨_, _, _, _, _, _, g0, g1, g2, _, _⟩ := vl
    rw [spn] at HU
    have hends := Lib.hid (chain_ends HCH.out hm1)
    generalize hL : (ts.getD m default).1.to = L at *
    generalize hF : (ts.getD 0 default).1.fr = F at *
    rw [hm1] at HU ⊢
    by_cases hsp : 2147483648 < L - F
    · rw [if_pos ⟨by omega, hsp⟩] at HU
      go_upto_region 9 with fail
      go_quiet (fail)
      go_wp2_with fail
      go_ret2
      exact ⟨by first | exact HB4.out | exact bel_drewN HB4.out, ts, HX.out.1, HX.out.2, by rw [HU.out]; rfl⟩
    · rw [if_neg (fun h => hsp h.2)] at HU
      go_upto_region 9 with fail
      go_quiet (fail)
      go_wp2_with fail
      have hspan : spanOf ts ≤ 2147483648 := by rw [spn]; omega
      have hpp := HP.out
      obtain ⟨p1, p2, p3, p4⟩ := hpp
      have EB := Lib.hid (exc_bound q t ts p1 (by omega) p4 HCH.out hspan)
      have HROW : Hid (∀ k, k < ts.length → ChgAt w4 b (off + k * 6) (ts.getD k default).1) := fun k hk => row_vc HR.out hk
      have hlast : Hid (∀ k, k < ts.length → F ≤ (ts.getD k default).1.fr ∧ (ts.getD k default).1.to ≤ L) := hends.out
      go_loopw [12, 13, 52] (fun bst run i wr => ∃ k : Nat, k ≤ m + 1 ∧ i = .int .i64 k ∧ bst = .int .i64 (excAt q t ts k).1 ∧ run = .int .i64 (excAt q t ts k).2 ∧ Below w4.heap.size w4 wr) (fun _ _ i _ => m + 1 - (intOf i).toNat)
      case atStart => exact ⟨0, Nat.zero_le _, rfl, rfl, rfl, by first | exact Below.refl _ _ | exact bel_drewN (Below.refl _ _)⟩
      case round =>
        obtain ⟨k, hk, rfl, rfl, rfl, hb⟩ := hrel
        have HB5 := Lib.hid hb
        have hsz := hb.size
        have d0 := (hb.cell (cell_lt c0)).trans c0
        have d2 := (hb.cell (cell_lt c2)).trans c2
        clear hb
        by_cases hlt : k < m + 1
        · have hA := (HROW.out k (by omega)).below lb HB5.out
          have hV := (ts.getD k default).2
          have hFL := hlast.out k (by omega)
          obtain ⟨q0, q1, q2, q3, q4, q5⟩ := hA
          obtain ⟨_, _, _, _, _, _, v0, v1, v2, v3, v4⟩ := hV
          have lbw : b < wr.heap.size := cell_lt q0
          have lPw : w.heap.size < wr.heap.size := cell_lt d0
          have hlt' : (k : Int) < ((m : Int) + 1) := by omega
          match k, hk, hlt with
          | 0, _, _ =>
            have XS := Lib.hid (exc_one q t ts)
            rw [Nat.zero_mul, Nat.add_zero] at q0 q1 q2 q3 q4 q5
            have hown : Hid (ownOf q t (ts.getD 0 default).1 = t * (ts.getD 0 default).1.n - q * ((ts.getD 0 default).1.to - (ts.getD 0 default).1.fr)) := rfl
            generalize (ts.getD 0 default).1.sv = Xs at *
            generalize (ts.getD 0 default).1.wk = Xw at *
            generalize (ts.getD 0 default).1.th = Xh at *
            generalize (ts.getD 0 default).1.fr = Xf at *
            generalize (ts.getD 0 default).1.to = Xt at *
            generalize (ts.getD 0 default).1.n = Xn at *
            subst hF
            have m1 := mul_bound (a := t) (b := Xn) (M := 2147483648) (by omega) p4 v3 (by omega)
            have m2 := mul_bound (a := q) (b := Xt - Xf) (M := 2147483648) (by omega) (by omega) (by omega) (by omega)
            go_wp2_with fail
            go_roundw
            case rel => exact ⟨1, by omega, rfl, by rw [XS.out, hown.out], by rw [XS.out, hown.out], HB5.out.trans (bel_alloc (Below.refl _ _) |>.mono hsz)⟩
            case measure => simp [intOf]
          | j + 1, _, hjm =>
            have hB := (HROW.out j (by omega)).below lb HB5.out
            obtain ⟨_, _, _, _, y4, _⟩ := hB
            have XS := Lib.hid (exc_succ q t ts j)
            have hown : Hid (ownOf q t (ts.getD (j + 1) default).1 = t * (ts.getD (j + 1) default).1.n - q * ((ts.getD (j + 1) default).1.to - (ts.getD (j + 1) default).1.fr)) := rfl
            obtain ⟨i1, i2, i3, i4⟩ := EB.out j (by omega)
            rw [hF] at i2
            have hFj := hlast.out j (by omega)
            have hch := HCH.out j (j + 1) (by omega) (by omega)
            have hVj := (ts.getD j default).2
            obtain ⟨_, _, _, _, _, _, _, u1, _, _, _⟩ := hVj
            generalize excAt q t ts (j + 1) = e at *
            obtain ⟨eb, er⟩ := e
            simp only at i1 i2 i3 i4
            generalize (ts.getD (j + 1) default).1.sv = Xs at *
            generalize (ts.getD (j + 1) default).1.wk = Xw at *
            generalize (ts.getD (j + 1) default).1.th = Xh at *
            generalize (ts.getD (j + 1) default).1.fr = Xf at *
            generalize (ts.getD (j + 1) default).1.to = Xt at *
            generalize (ts.getD (j + 1) default).1.n = Xn at *
            generalize (ts.getD j default).1.fr = Yf at *
            generalize (ts.getD j default).1.to = Yt at *
            have m1 := mul_bound (a := t) (b := Xn) (M := 2147483648) (by omega) p4 v3 (by omega)
            have m2 := mul_bound (a := q) (b := Xt - Xf) (M := 2147483648) (by omega) (by omega) (by omega) (by omega)
            have m3 := mul_bound (a := q) (b := Xf - Yt) (M := 2147483648) (by omega) (by omega) (by omega) (by omega)
            have m4 := mul_bound (a := q) (b := Yt - Yf) (M := 2147483648) (by omega) (by omega) (by omega) (by omega)
            have m5 := mul_bound (a := t) (b := Yt - F) (M := 2147483648) (by omega) p4 (by omega) (by omega)
            have m6 : -2305843009213693952 ≤ er ∧ er ≤ 2305843009213693952 := by omega
            clear i1 i2 m4 m5
            go_upto_region 17 with fail
            go_region
            all_goals
              have m7 : er + (t * Xn - q * (Xt - Xf)) - q * (Xf - Yt) ≥ -9223372036854775808 := by omega
              go_wp2_with fail
              go_roundw
              case rel => exact ⟨j + 1 + 1, by omega, rfl, by rw [XS.out, hown.out], by rw [XS.out, hown.out], HB5.out.trans (by first | exact (bel_drew (bel_alloc (Below.refl _ _))).mono hsz | exact (bel_alloc (Below.refl _ _)).mono hsz)⟩
              case measure => simp [intOf]; omega
        · obtain rfl : k = m + 1 := by omega
          have HB6 := Lib.hid (HB4.out.trans (HB5.out.mono HB4.out.size))
          go_wp2_with fail
          go_ret2
          exact ⟨HB6.out, ts, HX.out.1, HX.out.2, by rw [HU.out]; rfl⟩
end Go.Proofs.Ytfpifaccjfgfkaa
