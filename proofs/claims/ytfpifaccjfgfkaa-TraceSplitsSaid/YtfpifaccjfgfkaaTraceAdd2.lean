/- What trace.Add does. The theorem's premises are its conditions. -/
import Derived.Test.YtfpifaccjfgfkaaTraceAdd
import Derived.Deep.RegionLaw
namespace Go.Proofs.Ytfpifaccjfgfkaa
open Go.ChangeShapes Go.WideShapes Go.ChangeAt Go.RowKit Go.Deep

/-- charges put to the end, one by one, till one does not fit; then all is as it was. -/
def addGo (was : List Chg) : List Chg → List Chg → List Chg × Int
  | cur, [] => (cur, 0)
  | cur, c :: l => if fitsErr cur c = 0 then addGo was (cur ++ [c]) l else (was, fitsErr cur c)
def addAll (cs l : List Chg) : List Chg × Int := addGo cs cs l
theorem drop_c {zs : List Chg} {k : Nat} (hk : k < zs.length) : zs.drop k = zs.getD k c0 :: zs.drop (k + 1) := by
  rw [List.drop_eq_getElem_cons hk]
  simp [List.getD, hk]
theorem fits_vld {cs : List Chg} {c : Chg} (h : fitsErr cs c = 0) : Vld c := by
  unfold fitsErr at h
  split at h
  · rename_i h1; exact absurd h h1
  · rename_i h1; exact chk_zero.1 (Classical.not_not.1 h1)
theorem own_trunc {w : World} {B r cap : Nat} {cs cur : List Chg} {m : Nat} (h : Owns w B (.slice (some ⟨r, 0, none⟩) m cap) cur) (hm : cur.take cs.length = cs) : Owns w B (.slice (some ⟨r, 0, none⟩) cs.length cap) cs := by
  obtain ⟨_, ⟨e, _⟩ | ⟨g, cap', c', e, hB, hg, hn, hmx, hs, hc⟩⟩ := h
  · cases e
  · cases e
    have hle : cs.length ≤ cur.length := by
      have := congrArg List.length hm
      rw [List.length_take] at this
      omega
    refine ⟨ccells_length cs, .inr ⟨r, cap, c', rfl, hB, hg, by omega, hmx, hs, ?_⟩⟩
    have e2 : ccells cur = ccells cs ++ ccells (cur.drop cs.length) := by
      rw [← ccells_append]
      congr 1
      conv => lhs; rw [← List.take_append_drop cs.length cur, hm]
    have e3 : c'.toList.take (cs.length * 6) = (c'.toList.take (cur.length * 6)).take (cs.length * 6) := by
      rw [List.take_take, Nat.min_eq_left (by omega)]
    rw [e3, hc, e2, List.take_append_of_le_length (by rw [ccells_length]; omega)]
    exact List.take_of_length_le (by rw [ccells_length]; omega)
theorem own_set {w : World} {B : Nat} {v u : Value} {cs : List Chg} {a : Addr} (h : Owns w B v cs) (hne : v.ownBlock ≠ some a.block) : Owns (w.setCell a u) B v cs :=
  h.kept (row := some a.block) ⟨rfl, rfl, rfl, by simp, fun k _ hk => Below.heap_setCell _ _ _ _ (fun e => hk (by rw [e]))⟩ (.inr hne)
theorem TAt.set {w : World} {B g : Nat} {v u : Value} {cs : List Chg} (hlt : g < w.heap.size) (hf : w.frozen? ⟨g, 0, none⟩ = false) (hc : w.cell? ⟨g, 0, none⟩ = some u) (ho : Owns w B v cs) (hne : v.ownBlock ≠ some g) : TAt (w.setCell ⟨g, 0, none⟩ v) B g v cs :=
  ⟨by simpa using hlt, by rw [World.frozen?_setCell]; exact hf, World.cell?_setCell_same _ _ _ hc, own_set ho hne, hne⟩
theorem Only.far_cell {w w' : World} {S : Nat → Prop} (h : Only w w' S) {b o : Nat} {c : Chg} (hc : ChgAt w b o c) (hb : b < w.heap.size) (hS : ¬ S b) : ChgAt w' b o c := hc.same (h.block b hb hS)

set_option maxRecDepth 100000 in
set_option maxHeartbeats 4000000 in
theorem add_some (B g : Nat) (v : Value) (cs l : List Chg) (b off cap : Nat) (w : World) (hB : B ≤ w.heap.size) (h : TAt w B g v cs) (hb : b < w.heap.size) (hl : ∀ j, j < l.length → ChgAt w b (off + j * 6) (l.getD j c0))
    (hs1 : b ≠ g) (hs2 : v.ownBlock ≠ some b) (hv : ∀ c ∈ cs, Vld c) (hn : cs.length + l.length ≤ 4000) :
    Calls Try.prog 19 #[.pointer (some ⟨g, 0, none⟩), .slice (some ⟨b, off, none⟩) l.length cap] w fun e w' => e = .returned (.int .i64 (addAll cs l).2) ∧
      ∃ v', TAt w' B g v' (addAll cs l).1 ∧ Only w w' (fun k => k = g ∨ v.ownBlock = some k) ∧ ∀ r, v'.ownBlock = some r → v.ownBlock = some r ∨ w.heap.size ≤ r := by
  have HL := Lib.hid hl
  have HT := Lib.hid h
  have HV := Lib.hid hv
  obtain ⟨i0, hi1, hz0, hz1, hz2⟩ := info_parts Try.infoCharge
  obtain ⟨a0, len0, cap0, rfl⟩ := h.shape
  have hlen0 := row_len (owns_row h.own).1
  subst hlen0
  have x0 := h.cell
  have lb := h.lt
  have hbt := Lib.hid (And.intro hs1 hs2)
  clear hl h hv hs1 hs2
  go_enter Try.func19, Try.ntmps19
  go_wp2_with fail
  go_loopw [18] (fun i wr => ∃ (k : Nat) (cur : List Chg) (vc : Value), k ≤ l.length ∧ i = .int .i64 k ∧ TAt wr B g vc cur ∧ Only w wr (fun j => j = g ∨ (Value.slice a0 cs.length cap0).ownBlock = some j) ∧ (∀ r, vc.ownBlock = some r → (Value.slice a0 cs.length cap0).ownBlock = some r ∨ w.heap.size ≤ r) ∧ (∀ c ∈ cur, Vld c) ∧ cur.length = cs.length + k ∧ cur.take cs.length = cs ∧ addAll cs l = addGo cs cur (l.drop k)) (fun i _ => l.length - (intOf i).toNat)
  case atStart => exact ⟨0, cs, _, Nat.zero_le _, rfl, HT.out, Only.refl _ _, fun r e => .inl e, HV.out, rfl, List.take_length, rfl⟩
  case round =>
    obtain ⟨k, cur, vc, hk, rfl, hT, hO, hR, hV, hcl, hpre, hadd⟩ := hrel
    have HT1 := Lib.hid hT
    have HO1 := Lib.hid hO
    have HR1 := Lib.hid hR
    have HV1 := Lib.hid hV
    have HP1 := Lib.hid hpre
    have HA1 := Lib.hid hadd
    have HC1 := Lib.hid hcl
    clear hT hO hR hV hpre hadd hcl
    by_cases hlt : k < l.length
    · have hA : ChgAt wr b (off + k * 6) (l.getD k c0) := HO1.out.far_cell (HL.out k hlt) hb (fun hs => hs.elim hbt.out.1 hbt.out.2)
      have HS := Lib.hid (drop_c (zs := l) (k := k) hlt)
      generalize l.getD k c0 = x at *
      obtain ⟨q0, q1, q2, q3, q4, q5⟩ := hA
      have hlt' : (k : Int) < (l.length : Int) := by omega
      have lbb : b < wr.heap.size := cell_lt q0
      have FI : Hid (∀ w2, Below wr.heap.size wr w2 → Calls Try.prog 33 #[.pointer (some ⟨g, 0, none⟩), .agg #[.int .i64 x.sv, .int .i64 x.wk, .int .i64 x.th, .int .i64 x.fr, .int .i64 x.to, .int .i64 x.n]] w2 (Gives (.int .i64 (fitsErr cur x)) w2)) := fun w2 h2 => fits_any B g vc cur x w2 (HT1.out.below h2) HV1.out (by rw [HC1.out]; omega)
      by_cases he : fitsErr cur x = 0
      · have hvx := Lib.hid (fits_vld he)
        rw [he] at FI
        have HA2 : Hid (addAll cs l = addGo cs (cur ++ [x]) (l.drop (k + 1))) := by show _ = _; rw [HA1.out, HS.out]; conv => lhs; unfold addGo; rw [if_pos he]
        clear he HA1 HS x0 lb
        go_wp2_with fail
        refine (FI.out _ (bel_alloc (Below.refl _ _))).mono ?_
        rintro e w1 ⟨rfl, b1⟩
        have hb1 := bel_end (bel_alloc (Below.refl wr.heap.size wr)) b1
        have HT2 := Lib.hid (HT1.out.below hb1)
        have z0 := HT2.out.cell
        have zf := HT2.out.froz
        have zl := HT2.out.lt
        have y0 := (b1.cell (p := ⟨wr.heap.size, 0, none⟩) (by simp)).trans (show _ = some (Value.int .i64 x.sv) by go_simp)
        have y1 := (b1.cell (p := ⟨wr.heap.size, 1, none⟩) (by simp)).trans (show _ = some (Value.int .i64 x.wk) by go_simp)
        have y2 := (b1.cell (p := ⟨wr.heap.size, 2, none⟩) (by simp)).trans (show _ = some (Value.int .i64 x.th) by go_simp)
        have y3 := (b1.cell (p := ⟨wr.heap.size, 3, none⟩) (by simp)).trans (show _ = some (Value.int .i64 x.fr) by go_simp)
        have y4 := (b1.cell (p := ⟨wr.heap.size, 4, none⟩) (by simp)).trans (show _ = some (Value.int .i64 x.to) by go_simp)
        have y5 := (b1.cell (p := ⟨wr.heap.size, 5, none⟩) (by simp)).trans (show _ = some (Value.int .i64 x.n) by go_simp)
        have HB1 := Lib.hid hb1
        have lr : wr.heap.size < w1.heap.size := cell_lt y0
        clear b1 hb1 q0 q1 q2 q3 q4 q5 HT1
        have hln : (cur ++ [x]).length = cur.length + 1 := by rw [List.length_append]; rfl
        go_upto_region 11 with fail
        go_region_law (refine step_append_lies _ rfl (.tmp 41) (.tmp 43) 40 rfl B 50 i0 (.agg #[.int .i64 0, .int .i64 0, .int .i64 0, .int .i64 0, .int .i64 0, .int .i64 0]) 6 48 Try.underlying40 hi1 hz0 hz1 hz2 rfl (by decide) vc cur.length (ccells cur) rfl (World.ownsRow.alloc (World.ownsRow.drew HT2.out.own) _) ⟨w1.heap.size, 0, none⟩ 1 1 (ccells [x]) rfl rfl (fun j u hj => by obtain ⟨i', c', hi', hc', rfl, rfl⟩ := ccells_at hj; obtain rfl : i' = 0 := Nat.lt_one_iff.1 hi'; match c', hc' with | 0, _ => exact (by simp [Addr.add, cc]) | 1, _ => exact (by simp [Addr.add, cc]) | 2, _ => exact (by simp [Addr.add, cc]) | 3, _ => exact (by simp [Addr.add, cc]) | 4, _ => exact (by simp [Addr.add, cc]) | 5, _ => exact (by simp [Addr.add, cc])) (ccells_one _) (by omega) (by unfold maxLen; rw [HC1.out]; omega) (by rw [HC1.out]; omega) (by simp; have := HO1.out.size; have := HB1.out.size; omega) _ rfl ?_; intro g2 cap2 w2 hown hgrow hat hlt2; have s0 := (hgrow.cell_far ⟨g, 0, none⟩ (by simp; omega) (Ne.symm HT2.out.far)).trans (cell_alloc (o := .cells #[.int .i64 x.sv, .int .i64 x.wk, .int .i64 x.th, .int .i64 x.fr, .int .i64 x.to, .int .i64 x.n] 50) (show w1.drew.cell? ⟨g, 0, none⟩ = some vc from z0)); have sf := (hgrow.frozen_far ⟨g, 0, none⟩ (by simp; omega) (Ne.symm HT2.out.far)).trans (show _ = false by go_simp))
        all_goals
          have ho : Owns w2 B (.slice (some ⟨g2, 0, none⟩) (cur.length + 1) cap2) (cur ++ [x]) := by
            unfold Owns
            rw [hln, ccells_append]
            exact hown
          have hfar : (Value.slice (some ⟨g2, 0, none⟩) (cur.length + 1) cap2).ownBlock ≠ some g := by
            intro e
            have e' : g2 = g := by simpa [Value.ownBlock] using e
            rcases hat with h1 | h1
            · rw [e'] at h1; exact HT2.out.far h1
            · simp only [World.size_alloc, World.size_drew] at h1; omega
          have hT3 := Lib.hid (TAt.set (by have := hgrow.size; simp at this; omega) sf s0 ho hfar)
          have hO3 := Lib.hid (Only.set (a := ⟨g, 0, none⟩) (((HO1.out.trans (Only.of_below (S := fun _ => False) (bel_drew (bel_alloc HB1.out))) (fun _ h => h.elim)).grown hgrow (fun r e => by
            rcases HR1.out r e with h1 | h1
            · exact .inl (.inr h1)
            · exact .inr h1))) (.inl (.inl rfl)) (.slice (some ⟨g2, 0, none⟩) (cur.length + 1) cap2))
          have hR3 : Hid (∀ r, (Value.slice (some ⟨g2, 0, none⟩) (cur.length + 1) cap2).ownBlock = some r → (Value.slice a0 cs.length cap0).ownBlock = some r ∨ w.heap.size ≤ r) := by
            intro r e
            have e' : g2 = r := by simpa [Value.ownBlock] using e
            rcases hat with h1 | h1
            · rw [e'] at h1; exact HR1.out _ h1
            · refine .inr ?_
              simp only [World.size_alloc, World.size_drew] at h1
              have := HO1.out.size
              omega
          clear hown hgrow hat ho hfar s0 sf
          go_wp2_with fail
          go_roundw
          case rel => exact ⟨k + 1, cur ++ [x], _, by omega, by simp, hT3.out, hO3.out, hR3.out, (fun c hc => by
            rcases List.mem_append.1 hc with h1 | h1
            · exact HV1.out c h1
            · rw [List.mem_singleton] at h1; subst h1; exact hvx.out), by rw [hln, HC1.out]; omega, by rw [List.take_append_of_le_length (by rw [HC1.out]; omega)]; exact HP1.out, HA2.out⟩
          case measure => first | (simp [intOf]; done) | (simp [intOf]; omega)
      · have hadd : Hid (addAll cs l = (cs, fitsErr cur x)) := by show _ = _; rw [HA1.out, HS.out]; unfold addGo; rw [if_neg he]
        generalize fitsErr cur x = E at *
        have d1 : (E == 0) = false := by rw [beq_eq_false_iff_ne]; exact he
        have d2 : (E != 0) = true := by rw [bne_iff_ne]; exact he
        clear he HA1 HS x0 lb
        go_wp2_with fail
        refine (FI.out _ (bel_alloc (Below.refl _ _))).mono ?_
        rintro e w1 ⟨rfl, b1⟩
        have hb1 := bel_end (bel_alloc (Below.refl wr.heap.size wr)) b1
        have hT2 := HT1.out.below hb1
        have hcap := (owns_row hT2.own).2
        have hOw := hT2.own
        have hfar := hT2.far
        have z0 := hT2.cell
        have zf := hT2.froz
        have zl := hT2.lt
        have hO2 := HO1.out.trans (Only.of_below (S := fun _ => False) hb1) (fun _ h => h.elim)
        clear b1 hb1 q0 q1 q2 q3 q4 q5 HT1
        obtain ⟨a1, len1, cap1, rfl⟩ := hT2.shape
        have hlen1 := row_len (owns_row hT2.own).1
        subst hlen1
        obtain ⟨hc1, hc2⟩ := hcap.2 _ _ _ rfl
        have hle : cs.length ≤ cap1 := by rw [HC1.out] at hc1; omega
        have HE : Hid (∃ v', v' = Value.slice a1 cs.length cap1 ∧ Owns w1 B v' cs ∧ v'.ownBlock ≠ some g ∧ ∀ r, v'.ownBlock = some r → (Value.slice a0 cs.length cap0).ownBlock = some r ∨ w.heap.size ≤ r) := by
          refine ⟨_, rfl, ?_, ?_, ?_⟩
          · cases a1 with
            | none =>
              obtain ⟨h1, h2⟩ := hcap.1 _ _ rfl
              have h3 : cs = [] := List.length_eq_zero_iff.1 (by rw [HC1.out] at h1; omega)
              subst h3
              subst h2
              exact own_nil _ _
            | some ad =>
              have hoff : ∃ r, ad = ⟨r, 0, none⟩ := by
                obtain ⟨_, ⟨e, _⟩ | ⟨r, _, _, e, _⟩⟩ := hOw
                · cases e
                · cases e; exact ⟨r, rfl⟩
              obtain ⟨r, rfl⟩ := hoff
              exact own_trunc hOw HP1.out
          · intro e
            apply hfar
            cases a1 with
            | none => cases e
            | some ad => exact e
          · intro r e
            apply HR1.out r
            cases a1 with
            | none => cases e
            | some ad => exact e
        have HO2 := Lib.hid hO2
        clear hT2 hcap hOw hfar hO2 HR1
        go_wp2_with fail
        go_ret
        obtain ⟨v', hv', ho', hf', hr'⟩ := HE.out
        subst hv'
        exact ⟨ret1 (by rw [hadd.out]; rfl), _, by rw [hadd.out]; exact TAt.set zl zf z0 ho' hf', Only.set (a := ⟨g, 0, none⟩) HO2.out (.inl (.inl rfl)) _, hr'⟩
    · have hadd : Hid (addAll cs l = (cur, 0)) := by show _ = _; rw [HA1.out, List.drop_eq_nil_of_le (by omega)]; rfl
      have hge : (l.length : Int) ≤ (k : Int) := by omega
      go_wp2_with fail
      go_ret
      exact ⟨ret1 (by rw [hadd.out]; rfl), _, by rw [hadd.out]; exact HT1.out, HO1.out, HR1.out⟩
theorem add_empty (B g : Nat) (v : Value) (cs : List Chg) (a : Option Addr) (cap : Nat) (w : World) (h : TAt w B g v cs) :
    Calls Try.prog 19 #[.pointer (some ⟨g, 0, none⟩), .slice a 0 cap] w fun e w' => e = .returned (.int .i64 0) ∧ w' = w := by
  obtain ⟨a0, len0, cap0, rfl⟩ := h.shape
  have x0 := h.cell
  have lb := h.lt
  clear h
  go_enter Try.func19, Try.ntmps19
  go_wp2_with fail
  refine wp_loop_rounds 1 ?_
  rw [rounds_succ]
  go_wp2_with fail
  go_ret
  exact ⟨rfl, rfl⟩
/-- what Add leaves. -/
def Added (B g : Nat) (v : Value) (cs l : List Chg) (w : World) (e : Ending) (w' : World) : Prop :=
  e = .returned (.int .i64 (addAll cs l).2) ∧ ∃ v', TAt w' B g v' (addAll cs l).1 ∧ Only w w' (fun k => k = g ∨ v.ownBlock = some k) ∧ ∀ r, v'.ownBlock = some r → v.ownBlock = some r ∨ w.heap.size ≤ r
theorem add_any (B g : Nat) (v vl : Value) (cs l : List Chg) (w : World) (hB : B ≤ w.heap.size) (h : TAt w B g v cs) (hl : ChgRow w vl l) (hsep : ∀ b, vl.ownBlock = some b → b ≠ g ∧ v.ownBlock ≠ some b) (hv : ∀ c ∈ cs, Vld c) (hn : cs.length + l.length ≤ 4000) :
    Calls Try.prog 19 #[.pointer (some ⟨g, 0, none⟩), vl] w (Added B g v cs l w) := by
  rcases hl with ⟨a, cap, rfl, rfl⟩ | ⟨b, off, cap, rfl, hb, _, hc⟩
  · refine (add_empty B g v cs a cap w h).mono fun e w' hh => ?_
    obtain ⟨rfl, rfl⟩ := hh
    exact ⟨rfl, v, h, Only.refl _ _, fun r e => .inl e⟩
  · obtain ⟨s1, s2⟩ := hsep b rfl
    exact add_some B g v cs l b off cap w hB h hb hc s1 s2 hv hn
end Go.Proofs.Ytfpifaccjfgfkaa
