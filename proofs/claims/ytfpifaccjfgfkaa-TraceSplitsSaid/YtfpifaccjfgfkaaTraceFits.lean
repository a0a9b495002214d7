/- What trace's both, and fits answer: which charges clash with others. Each theorem's premises are its conditions. -/
import Derived.Test.YtfpifaccjfgfkaaTraceSmall
namespace Go.Proofs.Ytfpifaccjfgfkaa
open Go.ChangeShapes Go.WideShapes Go.ChangeAt Go.RowKit Go.Deep

/-- how much two times have in common. -/
def bothOf (a b f t : Int) : Int := max 0 (min b t - max a f)
/-- a time. -/
def Tm (t : Int) : Prop := 0 ≤ t ∧ t ≤ 1099511627776
theorem both_any (c : Chg) (f t : Int) (hc : Tm c.fr) (hc' : Tm c.to) (hf : Tm f) (ht : Tm t) (w : World) :
    Calls Try.prog 37 #[.agg #[.int .i64 c.sv, .int .i64 c.wk, .int .i64 c.th, .int .i64 c.fr, .int .i64 c.to, .int .i64 c.n], .int .i64 f, .int .i64 t] w (Gives (.int .i64 (bothOf c.fr c.to f t)) w) := by
  obtain ⟨p1, p2⟩ := hc
  obtain ⟨p3, p4⟩ := hc'
  obtain ⟨p5, p6⟩ := hf
  obtain ⟨p7, p8⟩ := ht
  have hm := Lib.hid (show bothOf c.fr c.to f t = max 0 (min c.to t - max c.fr f) from rfl)
  generalize bothOf c.fr c.to f t = B at *
  go_enter Try.func37, Try.ntmps37
  go_wp2
  all_goals go_ret
  all_goals refine ⟨ret1 (int_eq ?_), bel_alloc (Below.refl _ _)⟩
  all_goals (rw [hm.out]; first | omega | (dsimp only [Array.getD]; omega))
/-- do two charges clash? -/
def Clash (o c : Chg) : Prop := (o.sv = c.sv ∨ o.wk = c.wk) ∧ 0 < bothOf o.fr o.to c.fr c.to
instance (o c : Chg) : Decidable (Clash o c) := by unfold Clash; exact inferInstance
theorem over_any (c o : Chg) (B : Nat) (w : World) (hc : Vld c) (ho : Vld o) (hb : ChgAt w B 0 c) :
    Calls Try.prog 48 #[.agg #[.int .i64 o.sv, .int .i64 o.wk, .int .i64 o.th, .int .i64 o.fr, .int .i64 o.to, .int .i64 o.n], .pointer (some ⟨B, 0, none⟩)] w (Gives (.bool (decide (Clash o c))) w) := by
  obtain ⟨_, _, _, _, _, _, u1, u2, u3, _⟩ := hc
  obtain ⟨_, _, _, _, _, _, v1, v2, v3, _⟩ := ho
  have BO := Lib.hid (both_any o c.fr c.to ⟨by omega, by omega⟩ ⟨by omega, by omega⟩ ⟨by omega, by omega⟩ ⟨by omega, by omega⟩)
  obtain ⟨q0, q1, q2, q3, q4, q5⟩ := hb
  have hd : decide (Clash o c) = ((decide (o.sv = c.sv) || decide (o.wk = c.wk)) && decide (0 < bothOf o.fr o.to c.fr c.to)) := by
    rw [show decide (Clash o c) = decide ((o.sv = c.sv ∨ o.wk = c.wk) ∧ 0 < bothOf o.fr o.to c.fr c.to) from decide_eq_decide.2 Iff.rfl, Bool.decide_and, Bool.decide_or]
  rw [hd]
  simp only [Nat.zero_add] at q1 q2 q3 q4 q5
  generalize bothOf o.fr o.to c.fr c.to = t at *
  have lb : B < w.heap.size := cell_lt q0
  clear hd u1 u2 u3 v1 v2 v3
  by_cases h1 : o.sv = c.sv
  · have e1 : (o.sv == c.sv) = true := by rw [beq_iff_eq]; exact h1
    have e2 : decide (o.sv = c.sv) = true := decide_eq_true h1
    rw [e2, Bool.true_or, Bool.true_and]
    clear h1
    go_enter Try.func48, Try.ntmps48
    go_wp2_with fail
    refine (BO.out _).mono ?_
    rintro e w1 ⟨rfl, b1⟩
    go_wp2_with fail
    go_ret
    exact ⟨rfl, bel_end (bel_alloc (Below.refl _ _)) b1⟩
  · have e1 : (o.sv == c.sv) = false := by rw [beq_eq_false_iff_ne]; exact h1
    have e2 : decide (o.sv = c.sv) = false := decide_eq_false h1
    rw [e2, Bool.false_or]
    clear h1
    by_cases h2 : o.wk = c.wk
    · have e3 : (o.wk == c.wk) = true := by rw [beq_iff_eq]; exact h2
      have e4 : decide (o.wk = c.wk) = true := decide_eq_true h2
      rw [e4, Bool.true_and]
      clear h2
      go_enter Try.func48, Try.ntmps48
      go_wp2_with fail
      refine (BO.out _).mono ?_
      rintro e w1 ⟨rfl, b1⟩
      go_wp2_with fail
      go_ret
      exact ⟨rfl, bel_end (bel_alloc (Below.refl _ _)) b1⟩
    · have e3 : (o.wk == c.wk) = false := by rw [beq_eq_false_iff_ne]; exact h2
      have e4 : decide (o.wk = c.wk) = false := decide_eq_false h2
      rw [e4, Bool.false_and]
      clear h2
      go_enter Try.func48, Try.ntmps48
      go_wp2_with fail
      go_ret
      exact ⟨rfl, bel_alloc (Below.refl _ _)⟩

/-- does one of them clash with it? -/
def anyClash (zs : List Chg) (c : Chg) : Bool := zs.any fun o => decide (Clash o c)
theorem anyClash_of {zs : List Chg} {c : Chg} {k : Nat} (h : k < zs.length) (hx : Clash (zs.getD k c0) c) : anyClash zs c = true := by
  unfold anyClash
  rw [List.any_eq_true]
  refine ⟨zs.getD k c0, ?_, by simpa using hx⟩
  have : zs.getD k c0 = zs[k] := by simp [List.getD, h]
  rw [this]; exact List.getElem_mem h
theorem anyClash_not {zs : List Chg} {c : Chg} (h : ∀ j, j < zs.length → ¬ Clash (zs.getD j c0) c) : anyClash zs c = false := by
  unfold anyClash
  rw [List.any_eq_false]
  intro x hx
  obtain ⟨j, hj, rfl⟩ := List.mem_iff_getElem.1 hx
  have h1 := h j hj
  have : zs.getD j c0 = zs[j] := by simp [List.getD, hj]
  rw [this] at h1
  simpa using h1
theorem vld_at {zs : List Chg} (h : ∀ c ∈ zs, Vld c) {k : Nat} (hk : k < zs.length) : Vld (zs.getD k c0) := by
  have : zs.getD k c0 = zs[k] := by simp [List.getD, hk]
  rw [this]; exact h _ (List.getElem_mem hk)

set_option maxHeartbeats 1000000 in
theorem index_some (b off cap B : Nat) (zs : List Chg) (c : Chg) (w : World) (hmax : zs.length ≤ 9223372036854775807) (hb : b < w.heap.size) (hz : ∀ x ∈ zs, Vld x) (hc : Vld c) (hB : ChgAt w B 0 c)
    (hcs : ∀ j, j < zs.length → ChgAt w b (off + j * 6) (zs.getD j c0)) :
    Calls Try.prog 56 #[.slice (some ⟨b, off, none⟩) zs.length cap, .func (.func 48) #[] #[.pointer (some ⟨B, 0, none⟩)]] w fun e w' => (∃ n : Int, e = .returned (.int .i64 n) ∧ decide (0 ≤ n) = anyClash zs c) ∧ Below w.heap.size w w' := by
  have HC := Lib.hid hcs
  have HZ := Lib.hid hz
  have HB := Lib.hid hB
  have hBl : B < w.heap.size := cell_lt hB.1
  have OV : Hid (∀ o, Vld o → ∀ w2, Below w.heap.size w w2 → Calls Try.prog 48 #[.agg #[.int .i64 o.sv, .int .i64 o.wk, .int .i64 o.th, .int .i64 o.fr, .int .i64 o.to, .int .i64 o.n], .pointer (some ⟨B, 0, none⟩)] w2 (Gives (.bool (decide (Clash o c))) w2)) := fun o ho w2 h2 => over_any c o B w2 hc ho (hB.below hBl h2)
  obtain ⟨len, hlen⟩ : ∃ n, zs.length = n := ⟨_, rfl⟩
  have HL := Lib.hid hlen
  rw [hlen]
  rw [hlen] at hmax
  clear hcs hlen hz hB hc
  go_enter Try.func56, Try.ntmps56
  go_wp2
  go_loopw [8] (fun i wr => ∃ k : Nat, k ≤ len ∧ i = .int .i64 k ∧ (∀ j, j < k → ¬ Clash (zs.getD j c0) c) ∧ Below w.heap.size w wr) (fun i _ => len - (intOf i).toNat)
  case atStart => exact ⟨0, by omega, rfl, fun j hj => by omega, Below.refl _ _⟩
  case round =>
    obtain ⟨k, hk, rfl, hd, hbw⟩ := hrel
    have HD := Lib.hid hd
    have HW := Lib.hid hbw
    clear hd hbw
    by_cases hlt : k < len
    · have hA : ChgAt wr b (off + k * 6) (zs.getD k c0) := (HC.out k (by rw [HL.out]; exact hlt)).below hb HW.out
      have hV := vld_at HZ.out (k := k) (by rw [HL.out]; exact hlt)
      have O1 := Lib.hid (OV.out _ hV wr HW.out)
      have HS : Hid (Clash (zs.getD k c0) c → anyClash zs c = true) := fun h => anyClash_of (by rw [HL.out]; exact hlt) h
      have HN : Hid (¬ Clash (zs.getD k c0) c → ∀ j, j < k + 1 → ¬ Clash (zs.getD j c0) c) := fun h j hj => by
        by_cases e : j = k
        · subst e; exact h
        · exact HD.out j (by omega)
      clear HD hV
      generalize zs.getD k c0 = x at *
      obtain ⟨x0, x1, x2, x3, x4, x5⟩ := hA
      have hlt' : (k : Int) < (len : Int) := by omega
      have lb : b < wr.heap.size := cell_lt x0
      by_cases h1 : Clash x c
      · have e1 : Hid (anyClash zs c = true) := HS.out h1
        rw [decide_eq_true h1] at O1
        clear HS HN h1
        go_wp2_with fail
        refine O1.out.mono ?_
        rintro e w1 ⟨rfl, b1⟩
        have HE := Lib.hid (bel_end HW.out b1)
        clear b1
        go_wp2_with fail
        go_ret
        exact ⟨⟨_, rfl, by rw [e1.out]; simp⟩, HE.out⟩
      · have e1 := Lib.hid (HN.out h1)
        rw [decide_eq_false h1] at O1
        clear HS HN h1
        go_wp2_with fail
        refine O1.out.mono ?_
        rintro e w1 ⟨rfl, b1⟩
        have HE := Lib.hid (bel_end HW.out b1)
        clear b1
        go_wp2_with fail
        exact ⟨⟨k + 1, by omega, by go_num, e1.out, HE.out⟩, by simp [intOf]; omega⟩
    · have hge : (len : Int) ≤ (k : Int) := by omega
      have e1 : Hid (anyClash zs c = false) := anyClash_not (fun j hj => HD.out j (by rw [HL.out] at hj; omega))
      clear HD
      go_wp2_with fail
      go_ret
      exact ⟨⟨-1, rfl, by rw [e1.out]; simp⟩, HW.out⟩
theorem index_empty (a0 : Option Addr) (cap B : Nat) (c : Chg) (w : World) :
    Calls Try.prog 56 #[.slice a0 0 cap, .func (.func 48) #[] #[.pointer (some ⟨B, 0, none⟩)]] w fun e w' => (∃ n : Int, e = .returned (.int .i64 n) ∧ decide (0 ≤ n) = anyClash [] c) ∧ Below w.heap.size w w' := by
  go_enter Try.func56, Try.ntmps56
  go_wp2
  refine wp_loop_rounds 1 ?_
  rw [rounds_succ]
  go_wp2_with fail
  go_ret
  exact ⟨⟨-1, rfl, rfl⟩, Below.refl _ _⟩
theorem contains_any (v : Value) (B : Nat) (zs : List Chg) (c : Chg) (w : World) (h : ChgRow w v zs) (hmax : zs.length ≤ 9223372036854775807) (hz : ∀ x ∈ zs, Vld x) (hc : Vld c) (hB : ChgAt w B 0 c) :
    Calls Try.prog 49 #[v, .func (.func 48) #[] #[.pointer (some ⟨B, 0, none⟩)]] w (Gives (.bool (anyClash zs c)) w) := by
  have I : Hid (Calls Try.prog 56 #[v, .func (.func 48) #[] #[.pointer (some ⟨B, 0, none⟩)]] w fun e w' => (∃ n : Int, e = .returned (.int .i64 n) ∧ decide (0 ≤ n) = anyClash zs c) ∧ Below w.heap.size w w') := by
    rcases h with ⟨a, cap, rfl, rfl⟩ | ⟨b, off, cap, rfl, hb, _, hcs⟩
    · exact index_empty a cap B c w
    · exact index_some b off cap B zs c w hmax hb hz hc hB hcs
  generalize anyClash zs c = t at *
  clear h hz hc hB
  go_enter Try.func49, Try.ntmps49
  go_wp2_with (go_at_call 56; refine (I.out).mono ?_; rintro e w' ⟨⟨n, rfl, hn⟩, hb⟩)
  go_ret
  exact ⟨ret1 (by rw [← hn]; rfl), hb⟩
end Go.Proofs.Ytfpifaccjfgfkaa
